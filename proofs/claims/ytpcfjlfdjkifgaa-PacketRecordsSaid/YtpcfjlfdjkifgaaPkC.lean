/-
  Contracts of package packet's Locate and of the reference's: each returns the place that the plain functions say; of what was in memory nothing changes.
-/
import Derived.Test.YtpcfjlfdjkifgaaPkB
import Derived.Deep.RegionWith
import Derived.Deep.DeepFit
namespace Go.Proofs.Ytpcfjlfdjkifgaa
open Go.RowKit Go.Lib
set_option linter.unusedVariables false
set_option linter.unusedSimpArgs false

def locP (s n : Int) : Int × Int × Int × Int := if nmI s n = 0 then (n / (s + 7), (plP s (n % (s + 7))).1, (plP s (n % (s + 7))).2, 0) else (0, 0, 0, nmI s n)
def locV (s n : Int) : Value := .tuple #[.agg #[.int .i64 (locP s n).1, .int .i64 (locP s n).2.1, .int .i64 (locP s n).2.2.1], .int .i64 (locP s n).2.2.2]

theorem Locate_any (s n : Int) (w : World) :
    Calls Try.prog 15 #[.int .i64 s, .int .i64 n] w fun e w' => e = .returned (locV s n) ∧ Below w.heap.size w w' := by
  by_cases h : nmI s n = 0
  · obtain ⟨h1, h2, h3, h4⟩ := nmI_zero h
    have q0 : 0 ≤ n % (s + 7) := Int.emod_nonneg _ (by omega)
    have q1 : n % (s + 7) < s + 7 := Int.emod_lt_of_pos _ (by omega)
    have q2 : 0 ≤ n / (s + 7) := Int.ediv_nonneg h3 (by omega)
    have q3 : n / (s + 7) ≤ n := Int.ediv_le_self _ h3
    have HP : Hid (locV s n = .tuple #[.agg #[.int .i64 (n / (s + 7)), .int .i64 (plP s (n % (s + 7))).1, .int .i64 (plP s (n % (s + 7))).2], .int .i64 0]) := by
      unfold Hid locV locP; rw [if_pos h]
    go_enter Try.func15, Try.ntmps15
    go_wp2_with (go_at_call 29; refine (numbered_any _ _ _).mono ?_; rintro e w' ⟨rfl, rfl⟩)
    have t3 : n.tdiv (s + 7) = n / (s + 7) := Int.tdiv_eq_ediv_of_nonneg h3
    have t2 : n.tmod (s + 7) = n % (s + 7) := Int.tmod_eq_emod_of_nonneg h3
    have t1 : IntKind.i64.wrap (n / (s + 7)) = n / (s + 7) := IntWalk.i64_in _ (by omega)
    have t4 : ((s + 7) == 0) = false := by simp; omega
    have t5 : ¬ (s + 7) = 0 := by omega
    have t6 : ¬ (s + 7) = -1 := by omega
    go_still_tail 7, (by kernel_rfl)
    clear t1 t2 t3 t4 t5 t6
    change wpList _ _ _ _ _ (w.alloc _).drew
    go_wp2_with (go_at_call 32; refine (place_any _ _ _ _ h1 h2 q0 q1).mono ?_; rintro e w1 ⟨rfl, hb⟩; obtain ⟨hc, hf⟩ := bcell hb)
    have hz : w.heap.size + 1 ≤ w1.heap.size := by have := hb.size; simp at this; omega
    have hbb : Below w.heap.size w w1 := ((Below.refl _ _).alloc (Nat.le_refl _) _).drew.trans (hb.mono (by simp))
    exact bodyPost_ret (v := .tuple #[.agg #[.int .i64 (n / (s + 7)), .int .i64 (plP s (n % (s + 7))).1, .int .i64 (plP s (n % (s + 7))).2], .int .i64 0]) (by simp [results, Try.results15, go_sem, hc]) rfl ⟨by rw [HP.out], ((hbb.setCell (Nat.le_refl _) _).setCell (Nat.le_refl _) _).setCell (Nat.le_refl _) _⟩
  · have HP : Hid (locV s n = .tuple #[.agg #[.int .i64 0, .int .i64 0, .int .i64 0], .int .i64 (nmI s n)]) := by
      unfold Hid locV locP; rw [if_neg h]
    go_enter Try.func15, Try.ntmps15
    go_wp2_with (go_at_call 29; refine (numbered_any _ _ _).mono ?_; rintro e w' ⟨rfl, rfl⟩)
    exact bodyPost_ret (v := .tuple #[.agg #[.int .i64 0, .int .i64 0, .int .i64 0], .int .i64 (nmI s n)]) (by simp [results, Try.results15, go_sem]) rfl ⟨by rw [HP.out], (Below.refl _ _).alloc (Nat.le_refl _) _⟩

end Go.Proofs.Ytpcfjlfdjkifgaa

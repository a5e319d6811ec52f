/-
  Contracts of the reference's sized, Sectors, Physical and Locate (package masterdiscref11): the same plain functions as package packet's.
-/
import Derived.Test.YtpcfjlfdjkifgaaPkC
import Derived.Deep.RegionWith
import Derived.Deep.DeepFit
namespace Go.Proofs.Ytpcfjlfdjkifgaa
open Go.RowKit Go.Lib
set_option linter.unusedVariables false
set_option linter.unusedSimpArgs false

theorem refSized_any (n : Int) (w : World) : Calls Try.prog 31 #[.int .i64 n] w fun e w' => e = .returned (.bool (szB n)) ∧ w = w' := by
  by_cases h1 : 1 ≤ n
  · by_cases h2 : n ≤ 1024
    · have hs : szB n = true := decide_eq_true ⟨h1, h2⟩
      rw [hs]; clear hs
      go_enter Try.func31, Try.ntmps31
      go_wp2
      go_ret
      exact ⟨rfl, rfl⟩
    · have hs : szB n = false := decide_eq_false (by omega)
      rw [hs]; clear hs
      go_enter Try.func31, Try.ntmps31
      go_wp2
      go_ret
      exact ⟨rfl, rfl⟩
  · have hs : szB n = false := decide_eq_false (by omega)
    rw [hs]; clear hs
    go_enter Try.func31, Try.ntmps31
    go_wp2
    go_ret
    exact ⟨rfl, rfl⟩

theorem nmI_cases (s n : Int) : (szB s = false ∧ nmI s n = 1) ∨ (szB s = true ∧ n < 0 ∧ nmI s n = 2) ∨ (szB s = true ∧ 449849 < n ∧ nmI s n = 2) ∨ (szB s = true ∧ 0 ≤ n ∧ n ≤ 449849 ∧ nmI s n = 0) := by
  unfold nmI
  by_cases hs : szB s = true
  · by_cases h0 : n < 0
    · exact .inr (.inl ⟨hs, h0, by rw [if_pos hs, if_neg (by omega)]⟩)
    · by_cases h1 : n ≤ 449849
      · exact .inr (.inr (.inr ⟨hs, by omega, h1, by rw [if_pos hs, if_pos (by omega)]⟩))
      · exact .inr (.inr (.inl ⟨hs, by omega, by rw [if_pos hs, if_neg (by omega)]⟩))
  · exact .inl ⟨by simpa using hs, by rw [if_neg hs]⟩

theorem refSectors_any (s n : Int) (w : World) : Calls Try.prog 12 #[.int .i64 s, .int .i64 n] w fun e w' => e = .returned (.tuple #[.int .i64 (secP s n).1, .int .i64 (secP s n).2]) ∧ w = w' := by
  rcases nmI_cases s n with ⟨hs, hn⟩ | ⟨hs, h0, hn⟩ | ⟨hs, h0, hn⟩ | ⟨hs, h3, h4, hn⟩
  · have hb : secP s n = (0, 1) := by unfold secP; rw [hn]; rfl
    rw [hb]
    clear hb hn
    go_enter Try.func12, Try.ntmps12
    go_wp2_with (go_at_call 31; refine (refSized_any _ _).mono ?_; rintro e w' ⟨rfl, rfl⟩)
    go_ret2
    exact ⟨rfl, rfl⟩
  · have hb : secP s n = (0, 2) := by unfold secP; rw [hn]; rfl
    rw [hb]
    clear hb hn
    go_enter Try.func12, Try.ntmps12
    go_wp2_with (go_at_call 31; refine (refSized_any _ _).mono ?_; rintro e w' ⟨rfl, rfl⟩)
    go_ret2
    exact ⟨rfl, rfl⟩
  · have hb : secP s n = (0, 2) := by unfold secP; rw [hn]; rfl
    rw [hb]
    clear hb hn
    go_enter Try.func12, Try.ntmps12
    go_wp2_with (go_at_call 31; refine (refSized_any _ _).mono ?_; rintro e w' ⟨rfl, rfl⟩)
    go_ret2
    exact ⟨rfl, rfl⟩
  · obtain ⟨h1, h2⟩ := szB_true hs
    obtain ⟨b1, b2, b3, b4, b5, b6⟩ := div_mul_bd (n + s - 1) s (by omega) (by omega) h1 h2
    have hb : secP s n = bdP ((n + s - 1) / s * (s + 7)) := by unfold secP; rw [if_pos hn]
    clear hn
    by_cases hg : (n + s - 1) / s * (s + 7) ≤ 449849
    · have hb2 : bdP ((n + s - 1) / s * (s + 7)) = ((n + s - 1) / s * (s + 7), 0) := by unfold bdP; rw [if_pos hg]
      rw [hb, hb2]
      clear hb hb2
      go_enter Try.func12, Try.ntmps12
      go_wp2_with (go_at_call 31; refine (refSized_any _ _).mono ?_; rintro e w' ⟨rfl, rfl⟩)
      go_ret2
      exact ⟨rfl, rfl⟩
    · have hb2 : bdP ((n + s - 1) / s * (s + 7)) = (0, 2) := by unfold bdP; rw [if_neg hg]
      rw [hb, hb2]
      clear hb hb2
      go_enter Try.func12, Try.ntmps12
      go_wp2_with (go_at_call 31; refine (refSized_any _ _).mono ?_; rintro e w' ⟨rfl, rfl⟩)
      go_ret2
      exact ⟨rfl, rfl⟩

theorem refPhysical_any (s n : Int) (w : World) : Calls Try.prog 14 #[.int .i64 s, .int .i64 n] w fun e w' => e = .returned (.tuple #[.int .i64 (phyP s n).1, .int .i64 (phyP s n).2]) ∧ ∃ m, w' = w.drewN m := by
  rcases nmI_cases s n with ⟨hs, hn⟩ | ⟨hs, h0, hn⟩ | ⟨hs, h0, hn⟩ | ⟨hs, h3, h4, hn⟩
  · have hb : phyP s n = (0, 1) := by unfold phyP; rw [hn]; rfl
    rw [hb]
    clear hb hn
    go_enter Try.func14, Try.ntmps14
    go_wp2_with (go_at_call 31; refine (refSized_any _ _).mono ?_; rintro e w' ⟨rfl, rfl⟩)
    go_ret2
    exact ⟨rfl, 0, rfl⟩
  · have hb : phyP s n = (0, 2) := by unfold phyP; rw [hn]; rfl
    rw [hb]
    clear hb hn
    go_enter Try.func14, Try.ntmps14
    go_wp2_with (go_at_call 31; refine (refSized_any _ _).mono ?_; rintro e w' ⟨rfl, rfl⟩)
    go_ret2
    exact ⟨rfl, 0, rfl⟩
  · have hb : phyP s n = (0, 2) := by unfold phyP; rw [hn]; rfl
    rw [hb]
    clear hb hn
    go_enter Try.func14, Try.ntmps14
    go_wp2_with (go_at_call 31; refine (refSized_any _ _).mono ?_; rintro e w' ⟨rfl, rfl⟩)
    go_ret2
    exact ⟨rfl, 0, rfl⟩
  · obtain ⟨h1, h2⟩ := szB_true hs
    obtain ⟨b1, b2, b3, b4, b5, b6⟩ := div_mul_bd (n) s (by omega) (by omega) h1 h2
    have hb : phyP s n = bdP (n / s * (s + 7) + 5 + n % s) := by unfold phyP; rw [if_pos hn]
    clear hn
    by_cases hg : n / s * (s + 7) + 5 + n % s ≤ 449849
    · have hb2 : bdP (n / s * (s + 7) + 5 + n % s) = (n / s * (s + 7) + 5 + n % s, 0) := by unfold bdP; rw [if_pos hg]
      rw [hb, hb2]
      clear hb hb2
      go_enter Try.func14, Try.ntmps14
      go_wp2_with (go_at_call 31; refine (refSized_any _ _).mono ?_; rintro e w' ⟨rfl, rfl⟩)
      go_quiet (fail)
      go_wp2
      go_ret2
      exact ⟨rfl, _, rfl⟩
    · have hb2 : bdP (n / s * (s + 7) + 5 + n % s) = (0, 2) := by unfold bdP; rw [if_neg hg]
      rw [hb, hb2]
      clear hb hb2
      go_enter Try.func14, Try.ntmps14
      go_wp2_with (go_at_call 31; refine (refSized_any _ _).mono ?_; rintro e w' ⟨rfl, rfl⟩)
      go_quiet (fail)
      go_wp2
      go_ret2
      exact ⟨rfl, _, rfl⟩

theorem refLocate_any (s n : Int) (w : World) :
    Calls Try.prog 16 #[.int .i64 s, .int .i64 n] w fun e w' => e = .returned (locV s n) ∧ Below w.heap.size w w' := by
  rcases nmI_cases s n with ⟨hs, hn⟩ | ⟨hs, h0, hn⟩ | ⟨hs, h0, hn⟩ | ⟨hs, h3, h4, hn⟩
  · have HP : Hid (locV s n = .tuple #[.agg #[.int .i64 0, .int .i64 0, .int .i64 0], .int .i64 1]) := by
      unfold Hid locV locP; rw [hn]; rfl
    clear hn
    go_enter Try.func16, Try.ntmps16
    go_wp2_with (go_at_call 31; refine (refSized_any _ _).mono ?_; rintro e w' ⟨rfl, rfl⟩)
    exact bodyPost_ret (v := .tuple #[.agg #[.int .i64 0, .int .i64 0, .int .i64 0], .int .i64 1]) (by simp [results, Try.results16, go_sem]) rfl ⟨by rw [HP.out], (Below.refl _ _).alloc (Nat.le_refl _) _⟩
  · have HP : Hid (locV s n = .tuple #[.agg #[.int .i64 0, .int .i64 0, .int .i64 0], .int .i64 2]) := by
      unfold Hid locV locP; rw [hn]; rfl
    clear hn
    go_enter Try.func16, Try.ntmps16
    go_wp2_with (go_at_call 31; refine (refSized_any _ _).mono ?_; rintro e w' ⟨rfl, rfl⟩)
    exact bodyPost_ret (v := .tuple #[.agg #[.int .i64 0, .int .i64 0, .int .i64 0], .int .i64 2]) (by simp [results, Try.results16, go_sem]) rfl ⟨by rw [HP.out], (Below.refl _ _).alloc (Nat.le_refl _) _⟩
  · have HP : Hid (locV s n = .tuple #[.agg #[.int .i64 0, .int .i64 0, .int .i64 0], .int .i64 2]) := by
      unfold Hid locV locP; rw [hn]; rfl
    clear hn
    go_enter Try.func16, Try.ntmps16
    go_wp2_with (go_at_call 31; refine (refSized_any _ _).mono ?_; rintro e w' ⟨rfl, rfl⟩)
    exact bodyPost_ret (v := .tuple #[.agg #[.int .i64 0, .int .i64 0, .int .i64 0], .int .i64 2]) (by simp [results, Try.results16, go_sem]) rfl ⟨by rw [HP.out], (Below.refl _ _).alloc (Nat.le_refl _) _⟩
  · obtain ⟨h1, h2⟩ := szB_true hs
    have q0 : 0 ≤ n % (s + 7) := Int.emod_nonneg _ (by omega)
    have q1 : n % (s + 7) < s + 7 := Int.emod_lt_of_pos _ (by omega)
    have q2 : 0 ≤ n / (s + 7) := Int.ediv_nonneg h3 (by omega)
    have q3 : n / (s + 7) ≤ n := Int.ediv_le_self _ h3
    have HP : Hid (locV s n = .tuple #[.agg #[.int .i64 (n / (s + 7)), .int .i64 (plP s (n % (s + 7))).1, .int .i64 (plP s (n % (s + 7))).2], .int .i64 0]) := by
      unfold Hid locV locP; rw [if_pos hn]
    clear hn
    go_enter Try.func16, Try.ntmps16
    go_wp2_with (go_at_call 31; refine (refSized_any _ _).mono ?_; rintro e w' ⟨rfl, rfl⟩)
    have t3 : n.tdiv (s + 7) = n / (s + 7) := Int.tdiv_eq_ediv_of_nonneg h3
    have t2 : n.tmod (s + 7) = n % (s + 7) := Int.tmod_eq_emod_of_nonneg h3
    have t1 : IntKind.i64.wrap (n / (s + 7)) = n / (s + 7) := IntWalk.i64_in _ (by omega)
    have t4 : ((s + 7) == 0) = false := by simp; omega
    have t5 : ¬ (s + 7) = 0 := by omega
    have t6 : ¬ (s + 7) = -1 := by omega
    have t7 : IntKind.i64.wrap (s + 7) = s + 7 := IntWalk.i64_in _ (by omega)
    go_still_tail 9, (by kernel_rfl)
    clear t1 t2 t3 t4 t5 t6 t7
    change wpList _ _ _ _ _ (w.alloc _).drew
    go_wp2_with (go_at_call 33; refine (refPlace_any _ _ _ _ h1 h2 q0 q1).mono ?_; rintro e w1 ⟨rfl, hb⟩; obtain ⟨hc, hf⟩ := bcell hb)
    have hz : w.heap.size + 1 ≤ w1.heap.size := by have := hb.size; simp at this; omega
    have hbb : Below w.heap.size w w1 := ((Below.refl _ _).alloc (Nat.le_refl _) _).drew.trans (hb.mono (by simp))
    exact bodyPost_ret (v := .tuple #[.agg #[.int .i64 (n / (s + 7)), .int .i64 (plP s (n % (s + 7))).1, .int .i64 (plP s (n % (s + 7))).2], .int .i64 0]) (by simp [results, Try.results16, go_sem, hc]) rfl ⟨by rw [HP.out], ((hbb.setCell (Nat.le_refl _) _).setCell (Nat.le_refl _) _).setCell (Nat.le_refl _) _⟩

end Go.Proofs.Ytpcfjlfdjkifgaa

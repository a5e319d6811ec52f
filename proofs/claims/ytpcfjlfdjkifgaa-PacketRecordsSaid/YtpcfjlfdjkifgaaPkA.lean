/-
  Contracts of package packet's small functions (sized, numbered, bounded, Sectors, Physical) and of the reference's, over this seat's program: each returns what the plain functions below say, for any numbers.
-/
import Derived.Test.YtpcfjlfdjkifgaaProg
import Derived.Below
import Derived.WalkKit
import Derived.KernelRfl
import Derived.Deep.QuietTactic
import Derived.BigQuiet
import Derived.Lib.Hide
namespace Go.Proofs.Ytpcfjlfdjkifgaa
open Go.RowKit Go.Lib
set_option linter.unusedVariables false

def szB (n : Int) : Bool := decide (1 ≤ n ∧ n ≤ 1024)
theorem szB_true {n : Int} (h : szB n = true) : 1 ≤ n ∧ n ≤ 1024 := of_decide_eq_true h
theorem szB_false {n : Int} (h : szB n = false) : n < 1 ∨ 1024 < n := by have := of_decide_eq_false h; omega
def nmI (s n : Int) : Int := if szB s = true then (if 0 ≤ n ∧ n ≤ 449849 then 0 else 2) else 1
def bdP (n : Int) : Int × Int := if n ≤ 449849 then (n, 0) else (0, 2)
def secP (s n : Int) : Int × Int := if nmI s n = 0 then bdP ((n + s - 1) / s * (s + 7)) else (0, nmI s n)
def phyP (s n : Int) : Int × Int := if nmI s n = 0 then bdP (n / s * (s + 7) + 5 + n % s) else (0, nmI s n)

theorem sized_any (n : Int) (w : World) : Calls Try.prog 34 #[.int .i64 n] w fun e w' => e = .returned (.bool (szB n)) ∧ w = w' := by
  by_cases h1 : 1 ≤ n
  · by_cases h2 : n ≤ 1024
    · have hs : szB n = true := decide_eq_true ⟨h1, h2⟩; rw [hs]; clear hs
      go_enter Try.func34, Try.ntmps34
      go_wp2
      go_ret
      exact ⟨rfl, rfl⟩
    · have hs : szB n = false := decide_eq_false (by omega); rw [hs]; clear hs
      go_enter Try.func34, Try.ntmps34
      go_wp2
      go_ret
      exact ⟨rfl, rfl⟩
  · have hs : szB n = false := decide_eq_false (by omega); rw [hs]; clear hs
    go_enter Try.func34, Try.ntmps34
    go_wp2
    go_ret
    exact ⟨rfl, rfl⟩

theorem numbered_any (s n : Int) (w : World) : Calls Try.prog 29 #[.int .i64 s, .int .i64 n] w fun e w' => e = .returned (.int .i64 (nmI s n)) ∧ w = w' := by
  by_cases hs : szB s = true
  · by_cases h1 : n < 0
    · have hn : nmI s n = 2 := by unfold nmI; rw [if_pos hs, if_neg (by omega)]
      rw [hn]; clear hn
      go_enter Try.func29, Try.ntmps29
      go_wp2_with (go_at_call 34; refine (sized_any _ _).mono ?_; rintro e w' ⟨rfl, rfl⟩)
      go_ret
      exact ⟨rfl, rfl⟩
    · by_cases h2 : n ≤ 449849
      · have hn : nmI s n = 0 := by unfold nmI; rw [if_pos hs, if_pos (by omega)]
        rw [hn]; clear hn
        go_enter Try.func29, Try.ntmps29
        go_wp2_with (go_at_call 34; refine (sized_any _ _).mono ?_; rintro e w' ⟨rfl, rfl⟩)
        go_ret
        exact ⟨rfl, rfl⟩
      · have hn : nmI s n = 2 := by unfold nmI; rw [if_pos hs, if_neg (by omega)]
        rw [hn]; clear hn
        go_enter Try.func29, Try.ntmps29
        go_wp2_with (go_at_call 34; refine (sized_any _ _).mono ?_; rintro e w' ⟨rfl, rfl⟩)
        go_ret
        exact ⟨rfl, rfl⟩
  · have hs' : szB s = false := by simpa using hs
    have hn : nmI s n = 1 := by unfold nmI; rw [if_neg hs]
    rw [hn]; clear hn
    clear hs
    go_enter Try.func29, Try.ntmps29
    go_wp2_with (go_at_call 34; refine (sized_any _ _).mono ?_; rintro e w' ⟨rfl, rfl⟩)
    go_ret
    exact ⟨rfl, rfl⟩

theorem bounded_any (n : Int) (w : World) : Calls Try.prog 30 #[.int .i64 n] w fun e w' => e = .returned (.tuple #[.int .i64 (bdP n).1, .int .i64 (bdP n).2]) ∧ w = w' := by
  by_cases h : n ≤ 449849
  · have hb : bdP n = (n, 0) := by unfold bdP; rw [if_pos h]
    rw [hb]
    clear hb
    go_enter Try.func30, Try.ntmps30
    go_wp2
    go_ret2
    exact ⟨rfl, rfl⟩
  · have hb : bdP n = (0, 2) := by unfold bdP; rw [if_neg h]
    rw [hb]
    clear hb
    go_enter Try.func30, Try.ntmps30
    go_wp2
    go_ret2
    exact ⟨rfl, rfl⟩

theorem nmI_zero {s n : Int} (h : nmI s n = 0) : 1 ≤ s ∧ s ≤ 1024 ∧ 0 ≤ n ∧ n ≤ 449849 := by
  unfold nmI at h
  by_cases hs : szB s = true
  · rw [if_pos hs] at h
    have := szB_true hs
    by_cases hn : 0 ≤ n ∧ n ≤ 449849
    · omega
    · rw [if_neg hn] at h; omega
  · rw [if_neg hs] at h; omega

theorem div_mul_bd (a s : Int) (h0 : 0 ≤ a) (h1 : a ≤ 460000) (h2 : 1 ≤ s) (h3 : s ≤ 1024) : 0 ≤ a / s ∧ a / s ≤ 460000 ∧ 0 ≤ a / s * (s + 7) ∧ a / s * (s + 7) ≤ 4000000 ∧ 0 ≤ a % s ∧ a % s < s := by
  have e := Int.mul_ediv_add_emod a s
  have m0 := Int.emod_nonneg a (show s ≠ 0 by omega)
  have m1 := Int.emod_lt_of_pos a (show 0 < s by omega)
  have d0 : 0 ≤ a / s := Int.ediv_nonneg h0 (by omega)
  have d1 : a / s ≤ a := Int.ediv_le_self _ h0
  have p0 : 0 ≤ a / s * (s + 7) := Int.mul_nonneg d0 (by omega)
  have e2 : a / s * (s + 7) = s * (a / s) + 7 * (a / s) := by rw [Int.mul_add, Int.mul_comm (a / s) s, Int.mul_comm (a / s) 7]
  refine ⟨d0, by omega, p0, by omega, m0, m1⟩

theorem Sectors_any (s n : Int) (w : World) : Calls Try.prog 11 #[.int .i64 s, .int .i64 n] w fun e w' => e = .returned (.tuple #[.int .i64 (secP s n).1, .int .i64 (secP s n).2]) ∧ w = w' := by
  by_cases h : nmI s n = 0
  · obtain ⟨h1, h2, h3, h4⟩ := nmI_zero h
    obtain ⟨b1, b2, b3, b4, b5, b6⟩ := div_mul_bd (n + s - 1) s (by omega) (by omega) h1 h2
    have hb : secP s n = bdP ((n + s - 1) / s * (s + 7)) := by unfold secP; rw [if_pos h]
    rw [hb]
    clear hb
    go_enter Try.func11, Try.ntmps11
    go_wp2_with (first | (go_at_call 29; refine (numbered_any _ _ _).mono ?_; rintro e w' ⟨rfl, rfl⟩) | (go_at_call 30; refine (bounded_any _ _).mono ?_; rintro e w' ⟨rfl, rfl⟩))
    go_ret2
    exact ⟨rfl, rfl⟩
  · have hb : secP s n = (0, nmI s n) := by unfold secP; rw [if_neg h]
    rw [hb]
    clear hb
    go_enter Try.func11, Try.ntmps11
    go_wp2_with (first | (go_at_call 29; refine (numbered_any _ _ _).mono ?_; rintro e w' ⟨rfl, rfl⟩) | (go_at_call 30; refine (bounded_any _ _).mono ?_; rintro e w' ⟨rfl, rfl⟩))
    go_ret2
    exact ⟨rfl, rfl⟩

theorem Physical_any (s n : Int) (w : World) : Calls Try.prog 13 #[.int .i64 s, .int .i64 n] w fun e w' => e = .returned (.tuple #[.int .i64 (phyP s n).1, .int .i64 (phyP s n).2]) ∧ ∃ m, w' = w.drewN m := by
  by_cases h : nmI s n = 0
  · obtain ⟨h1, h2, h3, h4⟩ := nmI_zero h
    obtain ⟨b1, b2, b3, b4, b5, b6⟩ := div_mul_bd n s (by omega) (by omega) h1 h2
    have hb : phyP s n = bdP (n / s * (s + 7) + 5 + n % s) := by unfold phyP; rw [if_pos h]
    rw [hb]
    clear hb
    go_enter Try.func13, Try.ntmps13
    go_wp2_with (first | (go_at_call 29; refine (numbered_any _ _ _).mono ?_; rintro e w' ⟨rfl, rfl⟩))
    go_quiet ((go_at_call 30; exact Calls.quiet_of_same ((bounded_any _ _).mono fun _ _ h => ⟨h.1, h.2.symm⟩)))
    go_wp2
    go_ret2
    exact ⟨rfl, _, rfl⟩
  · have hb : phyP s n = (0, nmI s n) := by unfold phyP; rw [if_neg h]
    rw [hb]
    clear hb
    go_enter Try.func13, Try.ntmps13
    go_wp2_with (first | (go_at_call 29; refine (numbered_any _ _ _).mono ?_; rintro e w' ⟨rfl, rfl⟩))
    go_ret2
    exact ⟨rfl, 0, rfl⟩

end Go.Proofs.Ytpcfjlfdjkifgaa

/-
  The law PacketCounts (package masterdisclaw11): the walk of its text returns true for any two numbers.
-/
import Derived.Test.YtpcfjlfdjkifgaaPkInv
namespace Go.Proofs.Ytpcfjlfdjkifgaa
open Go.RowKit Go.Lib
set_option linter.unusedVariables false
set_option linter.unusedSimpArgs false

theorem cnt_bad (s b : Int) (h : ¬ (secP s b).2 = 0) : ∃ e : Int, (e = 1 ∨ e = 2) ∧ secP s b = (0, e) := by
  unfold secP at h ⊢
  by_cases hn : nmI s b = 0
  · rw [if_pos hn] at h ⊢
    unfold bdP at h ⊢
    by_cases hg : (b + s - 1) / s * (s + 7) ≤ 449849
    · rw [if_pos hg] at h; exact absurd rfl h
    · rw [if_neg hg]; exact ⟨2, .inr rfl, rfl⟩
  · rw [if_neg hn]
    rcases nmI_cases s b with ⟨_, h⟩ | ⟨_, _, h⟩ | ⟨_, _, h⟩ | ⟨_, _, _, h⟩
    · exact ⟨1, .inl rfl, by rw [h]⟩
    · exact ⟨2, .inr rfl, by rw [h]⟩
    · exact ⟨2, .inr rfl, by rw [h]⟩
    · exact absurd h hn

/-- The numbers of the sectors of user blocks. -/
theorem cnt_plain (s b : Int) (h : (secP s b).2 = 0) : ∃ p n : Int, 1 ≤ s ∧ s ≤ 1024 ∧ 0 ≤ b ∧ b ≤ 449849 ∧ 0 ≤ p ∧ p ≤ 460000 ∧ 0 ≤ n ∧ n ≤ 449849 ∧ secP s b = (n, 0) ∧ n / (s + 7) = p ∧ n % (s + 7) = 0 ∧
    ((b = 0 ∧ p = 0 ∧ n = 0) ∨ (1 ≤ b ∧ b ≤ p * s ∧ p * s ≤ 460000 ∧ 0 ≤ (p - 1) * s ∧ (p - 1) * s < b ∧ ∃ m : Int, 0 ≤ m ∧ m < n ∧ phyP s (b - 1) = (m, 0))) := by
  have hn : nmI s b = 0 := by
    unfold secP at h
    by_cases hn : nmI s b = 0
    · exact hn
    · rw [if_neg hn] at h; exact absurd h hn
  obtain ⟨h1, h2, h3, h4⟩ := nmI_zero hn
  have hsb : szB s = true := decide_eq_true ⟨h1, h2⟩
  have hp : secP s b = bdP ((b + s - 1) / s * (s + 7)) := by unfold secP; rw [if_pos hn]
  by_cases hb0 : b = 0
  · subst hb0
    have e0 : (0 + s - 1) / s = 0 := Int.ediv_eq_zero_of_lt (by omega) (by omega)
    rw [e0] at hp
    refine ⟨0, 0, h1, h2, h3, h4, by omega, by omega, by omega, by omega, by rw [hp]; simp [bdP], by simp, by simp, .inl ⟨rfl, rfl, rfl⟩⟩
  · have hd := Int.mul_ediv_add_emod (b - 1) s
    have m0 := Int.emod_nonneg (b - 1) (show s ≠ 0 by omega)
    have m1 := Int.emod_lt_of_pos (b - 1) (show 0 < s by omega)
    have d0 : 0 ≤ (b - 1) / s := Int.ediv_nonneg (by omega) (by omega)
    have d1 : (b - 1) / s ≤ b - 1 := Int.ediv_le_self _ (by omega)
    have en : nmI s (b - 1) = 0 := by unfold nmI; rw [if_pos hsb, if_pos (by omega)]
    have ep : phyP s (b - 1) = bdP ((b - 1) / s * (s + 7) + 5 + (b - 1) % s) := by unfold phyP; rw [if_pos en]
    have e1 : (b + s - 1) / s = (b - 1) / s + 1 := by
      rw [show b + s - 1 = (b - 1) + 1 * s by omega, Int.add_mul_ediv_right _ _ (by omega)]
    rw [e1] at hp
    generalize hq : (b - 1) / s = q at *
    generalize hr : (b - 1) % s = r at *
    have x1 : (q + 1) * (s + 7) = s * q + 7 * q + s + 7 := by rw [Int.add_mul, Int.mul_add, Int.mul_comm q s, Int.mul_comm q 7]; omega
    have x2 : (q + 1) * s = s * q + s := by rw [Int.add_mul, Int.mul_comm q s]; omega
    have x3 : (q + 1 - 1) * s = s * q := by rw [Int.add_sub_cancel, Int.mul_comm]
    have x4 : q * (s + 7) = s * q + 7 * q := by rw [Int.mul_add, Int.mul_comm q s, Int.mul_comm q 7]
    have hN : (q + 1) * (s + 7) ≤ 449849 := by
      rw [hp] at h
      unfold bdP at h
      by_cases hN : (q + 1) * (s + 7) ≤ 449849
      · exact hN
      · rw [if_neg hN] at h; cases h
    have sq : 0 ≤ s * q := Int.mul_nonneg (by omega) d0
    obtain ⟨f1, f2⟩ := div_of (q + 1) 0 (s + 7) (by omega) (by omega)
    rw [Int.add_zero] at f1 f2
    refine ⟨q + 1, (q + 1) * (s + 7), h1, h2, h3, h4, by omega, by omega, by omega, hN, by rw [hp]; unfold bdP; rw [if_pos hN], f1, f2, .inr ⟨by omega, by omega, by omega, by omega, by omega, q * (s + 7) + 5 + r, by omega, by omega, ?_⟩⟩
    rw [ep]; unfold bdP; rw [if_pos (by omega)]

theorem cnt_zero (s : Int) (h1 : 1 ≤ s) (h2 : s ≤ 1024) (p1 : secP s 0 = (0, 0)) (w : World) :
    Calls Try.prog 6 #[.int .i64 s, .int .i64 0] w fun e w' => e = .returned (.bool true) ∧ Below w.heap.size w w' := by
  have C1 : ∀ w : World, Calls Try.prog 11 #[.int .i64 s, .int .i64 0] w fun e w' => e = .returned (.tuple #[.int .i64 0, .int .i64 0]) ∧ w = w' := fun w => by
    have := Sectors_any s 0 w; rw [p1] at this; exact this
  have H1 := hid C1
  clear C1 p1
  go_enter Try.func6, Try.ntmps6
  go_wp2_with fail
  refine (awake_any _).mono ?_
  rintro e w1 ⟨rfl, hb1⟩
  go_wp2_with fail
  refine (H1.out _).mono ?_
  rintro e w2 ⟨rfl, rfl⟩
  go_wp2_with fail
  go_ret
  exact ⟨rfl, hb1⟩

theorem cnt_core (s b p n m : Int) (h1 : 1 ≤ s) (h2 : s ≤ 1024) (h3 : 1 ≤ b) (h4 : b ≤ 449849) (q0 : 0 ≤ p) (q1 : p ≤ 460000) (n0 : 0 ≤ n) (n1 : n ≤ 449849) (eq : n / (s + 7) = p) (er : n % (s + 7) = 0)
    (c1 : b ≤ p * s) (c2 : p * s ≤ 460000) (c3 : 0 ≤ (p - 1) * s) (c4 : (p - 1) * s < b) (m0 : 0 ≤ m) (m1 : m < n) (p1 : secP s b = (n, 0)) (p2 : phyP s (b - 1) = (m, 0)) (w : World) :
    Calls Try.prog 6 #[.int .i64 s, .int .i64 b] w fun e w' => e = .returned (.bool true) ∧ Below w.heap.size w w' := by
  have C1 : ∀ w : World, Calls Try.prog 11 #[.int .i64 s, .int .i64 b] w fun e w' => e = .returned (.tuple #[.int .i64 n, .int .i64 0]) ∧ w = w' := fun w => by
    have := Sectors_any s b w; rw [p1] at this; exact this
  have C2 : ∀ w : World, Calls Try.prog 13 #[.int .i64 s, .int .i64 (b - 1)] w fun e' w' => e' = .returned (.tuple #[.int .i64 m, .int .i64 0]) ∧ ∃ m, w' = w.drewN m := fun w => by
    have := Physical_any s (b - 1) w; rw [p2] at this; exact this
  have H1 := hid C1
  have H2 := hid C2
  clear C1 C2 p1 p2
  go_enter Try.func6, Try.ntmps6
  go_wp2_with fail
  refine (awake_any _).mono ?_
  rintro e w1 ⟨rfl, hb1⟩
  go_wp2_with fail
  refine (H1.out _).mono ?_
  rintro e w2 ⟨rfl, rfl⟩
  go_wp2_with fail
  refine (H2.out _).mono ?_
  rintro e w2 ⟨rfl, k2, rfl⟩
  go_wp2_with fail
  go_ret
  exact ⟨rfl, bdrN hb1 _⟩

theorem PacketCounts_walk (a0 : Int) (a1 : Int) (w0 : (Lit.int .i64 a0).wf = true) (w1 : (Lit.int .i64 a1).wf = true) (w : World) :
    Calls Try.prog 6 #[.int .i64 a0, .int .i64 a1] w fun e w' => e = .returned (.bool true) ∧ Below w.heap.size w w' := by
  clear w0 w1
  by_cases h : (secP a0 a1).2 = 0
  · obtain ⟨p, n, h1, h2, h3, h4, q0, q1, n0, n1, p1, eq, er, hc⟩ := cnt_plain a0 a1 h
    rcases hc with ⟨rfl, rfl, rfl⟩ | ⟨hb, c1, c2, c3, c4, m, m0, m1, p2⟩
    · exact cnt_zero a0 h1 h2 p1 w
    · exact cnt_core a0 a1 p n m h1 h2 hb h4 q0 q1 n0 n1 eq er c1 c2 c3 c4 m0 m1 p1 p2 w
  · obtain ⟨e, he, p⟩ := cnt_bad a0 a1 h
    have C1 : ∀ w : World, Calls Try.prog 11 #[.int .i64 a0, .int .i64 a1] w fun e' w' => e' = .returned (.tuple #[.int .i64 0, .int .i64 e]) ∧ w = w' := fun w => by
      have := Sectors_any a0 a1 w; rw [p] at this; exact this
    have H1 := hid C1
    clear C1 p h
    rcases he with rfl | rfl
    all_goals
      go_enter Try.func6, Try.ntmps6
      go_wp2_with fail
      refine (awake_any _).mono ?_
      rintro e w1 ⟨rfl, hb1⟩
      go_wp2_with fail
      refine (H1.out _).mono ?_
      rintro e w2 ⟨rfl, rfl⟩
      go_wp2_with fail
      go_ret
      exact ⟨rfl, hb1⟩

end Go.Proofs.Ytpcfjlfdjkifgaa

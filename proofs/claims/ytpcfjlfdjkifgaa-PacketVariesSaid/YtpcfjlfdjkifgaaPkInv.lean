/-
  The law PacketInverse (package masterdisclaw11): the walk of its text returns true for any two numbers.
-/
import Derived.Test.YtpcfjlfdjkifgaaPkE
namespace Go.Proofs.Ytpcfjlfdjkifgaa
open Go.RowKit Go.Lib
set_option linter.unusedVariables false
set_option linter.unusedSimpArgs false

theorem div_of (q r t : Int) (h0 : 0 ≤ r) (h1 : r < t) : (q * t + r) / t = q ∧ (q * t + r) % t = r := by
  have ht : t ≠ 0 := by omega
  constructor
  · rw [Int.add_comm, Int.add_mul_ediv_right _ _ ht, Int.ediv_eq_zero_of_lt h0 h1]; omega
  · rw [Int.add_comm, Int.add_mul_emod_self_right]; exact Int.emod_eq_of_lt h0 h1

/-- The numbers of a user block that is on the disc: its sector, the place of that sector, and the sector of the next block. -/
theorem inv_plain (s b : Int) (h : (phyP s b).2 = 0) : ∃ q r n : Int, 1 ≤ s ∧ s ≤ 1024 ∧ 0 ≤ b ∧ b ≤ 449849 ∧ 0 ≤ q ∧ q ≤ 460000 ∧ 0 ≤ r ∧ r < s ∧ 0 ≤ n ∧ n ≤ 449849 ∧ b / s = q ∧ b % s = r ∧ phyP s b = (n, 0) ∧ locP s n = (q, 2, r, 0) ∧
    (phyP s (b + 1) = (0, 2) ∨ (r < s - 1 ∧ phyP s (b + 1) = (n + 1, 0)) ∨ (s - 1 ≤ r ∧ phyP s (b + 1) = (n + 8, 0))) := by
  have hn : nmI s b = 0 := by
    unfold phyP at h
    by_cases hn : nmI s b = 0
    · exact hn
    · rw [if_neg hn] at h; exact absurd h hn
  obtain ⟨h1, h2, h3, h4⟩ := nmI_zero hn
  obtain ⟨b1, b2, b3, b4, b5, b6⟩ := div_mul_bd b s (by omega) (by omega) h1 h2
  have hp : phyP s b = bdP (b / s * (s + 7) + 5 + b % s) := by unfold phyP; rw [if_pos hn]
  have hd := Int.mul_ediv_add_emod b s
  generalize hq : b / s = q at *
  generalize hr : b % s = r at *
  have hN : q * (s + 7) + 5 + r ≤ 449849 := by
    rw [hp] at h
    unfold bdP at h
    by_cases hN : q * (s + 7) + 5 + r ≤ 449849
    · exact hN
    · rw [if_neg hN] at h; cases h
  have e1 : phyP s b = (q * (s + 7) + 5 + r, 0) := by rw [hp]; unfold bdP; rw [if_pos hN]
  obtain ⟨d1, d2⟩ := div_of q (5 + r) (s + 7) (by omega) (by omega)
  have hn2 : nmI s (q * (s + 7) + 5 + r) = 0 := by
    rcases nmI_cases s (q * (s + 7) + 5 + r) with ⟨hs, hn⟩ | ⟨hs, h0, hn⟩ | ⟨hs, h0, hn⟩ | ⟨hs, h3, h4, hn⟩
    · have := szB_false hs; omega
    · omega
    · omega
    · exact hn
  refine ⟨q, r, q * (s + 7) + 5 + r, h1, h2, h3, h4, by omega, by omega, b5, b6, by omega, hN, rfl, rfl, e1, ?_, ?_⟩
  · unfold locP
    rw [if_pos hn2, Int.add_assoc, d1, d2]
    unfold plP
    by_cases r0 : r = 0
    · subst r0; rw [if_neg (by omega), if_neg (by omega), if_pos (by omega)]; simp
    · rw [if_neg (by omega), if_neg (by omega), if_pos (by omega)]; simp; omega
  · rcases nmI_cases s (b + 1) with ⟨hs, hn⟩ | ⟨hs, h0, hn⟩ | ⟨hs, h0, hn⟩ | ⟨hs, h3', h4', hn⟩
    · have := szB_false hs; omega
    · omega
    · exact .inl (by unfold phyP; rw [hn]; rfl)
    · have hp1 : phyP s (b + 1) = bdP ((b + 1) / s * (s + 7) + 5 + (b + 1) % s) := by unfold phyP; rw [if_pos hn]
      by_cases hl : r < s - 1
      · have e : b + 1 = q * s + (r + 1) := by rw [Int.mul_comm q s]; omega
        obtain ⟨f1, f2⟩ := div_of q (r + 1) s (by omega) (by omega)
        rw [e, f1, f2] at hp1
        rw [← e] at hp1
        by_cases hM : q * (s + 7) + 5 + (r + 1) ≤ 449849
        · refine .inr (.inl ⟨hl, ?_⟩)
          rw [hp1]; unfold bdP; rw [if_pos hM, Int.add_assoc _ r 1]
        · refine .inl ?_
          rw [hp1]; unfold bdP; rw [if_neg hM]
      · have e : b + 1 = (q + 1) * s + 0 := by rw [Int.add_mul, Int.mul_comm q s]; omega
        obtain ⟨f1, f2⟩ := div_of (q + 1) 0 s (by omega) (by omega)
        rw [e, f1, f2] at hp1
        rw [← e] at hp1
        have e2 : (q + 1) * (s + 7) + 5 + 0 = q * (s + 7) + 5 + r + 8 := by rw [Int.add_mul]; omega
        rw [e2] at hp1
        by_cases hM : q * (s + 7) + 5 + r + 8 ≤ 449849
        · refine .inr (.inr ⟨by omega, ?_⟩)
          rw [hp1]; unfold bdP; rw [if_pos hM]
        · refine .inl ?_
          rw [hp1]; unfold bdP; rw [if_neg hM]

/-- What the walk asks of one input. -/
theorem inv_core (s b q r n m e : Int) (h1 : 1 ≤ s) (h2 : s ≤ 1024) (h3 : 0 ≤ b) (h4 : b ≤ 449849) (q0 : 0 ≤ q) (q1 : q ≤ 460000) (r0 : 0 ≤ r) (r1 : r < s) (n0 : 0 ≤ n) (n1 : n ≤ 449849)
    (eq : b / s = q) (er : b % s = r) (p1 : phyP s b = (n, 0)) (p2 : locP s n = (q, 2, r, 0)) (p3 : phyP s (b + 1) = (m, e)) (hm : (m = 0 ∧ e = 2) ∨ (e = 0 ∧ r < s - 1 ∧ m = n + 1) ∨ (e = 0 ∧ s - 1 ≤ r ∧ m = n + 1 + 7)) (w : World) :
    Calls Try.prog 4 #[.int .i64 s, .int .i64 b] w fun e w' => e = .returned (.bool true) ∧ Below w.heap.size w w' := by
  have C1 : ∀ w : World, Calls Try.prog 13 #[.int .i64 s, .int .i64 b] w fun e w' => e = .returned (.tuple #[.int .i64 n, .int .i64 0]) ∧ ∃ m, w' = w.drewN m := fun w => by
    have := Physical_any s b w; rw [p1] at this; exact this
  have C2 : ∀ w : World, Calls Try.prog 15 #[.int .i64 s, .int .i64 n] w fun e w' => e = .returned (.tuple #[.agg #[.int .i64 q, .int .i64 2, .int .i64 r], .int .i64 0]) ∧ Below w.heap.size w w' := fun w => by
    have := Locate_tup s n w; rw [p2] at this; exact this
  have C3 : ∀ w : World, Calls Try.prog 13 #[.int .i64 s, .int .i64 (b + 1)] w fun e' w' => e' = .returned (.tuple #[.int .i64 m, .int .i64 e]) ∧ ∃ m, w' = w.drewN m := fun w => by
    have := Physical_any s (b + 1) w; rw [p3] at this; exact this
  have H1 := hid C1
  have H2 := hid C2
  have H3 := hid C3
  clear C1 C2 C3 p1 p2 p3
  have t1 : IntKind.i64.wrap q = q := IntWalk.i64_in _ (by omega)
  have t2 : IntKind.i64.wrap r = r := IntWalk.i64_in _ (by omega)
  have t3 : b.tdiv s = q := by rw [Int.tdiv_eq_ediv_of_nonneg h3]; exact eq
  have t4 : b.tmod s = r := by rw [Int.tmod_eq_emod_of_nonneg h3]; exact er
  have t5 : ¬ s = 0 := by omega
  have t6 : (s == 0) = false := by simpa using t5
  rcases hm with ⟨rfl, rfl⟩ | ⟨rfl, hr, rfl⟩ | ⟨rfl, hr, rfl⟩
  · go_enter Try.func4, Try.ntmps4
    go_wp2_with fail
    refine (awake_any _).mono ?_
    rintro e w1 ⟨rfl, hb1⟩
    go_wp2_with fail
    refine (H1.out _).mono ?_
    rintro e w2 ⟨rfl, k1, rfl⟩
    go_wp2_with fail
    refine (H2.out _).mono ?_
    rintro e w2 ⟨rfl, hb2⟩
    go_wp2_with fail
    go_quiet (fail)
    go_wp2_with fail
    refine (H3.out _).mono ?_
    rintro e w3 ⟨rfl, k3, rfl⟩
    go_wp2_with fail
    go_ret
    refine ⟨rfl, ?_⟩
    have b2 : Below w.heap.size w w2 := (bdrN hb1 _).trans (hb2.mono hb1.size)
    exact bdrN (b2.alloc b2.size _) _
  · go_enter Try.func4, Try.ntmps4
    go_wp2_with fail
    refine (awake_any _).mono ?_
    rintro e w1 ⟨rfl, hb1⟩
    go_wp2_with fail
    refine (H1.out _).mono ?_
    rintro e w2 ⟨rfl, k1, rfl⟩
    go_wp2_with fail
    refine (H2.out _).mono ?_
    rintro e w2 ⟨rfl, hb2⟩
    go_wp2_with fail
    go_quiet (fail)
    go_wp2_with fail
    refine (H3.out _).mono ?_
    rintro e w3 ⟨rfl, k3, rfl⟩
    go_wp2_with fail
    go_ret
    refine ⟨rfl, ?_⟩
    have b2 : Below w.heap.size w w2 := (bdrN hb1 _).trans (hb2.mono hb1.size)
    exact bdrN (b2.alloc b2.size _) _
  · go_enter Try.func4, Try.ntmps4
    go_wp2_with fail
    refine (awake_any _).mono ?_
    rintro e w1 ⟨rfl, hb1⟩
    go_wp2_with fail
    refine (H1.out _).mono ?_
    rintro e w2 ⟨rfl, k1, rfl⟩
    go_wp2_with fail
    refine (H2.out _).mono ?_
    rintro e w2 ⟨rfl, hb2⟩
    go_wp2_with fail
    go_quiet (fail)
    go_wp2_with fail
    refine (H3.out _).mono ?_
    rintro e w3 ⟨rfl, k3, rfl⟩
    go_wp2_with fail
    go_ret
    refine ⟨rfl, ?_⟩
    have b2 : Below w.heap.size w w2 := (bdrN hb1 _).trans (hb2.mono hb1.size)
    exact bdrN (b2.alloc b2.size _) _

theorem phyP_bad (s b : Int) (h : ¬ (phyP s b).2 = 0) : ∃ e : Int, (e = 1 ∨ e = 2) ∧ phyP s b = (0, e) := by
  unfold phyP at h ⊢
  by_cases hn : nmI s b = 0
  · rw [if_pos hn] at h ⊢
    unfold bdP at h ⊢
    by_cases hg : b / s * (s + 7) + 5 + b % s ≤ 449849
    · rw [if_pos hg] at h; exact absurd rfl h
    · rw [if_neg hg]; exact ⟨2, .inr rfl, rfl⟩
  · rw [if_neg hn]
    rcases nmI_cases s b with ⟨_, h⟩ | ⟨_, _, h⟩ | ⟨_, _, h⟩ | ⟨_, _, _, h⟩
    · exact ⟨1, .inl rfl, by rw [h]⟩
    · exact ⟨2, .inr rfl, by rw [h]⟩
    · exact ⟨2, .inr rfl, by rw [h]⟩
    · exact absurd h hn

theorem PacketInverse_walk (a0 : Int) (a1 : Int) (w0 : (Lit.int .i64 a0).wf = true) (w1 : (Lit.int .i64 a1).wf = true) (w : World) :
    Calls Try.prog 4 #[.int .i64 a0, .int .i64 a1] w fun e w' => e = .returned (.bool true) ∧ Below w.heap.size w w' := by
  clear w0 w1
  by_cases h : (phyP a0 a1).2 = 0
  · obtain ⟨q, r, n, h1, h2, h3, h4, q0, q1, r0, r1, n0, n1, eq, er, p1, p2, p3⟩ := inv_plain a0 a1 h
    rcases p3 with p3 | ⟨hr, p3⟩ | ⟨hr, p3⟩
    · exact inv_core a0 a1 q r n 0 2 h1 h2 h3 h4 q0 q1 r0 r1 n0 n1 eq er p1 p2 p3 (.inl ⟨rfl, rfl⟩) w
    · exact inv_core a0 a1 q r n (n + 1) 0 h1 h2 h3 h4 q0 q1 r0 r1 n0 n1 eq er p1 p2 p3 (.inr (.inl ⟨rfl, hr, rfl⟩)) w
    · exact inv_core a0 a1 q r n (n + 1 + 7) 0 h1 h2 h3 h4 q0 q1 r0 r1 n0 n1 eq er p1 p2 (by rw [p3, Int.add_assoc n 1 7]; rfl) (.inr (.inr ⟨rfl, hr, rfl⟩)) w
  · obtain ⟨e, he, p⟩ := phyP_bad a0 a1 h
    have C1 : ∀ w : World, Calls Try.prog 13 #[.int .i64 a0, .int .i64 a1] w fun e' w' => e' = .returned (.tuple #[.int .i64 0, .int .i64 e]) ∧ ∃ m, w' = w.drewN m := fun w => by
      have := Physical_any a0 a1 w; rw [p] at this; exact this
    have H1 := hid C1
    clear C1 p h
    rcases he with rfl | rfl
    all_goals
      go_enter Try.func4, Try.ntmps4
      go_wp2_with fail
      refine (awake_any _).mono ?_
      rintro e w1 ⟨rfl, hb1⟩
      go_wp2_with fail
      refine (H1.out _).mono ?_
      rintro e w2 ⟨rfl, k1, rfl⟩
      go_wp2_with fail
      go_ret
      exact ⟨rfl, bdrN hb1 _⟩

end Go.Proofs.Ytpcfjlfdjkifgaa

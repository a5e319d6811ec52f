/-
  The law SectorModes.
-/
import Derived.Test.YtieblfpdibpeeaaSeN
namespace Go.Proofs.Ytieblfpdibpeeaa
open Go.RowKit Go.Lib
set_option linter.unusedVariables false
set_option linter.unusedSimpArgs false

theorem modes_of (m a b n x e f : Int) (hc : capE m = (a, e)) (hs : spanE m = (x, n, e)) (he : e = 0 ∨ e = 1) (hx : 0 ≤ x) (hn : e = 0 → a ≤ n ∧ x + n + 4 ≤ 2352) (hb : 0 ≤ n ∧ n ≤ 3000 ∧ x ≤ 3000) (w : World) :
    Calls Try.prog 5 #[.int .i64 m] w fun e w' => e = .returned (.bool true) ∧ Below w.heap.size w w' := by
  have C1 : Hid (∀ w : World, Calls Try.prog 15 #[.int .i64 m] w fun e' w' => e' = .returned (.tuple #[.int .i64 a, .int .i64 e]) ∧ Below w.heap.size w w') := fun w => by
    have := Capacity_any m w
    rwa [hc] at this
  have C2 : Hid (∀ w : World, Calls Try.prog 16 #[.int .i64 m] w fun e' w' => e' = .returned (.tuple #[.int .i64 a, .int .i64 e]) ∧ w = w') := fun w => by
    have := refCapacity_any m w
    rwa [hc] at this
  have C3 : Hid (∀ w : World, Calls Try.prog 17 #[.int .i64 m] w fun e' w' => e' = .returned (.tuple #[.int .i64 x, .int .i64 n, .int .i64 e]) ∧ Below w.heap.size w w') := fun w => by
    have := Span_any m w
    rwa [hs] at this
  have C4 : Hid (∀ w : World, Calls Try.prog 18 #[.int .i64 m] w fun e' w' => e' = .returned (.tuple #[.int .i64 x, .int .i64 n, .int .i64 e]) ∧ w = w') := fun w => by
    have := refSpan_any m w
    rwa [hs] at this
  clear hc hs
  have d0 : decide (0 ≤ x) = true := decide_eq_true hx
  rcases he with rfl | rfl
  · obtain ⟨h1, h2⟩ := hn rfl
    have d1 : decide (a ≤ n) = true := decide_eq_true h1
    have d2 : decide (x + n + 4 ≤ 2352) = true := decide_eq_true h2
    clear hn
    go_enter Try.func5, Try.ntmps5
    go_wp2_with fail
    refine (awake_any _).mono ?_
    rintro e w1 ⟨rfl, hb1⟩
    go_wp2_with fail
    refine (C1.out _).mono ?_
    rintro e w2 ⟨rfl, hb2⟩
    go_wp2_with fail
    refine (C2.out _).mono ?_
    rintro e w3 ⟨rfl, rfl⟩
    go_wp2_with fail
    refine (C3.out _).mono ?_
    rintro e w3 ⟨rfl, hb3⟩
    go_wp2_with fail
    refine (C4.out _).mono ?_
    rintro e w4 ⟨rfl, rfl⟩
    go_wp2_with fail
    go_ret
    exact ⟨rfl, bthen (bthen hb1 hb2) hb3⟩
  · clear hn
    go_enter Try.func5, Try.ntmps5
    go_wp2_with fail
    refine (awake_any _).mono ?_
    rintro e w1 ⟨rfl, hb1⟩
    go_wp2_with fail
    refine (C1.out _).mono ?_
    rintro e w2 ⟨rfl, hb2⟩
    go_wp2_with fail
    refine (C2.out _).mono ?_
    rintro e w3 ⟨rfl, rfl⟩
    go_wp2_with fail
    refine (C3.out _).mono ?_
    rintro e w3 ⟨rfl, hb3⟩
    go_wp2_with fail
    refine (C4.out _).mono ?_
    rintro e w4 ⟨rfl, rfl⟩
    go_wp2_with fail
    go_ret
    exact ⟨rfl, bthen (bthen hb1 hb2) hb3⟩

theorem SectorModes_walk (a0 : Int) (w0 : (Lit.int .i64 a0).wf = true) (w : World) :
    Calls Try.prog 5 #[.int .i64 a0] w fun e w' => e = .returned (.bool true) ∧ Below w.heap.size w w' := by
  rcases mode_cases a0 with ⟨b, d, c, o, h⟩ | h
  · have g := h.bd
    exact modes_of a0 c 0 (d + c - o) o 0 0 h.cap h.span (.inl rfl) (by omega) (fun _ => by rcases h.or with q | q | q <;> omega) (by omega) w
  · exact modes_of a0 0 0 0 0 1 0 (cap_no h) (span_no h) (.inr rfl) (by omega) (fun q => absurd q (by decide)) (by omega) w
end Go.Proofs.Ytieblfpdibpeeaa

/-
  awake (package masterdisclaw11) returns true, and the law PacketMaps returns true for any numbers.
-/
import Derived.Test.YtpcfjlfdjkifgaaPkD
namespace Go.Proofs.Ytpcfjlfdjkifgaa
open Go.RowKit Go.Lib
set_option linter.unusedVariables false
set_option linter.unusedSimpArgs false

theorem bdrN {B : Nat} {a w : World} (h : Below B a w) (n : Nat) : Below B a (w.drewN n) := ⟨h.os, h.tape, h.output, h.size, h.block⟩
theorem Locate_tup (s n : Int) (w : World) : Calls Try.prog 15 #[.int .i64 s, .int .i64 n] w fun e w' => e = .returned (.tuple #[.agg #[.int .i64 (locP s n).1, .int .i64 (locP s n).2.1, .int .i64 (locP s n).2.2.1], .int .i64 (locP s n).2.2.2]) ∧ Below w.heap.size w w' := Locate_any s n w
theorem refLocate_tup (s n : Int) (w : World) : Calls Try.prog 16 #[.int .i64 s, .int .i64 n] w fun e w' => e = .returned (.tuple #[.agg #[.int .i64 (locP s n).1, .int .i64 (locP s n).2.1, .int .i64 (locP s n).2.2.1], .int .i64 (locP s n).2.2.2]) ∧ Below w.heap.size w w' := refLocate_any s n w

/-- A struct of three cells that was laid before a call is there behind it. -/
theorem keep3 {w1 w2 : World} {a b c : Value} {t : TypeId} (hb : Below (w1.alloc (.cells #[a, b, c] t)).heap.size (w1.alloc (.cells #[a, b, c] t)) w2) :
    w1.heap.size < w2.heap.size ∧ w2.cell? ⟨w1.heap.size, 0, none⟩ = some a ∧ w2.cell? ⟨w1.heap.size, 1, none⟩ = some b ∧ w2.cell? ⟨w1.heap.size, 2, none⟩ = some c := by
  have hs : w1.heap.size < (w1.alloc (.cells #[a, b, c] t)).heap.size := by simp
  refine ⟨Nat.lt_of_lt_of_le hs hb.size, ?_, ?_, ?_⟩
  · rw [hb.cell (p := ⟨w1.heap.size, 0, none⟩) hs]; simp
  · rw [hb.cell (p := ⟨w1.heap.size, 1, none⟩) hs]; simp
  · rw [hb.cell (p := ⟨w1.heap.size, 2, none⟩) hs]; simp

theorem awake_any (w : World) : Calls Try.prog 10 #[] w fun e w' => e = .returned (.bool true) ∧ Below w.heap.size w w' := by
  have c1 : ∀ w : World, Calls Try.prog 13 #[.int .i64 8, .int .i64 8] w fun e w' => e = .returned (.tuple #[.int .i64 20, .int .i64 0]) ∧ ∃ m, w' = w.drewN m := fun w => Physical_any 8 8 w
  have c2 : ∀ w : World, Calls Try.prog 15 #[.int .i64 8, .int .i64 13] w fun e w' => e = .returned (.tuple #[.agg #[.int .i64 0, .int .i64 3, .int .i64 0], .int .i64 0]) ∧ Below w.heap.size w w' := fun w => Locate_tup 8 13 w
  have c3 : ∀ w : World, Calls Try.prog 11 #[.int .i64 8, .int .i64 9] w fun e w' => e = .returned (.tuple #[.int .i64 30, .int .i64 0]) ∧ w = w' := fun w => Sectors_any 8 9 w
  have c4 : ∀ w : World, Calls Try.prog 15 #[.int .i64 8, .int .i64 15] w fun e w' => e = .returned (.tuple #[.agg #[.int .i64 1, .int .i64 0, .int .i64 0], .int .i64 0]) ∧ Below w.heap.size w w' := fun w => Locate_tup 8 15 w
  have H1 := hid c1
  have H2 := hid c2
  have H3 := hid c3
  have H4 := hid c4
  clear c1 c2 c3 c4
  go_enter Try.func10, Try.ntmps10
  go_wp2_with fail
  refine (H1.out _).mono ?_
  rintro e w1 ⟨rfl, m, rfl⟩
  go_wp2_with fail
  refine (H2.out _).mono ?_
  rintro e w1 ⟨rfl, hb1⟩
  go_wp2_with fail
  refine (H3.out _).mono ?_
  rintro e w2 ⟨rfl, rfl⟩
  go_wp2_with fail
  refine (H4.out _).mono ?_
  rintro e w2 ⟨rfl, hb2⟩
  obtain ⟨hz2, k0, k1, k2⟩ := keep3 hb2
  go_wp2_with fail
  go_ret
  refine ⟨rfl, ?_⟩
  have b1 : Below w.heap.size w w1 := (bdrN (Below.refl _ _) m).trans hb1
  have b1s : w.heap.size ≤ w1.heap.size := b1.size
  have b2 : Below w.heap.size w w2 := (b1.alloc b1s _).trans (hb2.mono (by simp; omega))
  exact b2.alloc b2.size _
end Go.Proofs.Ytpcfjlfdjkifgaa

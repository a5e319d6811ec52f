/-
  Contracts of package sector's layouts, edc, Capacity and Span, and of the reference's Capacity and Span.
-/
import Derived.Test.YtieblfpdibpeeaaEdP
namespace Go.Proofs.Ytieblfpdibpeeaa
open Go.RowKit Go.Lib
set_option linter.unusedVariables false
set_option linter.unusedSimpArgs false

theorem bdrew {B : Nat} {a w : World} (h : Below B a w) : Below B a w.drew := h.drew
theorem bset {w w1 : World} {p : Addr} (u : Value) (hp : w.heap.size ≤ p.block) (h : Below w.heap.size w w1) : Below w.heap.size w (w1.setCell p u) := h.setCell hp u
theorem brow {w w1 : World} (g : Nat) (cs : Array Value) (hg : w.heap.size ≤ g) (h : Below w.heap.size w w1) : Below w.heap.size w (w1.setRow g cs) := below_setRow h g cs hg
/-- A cell that is there stays behind a call. -/
theorem below_cell {w w1 : World} {p : Addr} {v : Value} (hb : Below w.heap.size w w1) (h : w.cell? p = some v) : w1.cell? p = some v := by
  by_cases hp : p.block < w.heap.size
  · rw [hb.cell hp]; exact h
  · rw [World.cell?, Array.getElem?_eq_none (by omega)] at h; simp at h
theorem alloc_cell {w : World} {o : Obj} {p : Addr} {v : Value} (h : w.cell? p = some v) : (w.alloc o).cell? p = some v := below_cell (balloc (Below.refl _ _) o) h

/-- The layout of a mode: the mode's byte, where the data begin, how many they are, and what the code covers. -/
structure IsLay (m b d c o : Int) : Prop where
  or : m = 0 ∧ b = 1 ∧ d = 16 ∧ c = 2048 ∧ o = 0 ∨ m = 1 ∧ b = 2 ∧ d = 24 ∧ c = 2048 ∧ o = 16 ∨ m = 2 ∧ b = 2 ∧ d = 24 ∧ c = 2324 ∧ o = 16

set_option maxRecDepth 100000 in
theorem layouts_ok (m b d c o : Int) (h : IsLay m b d c o) (w : World) : Calls Try.prog 26 #[.int .i64 m] w fun e w' => e = .returned (.tuple #[.agg #[.int .u8 b, .int .i64 d, .int .i64 c, .int .i64 o], .bool true]) ∧ Below w.heap.size w w' := by
  rcases h.or with ⟨rfl, rfl, rfl, rfl, rfl⟩ | ⟨rfl, rfl, rfl, rfl, rfl⟩ | ⟨rfl, rfl, rfl, rfl, rfl⟩
  all_goals
    go_enter Try.func26, Try.ntmps26
    go_wp2_with fail
    refine bodyPost_ret (by simp [results, Try.results26, go_sem]) rfl ⟨rfl, ?_⟩
    (repeat (first | exact Below.refl _ _ | assumption | refine balloc ?_ _ | refine bdrew ?_ | refine bdrN ?_ _ | refine bset _ (by first | omega | (simp; done) | (simp; omega)) ?_ | refine brow _ _ (by first | omega | (simp; done) | (simp; omega)) ?_ | (apply bthen; rotate_left; assumption)))
theorem layouts_no (m : Int) (h : m < 0 ∨ 2 < m) (w : World) : Calls Try.prog 26 #[.int .i64 m] w fun e w' => e = .returned (.tuple #[.agg #[.int .u8 0, .int .i64 0, .int .i64 0, .int .i64 0], .bool false]) ∧ Below w.heap.size w w' := by
  rcases h with h | h
  · go_enter Try.func26, Try.ntmps26
    go_wp2_with fail
    refine bodyPost_ret (by simp [results, Try.results26, go_sem]) rfl ⟨rfl, ?_⟩
    (repeat (first | exact Below.refl _ _ | assumption | refine balloc ?_ _ | refine bdrew ?_ | refine bdrN ?_ _ | refine bset _ (by first | omega | (simp; done) | (simp; omega)) ?_ | refine brow _ _ (by first | omega | (simp; done) | (simp; omega)) ?_ | (apply bthen; rotate_left; assumption)))
  · have d1 : decide (m < 0) = false := decide_eq_false (by omega)
    go_enter Try.func26, Try.ntmps26
    go_wp2_with fail
    refine bodyPost_ret (by simp [results, Try.results26, go_sem]) rfl ⟨rfl, ?_⟩
    (repeat (first | exact Below.refl _ _ | assumption | refine balloc ?_ _ | refine bdrew ?_ | refine bdrN ?_ _ | refine bset _ (by first | omega | (simp; done) | (simp; omega)) ?_ | refine brow _ _ (by first | omega | (simp; done) | (simp; omega)) ?_ | (apply bthen; rotate_left; assumption)))
end Go.Proofs.Ytieblfpdibpeeaa

/-
  Small words for the walks of this seat: what a call that makes memory leaves of old memory; a whole array stored and read.
-/
import Derived.Test.YtieblfpdibpeeaaProg
import Derived.Below
import Derived.WalkKit
import Derived.KernelRfl
import Derived.LoopTactic
import Derived.Lib.Hide
import Derived.Laws.BitsAllLaws
import Derived.Deep.MidRow
import Derived.Deep.WholeRow
import Derived.OwnWalk
import Derived.Deep.QuietTactic
import Derived.BigQuiet
import Derived.StillTailTactics
import Derived.Outline
namespace Go.Proofs.Ytieblfpdibpeeaa
open Go.RowKit Go.Lib
set_option linter.unusedVariables false
set_option linter.unusedSimpArgs false

theorem ret_int {k : IntKind} {a b : Int} (h : a = b) : Ending.returned (.int k a) = .returned (.int k b) := by rw [h]
theorem ret_bool {a b : Bool} (h : a = b) : Ending.returned (.bool a) = .returned (.bool b) := by rw [h]
theorem ret_str {a b : ByteArray} (h : a = b) : Ending.returned (.string a) = .returned (.string b) := by rw [h]
theorem int_eq {k : IntKind} {a b : Int} (h : a = b) : Value.int k a = .int k b := by rw [h]
theorem bcell {W w1 : World} (hb : Below W.heap.size W w1) : (∀ b o, b < W.heap.size → w1.cell? ⟨b, o, none⟩ = W.cell? ⟨b, o, none⟩) ∧ (∀ b o, b < W.heap.size → w1.frozen? ⟨b, o, none⟩ = W.frozen? ⟨b, o, none⟩) :=
  ⟨fun b o h => hb.cell (p := ⟨b, o, none⟩) h, fun b o h => hb.frozen (p := ⟨b, o, none⟩) h⟩
theorem bdrN {B : Nat} {a w : World} (h : Below B a w) (n : Nat) : Below B a (w.drewN n) := ⟨h.os, h.tape, h.output, h.size, h.block⟩
theorem bthen {w w1 w2 : World} (h : Below w.heap.size w w1) (k : Below w1.heap.size w1 w2) : Below w.heap.size w w2 := h.trans (k.mono h.size)
theorem balloc {w w1 : World} (h : Below w.heap.size w w1) (o : Obj) : Below w.heap.size w (w1.alloc o) := h.alloc h.size o
theorem below_of_drawn {w w' : World} (h : ∃ m, w' = w.drewN m) : Below w.heap.size w w' := by
  obtain ⟨m, rfl⟩ := h; exact bdrN (Below.refl _ _) m
theorem below_setRow {B : Nat} {a w : World} (h : Below B a w) (g : Nat) (cs : Array Value) (hg : B ≤ g) : Below B a (w.setRow g cs) :=
  h.trans ⟨rfl, rfl, rfl, by simp, fun k hk => setRow_other w g k cs (by omega)⟩
theorem grown_of_below' {w w1 : World} (h : Below w.heap.size w w1) (row : Option Nat) : w.grownBy w1 row := ⟨h.os, h.tape, h.output, h.size, fun i hi _ => h.block i hi⟩
theorem own_below {w w1 : World} {base : Nat} {e : TypeId} {size : Nat} {v : Value} {n : Nat} {xs : List Value} (h : w.ownsRow base e size v n xs) (hb : Below w.heap.size w w1) : w1.ownsRow base e size v n xs :=
  h.kept (grown_of_below' hb none) (by cases v.ownBlock <;> simp)
theorem own_form {w : World} {base : Nat} {e : TypeId} {size : Nat} {v : Value} {n : Nat} {xs : List Value} (h : w.ownsRow base e size v n xs) (hn : 0 < n) : ∃ g cap, v = .slice (some ⟨g, 0, none⟩) n cap ∧ base ≤ g ∧ g < w.heap.size ∧ n ≤ cap := by
  rcases h.2 with ⟨_, h0⟩ | ⟨g, cap, cur, rfl, hb, hg, hc, _⟩
  · omega
  · exact ⟨g, cap, rfl, hb, (Array.getElem?_eq_some_iff.1 hg).1, hc⟩
theorem block_below {w w1 : World} (hb : Below w.heap.size w w1) {g : Nat} {o : Obj} (h : w.heap[g]? = some o) : w1.heap[g]? = some o :=
  (hb.block g (Array.getElem?_eq_some_iff.1 h).1).trans h

/-- A struct of three cells that was laid before a call is there behind it. -/
theorem keep3 {w1 w2 : World} {a b c : Value} {t : TypeId} (hb : Below (w1.alloc (.cells #[a, b, c] t)).heap.size (w1.alloc (.cells #[a, b, c] t)) w2) :
    w1.heap.size < w2.heap.size ∧ w2.cell? ⟨w1.heap.size, 0, none⟩ = some a ∧ w2.cell? ⟨w1.heap.size, 1, none⟩ = some b ∧ w2.cell? ⟨w1.heap.size, 2, none⟩ = some c := by
  have hs : w1.heap.size < (w1.alloc (.cells #[a, b, c] t)).heap.size := by simp
  refine ⟨Nat.lt_of_lt_of_le hs hb.size, ?_, ?_, ?_⟩
  · rw [hb.cell (p := ⟨w1.heap.size, 0, none⟩) hs]; simp
  · rw [hb.cell (p := ⟨w1.heap.size, 1, none⟩) hs]; simp
  · rw [hb.cell (p := ⟨w1.heap.size, 2, none⟩) hs]; simp

section
variable {P : Program} {ops : Array Oper} {rest : List Oper} {o : Oper} {a : Act} {w : World} {Q : Exit → Act → World → Prop}
/-- A whole array is stored into a block of its own. -/
theorem wpList_store_row (hgd : o.guard = none) (ty : TypeId) (x y : Operand) (ho : o.op = .store ty x y)
    (g : Nat) (t : TypeId) (old cells : Array Value) (hx : a.eval x = .pointer (some ⟨g, 0, none⟩)) (hy : a.eval y = .agg cells)
    (hg : w.heap[g]? = some (.cells old t (0, 0))) (hi : (P.info? ty).map (·.size) = some cells.size) (hs : old.size = cells.size) (h1 : cells.all (·.oneCell') = true)
    (h : wpList P ops Q rest (a.put o.dst undef) (w.setRow g cells)) : wpList P ops Q (o :: rest) a w :=
  wpList_plain hgd fun _ hK => by
    unfold Oper.wp execOp
    simp only [ho, hx, hy, Instr.storeAt, Instr.sureAddr, Sem.run_bind, Sem.run_pure, Result.andThen_ok, run_storeVar_row w g t ty old cells hg hi hs h1]
    exact hK _ _ h
end
end Go.Proofs.Ytieblfpdibpeeaa

/-
  The contract of Parse (package sector): the blocks that it keeps.
-/
import Derived.Test.YtieblfpdibpeeaaSeV
import Derived.Test.YtieblfpdibpeeaaSeY
import Derived.Deep.RegionHeld3
namespace Go.Proofs.Ytieblfpdibpeeaa
open Go.RowKit Go.Lib
set_option linter.unusedVariables false
set_option linter.unusedSimpArgs false

/-- A block of cells that may be written. -/
structure Blk (W : World) (g : Nat) (l : List Value) : Prop where
  lt : g < W.heap.size
  cell : ∀ (i : Nat) (v : Value), l[i]? = some v → W.cell? ⟨g, i, none⟩ = some v
  free : ∀ (i : Nat), i < l.length → W.frozen? ⟨g, i, none⟩ = false
theorem Blk.made (w : World) (l : List Value) (t : TypeId) : Blk (w.alloc (.cells l.toArray t)) w.heap.size l :=
  ⟨by simp, fun i v h => by simp [h], fun i h => by simp [h]⟩
theorem Blk.below {W W1 : World} {g : Nat} {l : List Value} (h : Blk W g l) (hb : Below W.heap.size W W1) : Blk W1 g l :=
  ⟨Nat.lt_of_lt_of_le h.lt hb.size, fun i v hi => below_cell hb (h.cell i v hi), fun i hi => (hb.frozen (p := ⟨g, i, none⟩) h.lt).trans (h.free i hi)⟩
theorem Blk.alloc {W : World} {g : Nat} {l : List Value} (h : Blk W g l) (o : Obj) : Blk (W.alloc o) g l := h.below (balloc (Below.refl _ _) o)
theorem Blk.drew {W : World} {g : Nat} {l : List Value} (h : Blk W g l) : Blk W.drew g l := h.below (bdrew (Below.refl _ _))
theorem Blk.drewN {W : World} {g : Nat} {l : List Value} (h : Blk W g l) (n : Nat) : Blk (W.drewN n) g l := h.below (bdrN (Below.refl _ _) n)
theorem Blk.set {W : World} {g : Nat} {l : List Value} (h : Blk W g l) (p : Addr) (v : Value) (hp : p.block ≠ g) : Blk (W.setCell p v) g l :=
  ⟨by simpa using h.lt, fun i u hi => by rw [World.cell?_setCell_other _ _ _ _ (fun q => hp (congrArg Addr.block q))]; exact h.cell i u hi, fun i hi => by rw [World.frozen?_setCell]; exact h.free i hi⟩
theorem Blk.write {W : World} {g : Nat} {l : List Value} (h : Blk W g l) (i : Nat) (v : Value) (hi : i < l.length) : Blk (W.setCell ⟨g, i, none⟩ v) g (l.set i v) := by
  have h1 : W.cell? ⟨g, i, none⟩ = some l[i] := h.cell i _ (List.getElem?_eq_getElem hi)
  refine ⟨by simpa using h.lt, fun j u hj => ?_, fun j hj => by rw [World.frozen?_setCell]; exact h.free j (by simpa using hj)⟩
  by_cases q : i = j
  · subst q
    rw [List.getElem?_set_self hi] at hj
    cases hj
    exact World.cell?_setCell_same _ _ _ h1
  · rw [List.getElem?_set_ne q] at hj
    rw [World.cell?_setCell_other _ _ _ _ (fun e => q (congrArg Addr.off e))]
    exact h.cell j u hj

def PR.val (p : PR) : Value := .tuple #[.agg #[.int .i64 p.l, .int .i64 p.m, .int .i64 p.f, .int .i64 p.c, .int .i64 p.s, .int .i64 p.k, .string p.d], .int .i64 p.e]
def zero7 : List Value := [.int .i64 0, .int .i64 0, .int .i64 0, .int .i64 0, .int .i64 0, .int .i64 0, .string { data := #[] }]

set_option maxRecDepth 20000 in
theorem Parse_no (r : ByteArray) (hk : (kindE r).2 ≠ 0) (hz : r.size ≤ 140737488351232) (w : World) :
    Calls Try.prog 21 #[.string r] w fun e w' => e = .returned (parseE r).val ∧ Below w.heap.size w w' := by
  have HK := hid (fun w => Kind_any r hz w)
  have HP : Hid (parseE r = PR.no (kindE r).2) := if_pos hk
  have d0 : ((kindE r).2 != 0) = true := bne_iff_ne.2 hk
  generalize (kindE r).2 = x at *
  generalize (kindE r).1 = y at *
  clear hk
  go_enter Try.func21, Try.ntmps21
  go_wp2_with fail
  refine (HK.out _).mono ?_
  rintro e w1 ⟨rfl, rfl⟩
  go_wp2_with fail
  refine bodyPost_ret (v := (PR.no x).val) (by simp [results, Try.results21, go_sem, PR.no, PR.val]) rfl ⟨by rw [HP.out], ?_⟩
  (repeat (first | exact Below.refl _ _ | assumption | refine balloc ?_ _ | refine bdrew ?_ | refine bdrN ?_ _ | refine bset _ (by first | omega | (simp; done) | (simp; omega)) ?_ | refine brow _ _ (by first | omega | (simp; done) | (simp; omega)) ?_ | (apply bthen; rotate_left; assumption)))
theorem refParse_no (r : ByteArray) (hk : (kindE r).2 ≠ 0) (hz : r.size ≤ 140737488351232) (w : World) :
    Calls Try.prog 22 #[.string r] w fun e w' => e = .returned (parseE r).val ∧ Below w.heap.size w w' := by
  have HK := hid (fun w => refKind_any r hz w)
  have HP : Hid (parseE r = PR.no (kindE r).2) := if_pos hk
  have d0 : ((kindE r).2 != 0) = true := bne_iff_ne.2 hk
  generalize (kindE r).2 = x at *
  generalize (kindE r).1 = y at *
  clear hk
  go_enter Try.func22, Try.ntmps22
  go_wp2_with fail
  refine (HK.out _).mono ?_
  rintro e w1 ⟨rfl, rfl⟩
  go_wp2_with fail
  refine bodyPost_ret (v := (PR.no x).val) (by simp [results, Try.results22, go_sem, PR.no, PR.val]) rfl ⟨by rw [HP.out], ?_⟩
  (repeat (first | exact Below.refl _ _ | assumption | refine balloc ?_ _ | refine bdrew ?_ | refine bdrN ?_ _ | refine bset _ (by first | omega | (simp; done) | (simp; omega)) ?_ | refine brow _ _ (by first | omega | (simp; done) | (simp; omega)) ?_ | (apply bthen; rotate_left; assumption)))
end Go.Proofs.Ytieblfpdibpeeaa

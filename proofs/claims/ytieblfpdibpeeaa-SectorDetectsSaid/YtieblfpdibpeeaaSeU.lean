/-
  Contracts of join and Decode (package address) and of the reference's Decode.
-/
import Derived.Test.YtieblfpdibpeeaaSeT
import Derived.Deep.RegionWith
namespace Go.Proofs.Ytieblfpdibpeeaa
open Go.RowKit Go.Lib
set_option linter.unusedVariables false
set_option linter.unusedSimpArgs false

/-- Two blocks of three cells, laid one behind the other. -/
theorem two_made (v : World) (p q : Obj) (a b c d e f : Value) (t u : TypeId) (hp : p = .cells #[a, b, c] t) (hq : q = .cells #[d, e, f] u) :
    ((v.alloc p).alloc q).cell? ⟨v.heap.size + 1, 0, none⟩ = some d ∧ ((v.alloc p).alloc q).cell? ⟨v.heap.size + 1, 1, none⟩ = some e ∧ ((v.alloc p).alloc q).cell? ⟨v.heap.size + 1, 2, none⟩ = some f ∧
      ((v.alloc p).alloc q).cell? ⟨v.heap.size, 0, none⟩ = some a ∧ ((v.alloc p).alloc q).cell? ⟨v.heap.size, 1, none⟩ = some b ∧ ((v.alloc p).alloc q).cell? ⟨v.heap.size, 2, none⟩ = some c ∧
      ((v.alloc p).alloc q).frozen? ⟨v.heap.size, 0, none⟩ = false ∧ ((v.alloc p).alloc q).frozen? ⟨v.heap.size, 1, none⟩ = false ∧ ((v.alloc p).alloc q).frozen? ⟨v.heap.size, 2, none⟩ = false := by
  subst hp hq
  refine ⟨by simp, by simp, by simp, alloc_cell (by simp), alloc_cell (by simp), alloc_cell (by simp), by simp, by simp, by simp⟩

set_option maxRecDepth 100000 in
theorem join_any (m s f : Int) (hm : 0 ≤ m ∧ m ≤ 99) (hs : 0 ≤ s ∧ s ≤ 99) (hf : 0 ≤ f ∧ f ≤ 99) (w : World) : Calls Try.prog 62 #[.agg #[.int .i64 m, .int .i64 s, .int .i64 f]] w fun e w' => e = .returned (.tuple #[.agg #[.int .i64 m, .int .i64 s, .int .i64 f], .bool (okM m s f)]) ∧ Below w.heap.size w w' := by
  have HV := hid (fun w => aValid_any m s f hm hs hf w)
  generalize okM m s f = V at *
  go_enter Try.func62, Try.ntmps62
  go_wp2_with fail
  obtain ⟨a0, a1, a2, b0, b1, b2, f0, f1, f2⟩ := two_made (w.alloc (Obj.cells #[Value.int IntKind.i64 m, Value.int IntKind.i64 s, Value.int IntKind.i64 f] 87)) (Obj.cells #[Value.int IntKind.i64 0, Value.int IntKind.i64 0, Value.int IntKind.i64 0] 52) (Obj.cells #[Value.int IntKind.i64 m, Value.int IntKind.i64 s, Value.int IntKind.i64 f] 52) _ _ _ _ _ _ _ _ rfl rfl
  have L : Below w.heap.size w (((w.alloc (Obj.cells #[Value.int IntKind.i64 m, Value.int IntKind.i64 s, Value.int IntKind.i64 f] 87)).alloc (Obj.cells #[Value.int IntKind.i64 0, Value.int IntKind.i64 0, Value.int IntKind.i64 0] 52)).alloc (Obj.cells #[Value.int IntKind.i64 m, Value.int IntKind.i64 s, Value.int IntKind.i64 f] 52)) := by (repeat (first | exact Below.refl _ _ | assumption | refine balloc ?_ _ | refine bdrew ?_ | refine bdrN ?_ _ | refine bset _ (by first | omega | (simp; done) | (simp; omega)) ?_ | refine brow _ _ (by first | omega | (simp; done) | (simp; omega)) ?_ | (apply bthen; rotate_left; assumption)))
  have z : w.heap.size + 1 < (((w.alloc (Obj.cells #[Value.int IntKind.i64 m, Value.int IntKind.i64 s, Value.int IntKind.i64 f] 87)).alloc (Obj.cells #[Value.int IntKind.i64 0, Value.int IntKind.i64 0, Value.int IntKind.i64 0] 52)).alloc (Obj.cells #[Value.int IntKind.i64 m, Value.int IntKind.i64 s, Value.int IntKind.i64 f] 52)).heap.size := by simp
  have hs1 : (w.alloc (Obj.cells #[Value.int IntKind.i64 m, Value.int IntKind.i64 s, Value.int IntKind.i64 f] 87)).heap.size = w.heap.size + 1 := by simp
  rw [hs1] at a0 a1 a2 b0 b1 b2 f0 f1 f2
  clear hs1
  generalize ((w.alloc (Obj.cells #[Value.int IntKind.i64 m, Value.int IntKind.i64 s, Value.int IntKind.i64 f] 87)).alloc (Obj.cells #[Value.int IntKind.i64 0, Value.int IntKind.i64 0, Value.int IntKind.i64 0] 52)).alloc (Obj.cells #[Value.int IntKind.i64 m, Value.int IntKind.i64 s, Value.int IntKind.i64 f] 52) = W at *
  generalize hG : w.heap.size + 1 = G at *
  generalize G + 1 = G2 at *
  have hG' : w.heap.size ≤ G := by omega
  clear hG
  go_region_with (go_at_call 51; refine (HV.out _).mono ?_; rintro e w1 ⟨rfl, hb⟩; have c0 := below_cell hb (show W.drew.cell? _ = _ from b0); have c1 := below_cell hb (show W.drew.cell? _ = _ from b1); have c2 := below_cell hb (show W.drew.cell? _ = _ from b2); have d0 := below_cell hb (show W.drew.cell? _ = _ from a0); have d1 := below_cell hb (show W.drew.cell? _ = _ from a1); have d2 := below_cell hb (show W.drew.cell? _ = _ from a2); have e0 : w1.frozen? ⟨G, 0, none⟩ = false := (hb.frozen (p := ⟨G, 0, none⟩) z).trans f0; have e1 : w1.frozen? ⟨G, 1, none⟩ = false := (hb.frozen (p := ⟨G, 1, none⟩) z).trans f1; have e2 : w1.frozen? ⟨G, 2, none⟩ = false := (hb.frozen (p := ⟨G, 2, none⟩) z).trans f2; have L1 : Below w.heap.size w w1 := bthen (bdrew L) hb)
  all_goals
    go_wp2_with fail
    refine bodyPost_ret (v := .tuple #[.agg #[.int .i64 m, .int .i64 s, .int .i64 f], .bool V]) (by simp [results, Try.results62, go_sem, *]) rfl ⟨rfl, ?_⟩
    (repeat (first | exact Below.refl _ _ | assumption | refine balloc ?_ _ | refine bdrew ?_ | refine bdrN ?_ _ | refine bset _ (by first | omega | (simp; done) | (simp; omega)) ?_ | refine brow _ _ (by first | omega | (simp; done) | (simp; omega)) ?_ | (apply bthen; rotate_left; assumption)))
end Go.Proofs.Ytieblfpdibpeeaa

/-
  For PacketRecords: packets of strings in memory, the last one still growing.
-/
import Derived.Test.YtpcfjlfdjkifgaaPrU
import Derived.Deep.AppendLies
import Derived.Deep.RegionLaw
import Derived.Laws.OwnMore
namespace Go.Proofs.Ytpcfjlfdjkifgaa
open Go.RowKit Go.Lib
set_option linter.unusedVariables false
set_option linter.unusedSimpArgs false

structure RI (w : World) (base T : Nat) (vo x : Value) (vs : List Value) (ps : List (List ByteArray)) (b : List ByteArray) : Prop where
  len : vs.length = ps.length
  own : w.ownsRow base 37 1 vo (ps.length + 1) (vs ++ [x])
  inn : ∀ (p : Nat) (y : Value) (c : List ByteArray), vs[p]? = some y → ps[p]? = some c → w.ownsRow base 9 1 y c.length (strV c) ∧ ∀ g, y.ownBlock = some g → g < T
  last : w.ownsRow T 9 1 x b.length (strV b)
  hT : base ≤ T
  hW : T ≤ w.heap.size
theorem RI.below {w w1 : World} {base T : Nat} {vo x : Value} {vs : List Value} {ps : List (List ByteArray)} {b : List ByteArray} (h : RI w base T vo x vs ps b) (hb : Below w.heap.size w w1) : RI w1 base T vo x vs ps b :=
  ⟨h.len, own_below h.own hb, fun p y c h1 h2 => ⟨own_below (h.inn p y c h1 h2).1 hb, (h.inn p y c h1 h2).2⟩, own_below h.last hb, h.hT, Nat.le_trans h.hW hb.size⟩
theorem RI.whole {w : World} {base T : Nat} {vo x : Value} {vs : List Value} {ps : List (List ByteArray)} {b : List ByteArray} (h : RI w base T vo x vs ps b) : PKI w base vo (vs ++ [x]) (ps ++ [b]) := by
  refine ⟨by rw [List.length_append, List.length_append, h.len]; rfl, by rw [List.length_append]; exact h.own, fun p y c h1 h2 => ?_⟩
  by_cases hp : p < ps.length
  · rw [List.getElem?_append_left (by rw [h.len]; exact hp)] at h1
    rw [List.getElem?_append_left hp] at h2
    exact (h.inn p y c h1 h2).1
  · rw [List.getElem?_append_right (by rw [h.len]; omega)] at h1
    rw [List.getElem?_append_right (by omega)] at h2
    have e : p - ps.length = 0 := by
      rcases Nat.eq_zero_or_pos (p - ps.length) with q | q
      · exact q
      · rw [List.getElem?_eq_none (by simp; omega)] at h2; simp at h2
    rw [h.len, e] at h1
    rw [e] at h2
    simp at h1 h2
    subst h1 h2
    exact own_base h.last h.hT
theorem own_at {w : World} {base : Nat} {e : TypeId} {z : Nat} {v : Value} {n : Nat} {xs : List Value} (T : Nat) (h : w.ownsRow base e z v n xs) (hT : ∀ g, v.ownBlock = some g → T ≤ g) : w.ownsRow T e z v n xs := by
  refine ⟨h.1, ?_⟩
  rcases h.2 with h0 | ⟨g, cap, cur, rfl, h2, h3⟩
  · exact .inl h0
  · exact .inr ⟨g, cap, cur, rfl, hT g rfl, h3⟩
/-- A new row is made and appended. -/
theorem PKI.open {w w1 : World} {base : Nat} {vo vo' : Value} {vs : List Value} {ps : List (List ByteArray)} (h : PKI w base vo vs ps) (hB : base ≤ w.heap.size)
    (hx : w.heap.size < w1.heap.size) (hl : w1.ownsRow w.heap.size 9 1 (.slice (some ⟨w.heap.size, 0, none⟩) 0 0) 0 [])
    (ho : w1.ownsRow base 37 1 vo' (ps.length + 1) (vs ++ [.slice (some ⟨w.heap.size, 0, none⟩) 0 0])) (hg : w.grownBy w1 vo.ownBlock) :
    RI w1 base w.heap.size vo' (.slice (some ⟨w.heap.size, 0, none⟩) 0 0) vs ps [] := by
  refine ⟨h.len, ho, fun p y c h1 h2 => ?_, hl, hB, Nat.le_of_lt hx⟩
  have := h.inn p y c h1 h2
  exact ⟨this.kept hg (own_ne this h.own (by decide)), fun g hgg => (this.lt g hgg).2⟩
/-- A string is appended to the last row, which is stored back. -/
theorem RI.push {w w1 : World} {base T : Nat} {go cap : Nat} {x x' : Value} {vs : List Value} {ps : List (List ByteArray)} {b : List ByteArray} {d : ByteArray}
    (h : RI w base T (.slice (some ⟨go, 0, none⟩) (ps.length + 1) cap) x vs ps b) (hg : w.grownBy w1 x.ownBlock) (hl : w1.ownsRow T 9 1 x' (b.length + 1) (strV b ++ [.string d])) :
    RI (w1.setCell ⟨go, ps.length, none⟩ x') base T (.slice (some ⟨go, 0, none⟩) (ps.length + 1) cap) x' vs ps (b ++ [d]) := by
  have ho : w1.ownsRow base 37 1 (.slice (some ⟨go, 0, none⟩) (ps.length + 1) cap) (ps.length + 1) (vs ++ [x]) := h.own.kept hg (own_ne h.own h.last (by decide))
  obtain ⟨hs, hgr⟩ := ho.stored ps.length x'
  have he : (vs ++ [x]).set ps.length x' = vs ++ [x'] := by
    rw [← h.len, List.set_append_right _ _ (Nat.le_refl _), Nat.sub_self]; rfl
  rw [he] at hs
  have hl2 : w1.ownsRow T 9 1 x' (b ++ [d]).length (strV (b ++ [d])) := by
    have : strV (b ++ [d]) = strV b ++ [.string d] := by unfold strV; rw [List.map_append]; rfl
    rw [List.length_append, this]; exact hl
  refine ⟨h.len, hs, fun p y c h1 h2 => ?_, hl2.kept hgr (own_ne hl2 ho (by decide)), h.hT, Nat.le_trans h.hW (Nat.le_trans hg.size hgr.size)⟩
  obtain ⟨h3, h4⟩ := h.inn p y c h1 h2
  have h5 : w1.ownsRow base 9 1 y c.length (strV c) := h3.kept hg (by
    cases hy : y.ownBlock with
    | none => exact .inl rfl
    | some g =>
      refine .inr (fun q => ?_)
      have := (h.last.lt g q.symm).1
      have := h4 g hy
      omega)
  exact ⟨h5.kept hgr (own_ne h5 ho (by decide)), h4⟩
theorem pkt_full (s : Nat) (l : List ByteArray) (h : s ≤ l.length) : pkt s l = l.take s := by
  unfold pkt
  rw [show s - l.length = 0 by omega, List.replicate_zero, List.append_nil]
theorem npk_at (s k r : Nat) (hr : 1 ≤ r ∧ r ≤ s) : npk s (k * s + r) = k + 1 := by
  unfold npk
  rw [show k * s + r + s - 1 = (r - 1) + s * (k + 1) by rw [Nat.mul_add, Nat.mul_comm s k, Nat.mul_one]; omega, Nat.add_mul_div_left _ _ (by omega), Nat.div_eq_of_lt (by omega), Nat.zero_add]
theorem npk_zero (s : Nat) (hs : 1 ≤ s) : npk s 0 = 0 := by unfold npk; exact Nat.div_eq_of_lt (by omega)
theorem okL_yes {bs : List ByteArray} (h : ∀ (j : Nat) (c : ByteArray), bs[j]? = some c → c.size = 2048) : okL bs = true := by
  unfold okL
  rw [List.all_eq_true]
  intro x hx
  obtain ⟨j, hj⟩ := List.mem_iff_getElem?.1 hx
  simpa using h j x hj
theorem okL_not {bs : List ByteArray} {j : Nat} {c : ByteArray} (h : bs[j]? = some c) (h2 : c.size ≠ 2048) : okL bs = false := by
  cases e : okL bs with
  | false => rfl
  | true => exact absurd (okL_get e j c h) h2
end Go.Proofs.Ytpcfjlfdjkifgaa

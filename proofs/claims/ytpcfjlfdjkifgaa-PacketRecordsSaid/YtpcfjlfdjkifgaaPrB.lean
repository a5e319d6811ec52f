/-
  Slices of strings: cut, and packets of strings in memory.
-/
import Derived.Test.YtpcfjlfdjkifgaaPrA
namespace Go.Proofs.Ytpcfjlfdjkifgaa
open Go.RowKit Go.Lib
set_option linter.unusedVariables false
set_option linter.unusedSimpArgs false

theorem SR.take {w : World} {v : Value} {bs : List ByteArray} (h : SR w v bs) (k : Nat) (h0 : 0 < k) (hk : k ≤ bs.length) :
    ∃ (g o cap : Nat), v = .slice (some ⟨g, o, none⟩) bs.length cap ∧ (Instr.slice 37 v none (some (.int .i64 (k : Int))) none).run Try.prog w = .ok (.slice (some ⟨g, o, none⟩) k cap) w ∧ ∀ (i : Nat) (s : ByteArray), bs[i]? = some s → w.cell? ⟨g, o + i, none⟩ = some (.string s) := by
  obtain ⟨g, o, cap, rfl, h1, h2, h3⟩ := h.form (by omega)
  refine ⟨g, o, cap, rfl, ?_, h3⟩
  have hc : (k : Int) ≤ (cap : Int) := by omega
  have hcz : cap ≠ 0 := by omega
  simp [go_sem, hc, sliced, hcz]
theorem SR.drop {w : World} {v : Value} {bs : List ByteArray} (h : SR w v bs) (k : Nat) (h0 : 0 < k) (hk : k ≤ bs.length) :
    ∃ (v' : Value), (∀ W : World, (Instr.slice 37 v (some (.int .i64 (k : Int))) none none).run Try.prog W = .ok v' W) ∧ SR w v' (bs.drop k) := by
  obtain ⟨g, o, cap, rfl, h1, h2, h3⟩ := h.form (by omega)
  have hc : (k : Int) ≤ (bs.length : Int) := by omega
  by_cases e : cap = k
  · refine ⟨.slice (some ⟨g, o, none⟩) (bs.length - k) (cap - k), fun W => by simp [go_sem, hc, sliced, e], ⟨.inl ⟨List.drop_eq_nil_of_le (by omega), some ⟨g, o, none⟩, cap - k, by rw [show bs.length - k = 0 by omega]⟩⟩⟩
  · refine ⟨.slice (some ⟨g, o + k, none⟩) (bs.length - k) (cap - k), fun W => by simp [go_sem, hc, sliced, e, Addr.add]; omega, ⟨.inr ⟨g, o + k, cap - k, by rw [List.length_drop], by rw [List.length_drop]; omega, by omega, fun i s hs => by rw [List.getElem?_drop] at hs; rw [Nat.add_assoc]; exact h3 _ _ hs⟩⟩⟩

theorem own_ne {w : World} {b b' : Nat} {e e' : TypeId} {z z' : Nat} {v v' : Value} {n n' : Nat} {xs xs' : List Value} (h : w.ownsRow b e z v n xs) (h' : w.ownsRow b' e' z' v' n' xs') (he : e ≠ e') : v.ownBlock = none ∨ v.ownBlock ≠ v'.ownBlock := by
  rcases h.2 with ⟨rfl, _⟩ | ⟨g, cap, cur, rfl, _, hg, _⟩
  · exact .inl rfl
  · right
    rcases h'.2 with ⟨rfl, _⟩ | ⟨g', cap', cur', rfl, _, hg', _⟩
    · simp [Value.ownBlock]
    · intro q
      simp [Value.ownBlock] at q
      subst q
      rw [hg] at hg'
      injection hg' with hg'
      injection hg' with _ hg' _
      exact he hg'
def strV (l : List ByteArray) : List Value := l.map Value.string
/-- Packets of strings: a row of rows, all of the call's own. -/
structure PKI (w : World) (base : Nat) (vo : Value) (vs : List Value) (ps : List (List ByteArray)) : Prop where
  len : vs.length = ps.length
  own : w.ownsRow base 37 1 vo ps.length vs
  inn : ∀ (p : Nat) (x : Value) (b : List ByteArray), vs[p]? = some x → ps[p]? = some b → w.ownsRow base 9 1 x b.length (strV b)
theorem PKI.below {w w1 : World} {base : Nat} {vo : Value} {vs : List Value} {ps : List (List ByteArray)} (h : PKI w base vo vs ps) (hb : Below w.heap.size w w1) : PKI w1 base vo vs ps :=
  ⟨h.len, own_below h.own hb, fun p x b h1 h2 => own_below (h.inn p x b h1 h2) hb⟩
theorem PKI.snoc {w w1 : World} {base : Nat} {vo vo' x : Value} {vs : List Value} {ps : List (List ByteArray)} {b : List ByteArray} (h : PKI w base vo vs ps) (hx : w.ownsRow base 9 1 x b.length (strV b))
    (ho : w1.ownsRow base 37 1 vo' (ps.length + 1) (vs ++ [x])) (hg : w.grownBy w1 vo.ownBlock) : PKI w1 base vo' (vs ++ [x]) (ps ++ [b]) := by
  refine ⟨by rw [List.length_append, List.length_append, h.len]; rfl, by rw [List.length_append]; exact ho, fun p y c h1 h2 => ?_⟩
  by_cases hp : p < ps.length
  · rw [List.getElem?_append_left (by rw [h.len]; exact hp)] at h1
    rw [List.getElem?_append_left hp] at h2
    have := h.inn p y c h1 h2
    exact this.kept hg (own_ne this h.own (by decide))
  · rw [List.getElem?_append_right (by rw [h.len]; omega)] at h1
    rw [List.getElem?_append_right (by omega)] at h2
    have e : p - ps.length = 0 := by
      rcases Nat.eq_zero_or_pos (p - ps.length) with q | q
      · exact q
      · rw [List.getElem?_eq_none (by simp; omega)] at h2; simp at h2
    rw [h.len, e] at h1
    rw [e] at h2
    simp at h1 h2
    subst h1 h2
    exact hx.kept hg (own_ne hx h.own (by decide))
theorem own_base {w : World} {b b' : Nat} {e : TypeId} {z : Nat} {v : Value} {n : Nat} {xs : List Value} (h : w.ownsRow b e z v n xs) (hb : b' ≤ b) : w.ownsRow b' e z v n xs := by
  refine ⟨h.1, ?_⟩
  rcases h.2 with h0 | ⟨g, cap, cur, h1, h2, h3⟩
  · exact .inl h0
  · exact .inr ⟨g, cap, cur, h1, Nat.le_trans hb h2, h3⟩
end Go.Proofs.Ytpcfjlfdjkifgaa

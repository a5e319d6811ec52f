/-
  The closure that adds a sector to a list.
-/
import Derived.Test.YtpcfjlfdjkifgaaPrD
namespace Go.Proofs.Ytpcfjlfdjkifgaa
open Go.RowKit Go.Lib
set_option linter.unusedVariables false
set_option linter.unusedSimpArgs false

/-- All blocks but one are as they were. -/
structure Kept (g : Nat) (W w : World) : Prop where
  os : w.os = W.os
  tape : w.tape = W.tape
  output : w.output = W.output
  size : W.heap.size ≤ w.heap.size
  block : ∀ k, k < W.heap.size → k ≠ g → w.heap[k]? = W.heap[k]?
theorem Kept.refl (g : Nat) (W : World) : Kept g W W := ⟨rfl, rfl, rfl, Nat.le_refl _, fun _ _ _ => rfl⟩
theorem Kept.below {g : Nat} {W w w2 : World} (h : Kept g W w) (hb : Below w.heap.size w w2) : Kept g W w2 :=
  ⟨hb.os.trans h.os, hb.tape.trans h.tape, hb.output.trans h.output, Nat.le_trans h.size hb.size, fun k hk hg => (hb.block k (Nat.lt_of_lt_of_le hk h.size)).trans (h.block k hk hg)⟩
theorem Kept.grown {g : Nat} {W w w2 : World} {r : Option Nat} (h : Kept g W w) (hg : w.grownBy w2 r) (hr : ∀ k, r = some k → W.heap.size ≤ k) : Kept g W w2 :=
  ⟨hg.os.trans h.os, hg.tape.trans h.tape, hg.output.trans h.output, Nat.le_trans h.size hg.size, fun k hk hne => (hg.block k (Nat.lt_of_lt_of_le hk h.size) (fun e => by have := hr k e.symm; omega)).trans (h.block k hk hne)⟩
theorem grown_set (w : World) (g o : Nat) (u : Value) : w.grownBy (w.setCell ⟨g, o, none⟩ u) (some g) := by
  refine ⟨rfl, rfl, rfl, by simp, fun k hk hne => ?_⟩
  have : g ≠ k := fun e => hne (by rw [e])
  simp [World.setCell, Array.getElem?_modify, this]
theorem Kept.set {g : Nat} {W w : World} (h : Kept g W w) (o : Nat) (u : Value) : Kept g W (w.setCell ⟨g, o, none⟩ u) :=
  ⟨h.os, h.tape, h.output, by simpa using h.size, fun k hk hne => ((grown_set w g o u).block k (Nat.lt_of_lt_of_le hk h.size) (by simpa using hne)).trans (h.block k hk hne)⟩
theorem Kept.cell {g : Nat} {W w : World} {p : Addr} {v : Value} (h : Kept g W w) (hp : p.block ≠ g) (hc : W.cell? p = some v) : w.cell? p = some v :=
  (World.cell?_of_block (h.block p.block (World.block_lt_of_cell? W p hc) hp)).trans hc
theorem Kept.toBelow {g B : Nat} {w0 W w : World} (h : Kept g W w) (hb : Below B w0 W) (hB : B ≤ w0.heap.size) (hg : B ≤ g) : Below B w0 w :=
  hb.trans ⟨h.os, h.tape, h.output, h.size, fun k hk => h.block k (by have := hb.size; omega) (by omega)⟩
theorem Kept.own {g : Nat} {W w : World} {b : Nat} {e : TypeId} {z : Nat} {v : Value} {n : Nat} {xs : List Value} (h : Kept g W w) (ho : W.ownsRow b e z v n xs) (hg : v.ownBlock ≠ some g) : w.ownsRow b e z v n xs := by
  refine ⟨ho.1, ?_⟩
  rcases ho.2 with hn | ⟨g2, cap, cur, rfl, h1, h2, h3⟩
  · exact .inl hn
  · refine .inr ⟨g2, cap, cur, rfl, h1, ?_, h3⟩
    rw [h.block g2 (Array.getElem?_eq_some_iff.1 h2).1 (by simpa [Value.ownBlock] using hg)]
    exact h2
theorem own_len {w : World} {b : Nat} {e : TypeId} {z : Nat} {v : Value} {n : Nat} {xs : List Value} (h : w.ownsRow b e z v n xs) : ∃ p cap, v = .slice p n cap := by
  rcases h.2 with ⟨rfl, rfl⟩ | ⟨g, cap, cur, rfl, _⟩
  · exact ⟨none, 0, rfl⟩
  · exact ⟨_, cap, rfl⟩
theorem Try.infoSec : (Try.prog.info? 53).map (fun i => (i.zero, i.size, i.bytes)) = some (some (.agg #[.int .i64 0, .int .i64 0, .int .i64 0, .int .i64 0, .int .i64 0, .int .i64 0, .string { data := #[] }]), 7, 64) := by kernel_rfl
theorem info_Sec : ∃ i, Try.prog.info? 53 = some i ∧ i.zero = some (.agg #[.int .i64 0, .int .i64 0, .int .i64 0, .int .i64 0, .int .i64 0, .int .i64 0, .string { data := #[] }]) ∧ i.size = 7 ∧ i.bytes = 64 := by
  have h := Try.infoSec
  cases hi : Try.prog.info? 53 with
  | none => rw [hi] at h; simp at h
  | some i =>
    rw [hi] at h
    simp only [Option.map_some, Option.some.injEq, Prod.mk.injEq] at h
    exact ⟨i, rfl, h.1, h.2.1, h.2.2⟩
/-- The cells of a sector of mode 1. -/
def secC (l : Int) (d : ByteArray) : List Value := [.int .i64 l, .int .i64 0, .int .i64 0, .int .i64 0, .int .i64 0, .int .i64 0, .string d]

/-- What stands behind an added sector. -/
structure AddP (gO : Nat) (W1 w' : World) (n : Nat) (xs : List Value) : Prop where
  is : ∃ vo, w'.cell? ⟨gO, 0, none⟩ = some vo ∧ w'.ownsRow W1.heap.size 53 7 vo n xs
  free : w'.frozen? ⟨gO, 0, none⟩ = false
  kept : Kept gO W1 w'

theorem AddP.below {gO : Nat} {W1 w w2 : World} {n : Nat} {xs : List Value} (h : AddP gO W1 w n xs) (hg : gO < W1.heap.size) (hb : Below w.heap.size w w2) : AddP gO W1 w2 n xs := by
  obtain ⟨vo, hc, ho⟩ := h.is
  exact ⟨⟨vo, below_cell hb hc, own_below ho hb⟩, (hb.frozen (p := ⟨gO, 0, none⟩) (Nat.lt_of_lt_of_le hg h.kept.size)).trans h.free, h.kept.below hb⟩

set_option maxRecDepth 20000 in
set_option maxHeartbeats 1000000 in
theorem add_any (d : ByteArray) (gO gs : Nat) (st : Int) (n : Nat) (xs : List Value) (w W1 : World) (hst : 0 ≤ st ∧ st ≤ 449849) (hn : n ≤ 8192) (h1 : gO < W1.heap.size) (h2 : gs ≠ gO) (hs : W1.cell? ⟨gs, 0, none⟩ = some (.int .i64 st)) (hA : AddP gO W1 w n xs) :
    Calls Try.prog 36 #[.string d, .pointer (some ⟨gO, 0, none⟩), .pointer (some ⟨gs, 0, none⟩)] w fun e w' => e = .returned (.tuple #[]) ∧ AddP gO W1 w' (n + 1) (xs ++ secC (st + n) d) := by
  obtain ⟨i0, hi, hz0, hz1, hz2⟩ := info_Sec
  obtain ⟨⟨vo, hc, hown⟩, hf, hK⟩ := hA
  have hcs := hK.cell (p := ⟨gs, 0, none⟩) h2 hs
  obtain ⟨p, cap, rfl⟩ := own_len hown
  have hgz : gO < w.heap.size := Nat.lt_of_lt_of_le h1 hK.size
  have hsz := hK.size
  go_enter Try.func36, Try.ntmps36
  go_wp2_with (at_builtin; refine wpList_append_own _ rfl _ _ 38 rfl W1.heap.size 53 i0 (.agg #[.int .i64 0, .int .i64 0, .int .i64 0, .int .i64 0, .int .i64 0, .int .i64 0, .string { data := #[] }]) 7 64 Try.underlying38 hi hz0 hz1 hz2 rfl (by decide) _ _ _ rfl (hown.alloc _) ⟨w.heap.size, 0, none⟩ 1 1 (secC (st + n) d) rfl rfl ?c1 ?c2 ?c3 ?c4 ?c5 ?_)
  case c1 =>
    intro j u hj
    unfold secC at hj
    match j, hj with
    | 0, hj => simp at hj; subst hj; simp [Addr.add]
    | 1, hj => simp at hj; subst hj; simp [Addr.add]
    | 2, hj => simp at hj; subst hj; simp [Addr.add]
    | 3, hj => simp at hj; subst hj; simp [Addr.add]
    | 4, hj => simp at hj; subst hj; simp [Addr.add]
    | 5, hj => simp at hj; subst hj; simp [Addr.add]
    | 6, hj => simp at hj; subst hj; simp [Addr.add]
  case c2 => intro u hu; unfold secC at hu; simp at hu; rcases hu with rfl | rfl | rfl <;> rfl
  case c3 => unfold maxLen; omega
  case c4 => omega
  case c5 => simp; omega
  intro v5 w5 hown5 hgrow5 _
  have hne : (Value.slice p n cap).ownBlock ≠ some gO := fun e => by have := (hown.lt gO e).1; omega
  have hc5 : w5.cell? ⟨gO, 0, none⟩ = some (.slice p n cap) := hgrow5.cell (alloc_cell hc) (fun e => hne e.symm)
  have hf5 : w5.frozen? ⟨gO, 0, none⟩ = false := by
    rw [World.frozen?_of_block (hgrow5.block gO (by simp; omega) (fun e => hne e.symm))]
    rw [((balloc (Below.refl _ _) _ : Below w.heap.size w _)).frozen (p := ⟨gO, 0, none⟩) hgz]
    exact hf
  have hK5 : Kept gO W1 w5 := (hK.below (balloc (Below.refl _ _) _)).grown hgrow5 (fun r hr => (hown.lt r hr).1)
  have HO := hid hown5
  clear hown5 hgrow5
  obtain ⟨p5, cap5, rfl⟩ := own_len HO.out
  go_wp2_with fail
  go_end0
  refine ⟨rfl, ⟨⟨_, World.cell?_setCell_same _ _ _ hc5, ?_⟩, ?_, ?_⟩⟩
  · exact HO.out.kept (grown_set _ _ _ _) (.inr (fun e => by have := (HO.out.lt gO e).1; omega))
  · rw [World.frozen?_setCell]; exact hf5
  · exact hK5.set _ _
end Go.Proofs.Ytpcfjlfdjkifgaa

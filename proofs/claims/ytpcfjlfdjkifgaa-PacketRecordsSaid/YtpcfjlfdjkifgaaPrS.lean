/-
  A slice of sectors as an argument.
-/
import Derived.Test.YtpcfjlfdjkifgaaPrN
import Derived.ChangeOld
namespace Go.Proofs.Ytpcfjlfdjkifgaa
open Go.ChangeShapes Go.WideShapes Go.ChangeAt Go.RowKit
set_option linter.unusedVariables false
set_option linter.unusedSimpArgs false

theorem Try.cellsSec : Try.prog.cellsOf 53 = 7 := by kernel_rfl
theorem Try.cellsSub : Try.prog.cellsOf 51 = 4 := by kernel_rfl
theorem Try.cellsInt : Try.prog.cellsOf 3 = 1 := by kernel_rfl
theorem Try.cellsStr : Try.prog.cellsOf 9 = 1 := by kernel_rfl

/-- A sector's contents. -/
structure Sec7 where
  l : Int
  m : Int
  f : Int
  c : Int
  s : Int
  k : Int
  d : ByteArray
def Sec7.cells (x : Sec7) : List Value := [.int .i64 x.l, .int .i64 x.m, .int .i64 x.f, .int .i64 x.c, .int .i64 x.s, .int .i64 x.k, .string x.d]
def Sec7.wf (x : Sec7) : Prop := (Lit.int .i64 x.l).wf = true ∧ (Lit.int .i64 x.m).wf = true ∧ (Lit.int .i64 x.f).wf = true ∧ (Lit.int .i64 x.c).wf = true ∧ (Lit.int .i64 x.s).wf = true ∧ (Lit.int .i64 x.k).wf = true ∧ x.d.size ≤ maxLen
/-- A slice of sectors, as it reads. -/
structure SecR (w : World) (v : Value) (xs : List Sec7) : Prop where
  is : (xs = [] ∧ ∃ (p : Option Addr) (cap : Nat), v = .slice p 0 cap) ∨ ∃ (g o cap : Nat), v = .slice (some ⟨g, o, none⟩) xs.length cap ∧ xs.length ≤ cap ∧ cap ≤ maxLen ∧ ∀ (i : Nat) (x : Sec7), xs[i]? = some x → ∀ (j : Nat) (u : Value), x.cells[j]? = some u → w.cell? ⟨g, o + (i * 7 + j), none⟩ = some u
  wf : ∀ x ∈ xs, x.wf
theorem SecR.below {w w1 : World} {v : Value} {xs : List Sec7} (h : SecR w v xs) (hb : Below w.heap.size w w1) : SecR w1 v xs := by
  refine ⟨?_, h.wf⟩
  rcases h.is with h | ⟨g, o, cap, h1, h2, h3, h4⟩
  · exact .inl h
  · exact .inr ⟨g, o, cap, h1, h2, h3, fun i x hx j u hu => below_cell hb (h4 i x hx j u hu)⟩

section
variable {H : Type} {enc : TypeId × Value → H} {w : World} {base : Nat} {spare : Nat → Bool} {held : Bool}
theorem open_sub {n : Nat} {c0 c1 c2 c3 : Value} {y : DataW H × List MemPlace} (h : DataW.trod enc Try.prog w base spare held n 51 [c0, c1, c2, c3] = some y) :
    ∃ f c s k : Int, c0 = .int .i64 f ∧ c1 = .int .i64 c ∧ c2 = .int .i64 s ∧ c3 = .int .i64 k ∧ (Lit.int .i64 f).wf = true ∧ (Lit.int .i64 c).wf = true ∧ (Lit.int .i64 s).wf = true ∧ (Lit.int .i64 k).wf = true := by
  obtain ⟨xs, n', _, hx, _, hlen, hg⟩ := DataW.trod_struct Try.underlying51 h
  match xs, hlen with
  | [y0, y1, y2, y3], _ =>
    have g0 : DataW.trod enc Try.prog w base spare held n' 3 [c0] = some y0 := by simpa [Try.cellsInt] using hg 0 _ rfl
    have g1 : DataW.trod enc Try.prog w base spare held n' 3 [c1] = some y1 := by simpa [Try.cellsInt] using hg 1 _ rfl
    have g2 : DataW.trod enc Try.prog w base spare held n' 3 [c2] = some y2 := by simpa [Try.cellsInt] using hg 2 _ rfl
    have g3 : DataW.trod enc Try.prog w base spare held n' 3 [c3] = some y3 := by simpa [Try.cellsInt] using hg 3 _ rfl
    obtain ⟨a0, e0, _, w0⟩ := DataW.trod_int Try.underlying3 g0
    obtain ⟨a1, e1, _, w1⟩ := DataW.trod_int Try.underlying3 g1
    obtain ⟨a2, e2, _, w2⟩ := DataW.trod_int Try.underlying3 g2
    obtain ⟨a3, e3, _, w3⟩ := DataW.trod_int Try.underlying3 g3
    exact ⟨a0, a1, a2, a3, by simpa using e0, by simpa using e1, by simpa using e2, by simpa using e3, w0, w1, w2, w3⟩
theorem open_seccells {n : Nat} {cs : List Value} {y : DataW H × List MemPlace} (hl : cs.length = 7) (hf : DataW.trod enc Try.prog w base spare held n 53 cs = some y) :
    ∃ x : Sec7, cs = x.cells ∧ x.wf := by
  match cs, hl with
  | [c0, c1, c2, c3, c4, c5, c6], _ =>
    obtain ⟨xs, n, _, hx, _, hlen, hg⟩ := DataW.trod_struct Try.underlying53 hf
    match xs, hlen with
    | [y0, y1, y2, y3], _ =>
      have g0 : DataW.trod enc Try.prog w base spare held n 3 [c0] = some y0 := by simpa [Value.cells, Try.cellsInt] using hg 0 _ rfl
      have g1 : DataW.trod enc Try.prog w base spare held n 3 [c1] = some y1 := by simpa [Value.cells, Try.cellsInt] using hg 1 _ rfl
      have g2 : DataW.trod enc Try.prog w base spare held n 51 [c2, c3, c4, c5] = some y2 := by simpa [Value.cells, Try.cellsSub] using hg 2 _ rfl
      have g3 : DataW.trod enc Try.prog w base spare held n 9 [c6] = some y3 := by simpa [Value.cells, Try.cellsStr] using hg 3 _ rfl
      obtain ⟨a0, e0, _, w0⟩ := DataW.trod_int Try.underlying3 g0
      obtain ⟨a1, e1, _, w1⟩ := DataW.trod_int Try.underlying3 g1
      obtain ⟨f, c, s, k, rfl, rfl, rfl, rfl, w2, w3, w4, w5⟩ := open_sub g2
      obtain ⟨x, e6, _, w6⟩ := DataW.trod_string Try.underlying9 g3
      obtain rfl : c0 = .int .i64 a0 := by simpa using e0
      obtain rfl : c1 = .int .i64 a1 := by simpa using e1
      obtain rfl : c6 = .string x := by simpa using e6
      exact ⟨⟨a0, a1, f, c, s, k, x⟩, rfl, w0, w1, w2, w3, w4, w5, w6⟩
theorem open_secs {r : Reach} {b0 : Nat} {v : Value} {d : DataW H} {p : List MemPlace} (hv : Value.okWide Try.prog w r b0 38 v) (h : DataW.Trod enc Try.prog w base spare held 38 v d p) : ∃ xs, SecR w v xs := by
  obtain ⟨a0, len, cap, rfl⟩ := okWide_slice Try.underlying38 hv
  obtain ⟨fuel, hf⟩ := h
  rcases DataW.trod_slice Try.underlying38 hf with ⟨hcs, hx⟩ | ⟨a, len', cap', elems, rest, n, _, hcs, _, hb, hl, hm, hlen, hel, _, _⟩
  · simp [Value.cells] at hcs
    obtain ⟨rfl, rfl, rfl⟩ := hcs
    exact ⟨[], ⟨.inl ⟨rfl, none, 0, rfl⟩, fun x hx => by simp at hx⟩⟩
  · simp [Value.cells] at hcs
    obtain ⟨rfl, rfl, rfl⟩ := hcs
    have each : ∀ i, i < len → ∃ x : Sec7, x.wf ∧ ∀ (j : Nat) (u : Value), x.cells[j]? = some u → w.cell? ((a.add (i * 7)).add j) = some u := fun i hi => by
      have h1 := hel i hi
      rw [List.getElem?_eq_getElem (by omega), Try.cellsSec, Option.bind_eq_some_iff] at h1
      obtain ⟨cs', hc, hy⟩ := h1
      obtain ⟨_, hl7, hcell⟩ := World.cells?_some hc
      obtain ⟨x, rfl, hw⟩ := open_seccells hl7 hy
      refine ⟨x, hw, fun j u hu => ?_⟩
      have hj : j < 7 := by
        have := (List.getElem?_eq_some_iff.1 hu).1
        exact this
      rw [hcell j hj]; exact hu
    by_cases h0 : len = 0
    · subst h0
      exact ⟨[], ⟨.inl ⟨rfl, some a, cap, rfl⟩, fun x hx => by simp at hx⟩⟩
    · obtain ⟨x0, _, hx0⟩ := each 0 (by omega)
      obtain ⟨b, off, spot⟩ := a
      have hspot : spot = none := by
        have := World.cell?_spot (hx0 0 _ rfl)
        simpa [Addr.add] using this
      subst hspot
      have hf := fun (i : Fin len) => (each i.1 i.2)
      have hch : ∃ f : Fin len → Sec7, ∀ i, (f i).wf ∧ ∀ (j : Nat) (u : Value), (f i).cells[j]? = some u → w.cell? (((⟨b, off, none⟩ : Addr).add (i.1 * 7)).add j) = some u := ⟨fun i => (hf i).choose, fun i => (hf i).choose_spec⟩
      obtain ⟨f, hf⟩ := hch
      refine ⟨List.ofFn f, ⟨.inr ⟨b, off, cap, by rw [List.length_ofFn], by rw [List.length_ofFn]; exact hl, hm, fun i x hx j u hu => ?_⟩, fun x hx => ?_⟩⟩
      · have hi : i < len := by
          have := (List.getElem?_eq_some_iff.1 hx).1
          rwa [List.length_ofFn] at this
        rw [List.getElem?_ofFn, dif_pos hi] at hx
        injection hx with hx
        subst hx
        have := (hf ⟨i, hi⟩).2 j u hu
        rw [add_plain, add_plain, Nat.add_assoc] at this
        exact this
      · rw [List.mem_ofFn] at hx
        obtain ⟨i, rfl⟩ := hx
        exact (hf i).1
end
end Go.Proofs.Ytpcfjlfdjkifgaa

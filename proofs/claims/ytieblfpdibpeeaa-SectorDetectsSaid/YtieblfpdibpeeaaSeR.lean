/-
  A sector as an argument: what the row's reading says of its seven cells.
-/
import Derived.Test.YtieblfpdibpeeaaSeQ
import Derived.WalkKit
import Derived.ProofKit
import Derived.OpenShut
import Derived.ShutString
import Derived.ChangeOld
namespace Go.Proofs.Ytieblfpdibpeeaa
open Go.ChangeShapes Go.WideShapes Go.ChangeAt Go.RowKit
set_option linter.unusedVariables false

theorem Try.cellsSec : Try.prog.cellsOf 25 = 7 := by kernel_rfl
theorem Try.cellsSub : Try.prog.cellsOf 23 = 4 := by kernel_rfl
theorem Try.cellsInt : Try.prog.cellsOf 3 = 1 := by kernel_rfl
theorem Try.cellsStr : Try.prog.cellsOf 9 = 1 := by kernel_rfl

section
variable {H : Type} {enc : TypeId × Value → H} {w : World} {base : Nat} {spare : Nat → Bool} {held : Bool}
theorem open_sub {n : Nat} {c0 c1 c2 c3 : Value} {y : DataW H × List MemPlace} (h : DataW.trod enc Try.prog w base spare held n 23 [c0, c1, c2, c3] = some y) :
    ∃ f c s k : Int, c0 = .int .i64 f ∧ c1 = .int .i64 c ∧ c2 = .int .i64 s ∧ c3 = .int .i64 k ∧ (Lit.int .i64 f).wf = true ∧ (Lit.int .i64 c).wf = true ∧ (Lit.int .i64 s).wf = true ∧ (Lit.int .i64 k).wf = true := by
  obtain ⟨xs, n', _, hx, _, hlen, hg⟩ := DataW.trod_struct Try.underlying23 h
  match xs, hlen with
  | [y0, y1, y2, y3], _ =>
    have g0 : DataW.trod enc Try.prog w base spare held n' 3 [c0] = some y0 := by simpa [Try.cellsInt] using hg 0 _ rfl
    have g1 : DataW.trod enc Try.prog w base spare held n' 3 [c1] = some y1 := by simpa [Try.cellsInt] using hg 1 _ rfl
    have g2 : DataW.trod enc Try.prog w base spare held n' 3 [c2] = some y2 := by simpa [Try.cellsInt] using hg 2 _ rfl
    have g3 : DataW.trod enc Try.prog w base spare held n' 3 [c3] = some y3 := by simpa [Try.cellsInt] using hg 3 _ rfl
    obtain ⟨a0, e0, _, w0⟩ := DataW.trod_int Try.underlying3 g0
    obtain ⟨a1, e1, _, w1⟩ := DataW.trod_int Try.underlying3 g1
    obtain ⟨a2, e2, _, w2⟩ := DataW.trod_int Try.underlying3 g2
    obtain ⟨a3, e3, _, w3⟩ := DataW.trod_int Try.underlying3 g3
    exact ⟨a0, a1, a2, a3, by simpa using e0, by simpa using e1, by simpa using e2, by simpa using e3, w0, w1, w2, w3⟩
theorem open_sec {r : Reach} {b0 : Nat} {v : Value} {d : DataW H} {p : List MemPlace} (hv : Value.okWide Try.prog w r b0 25 v) (h : DataW.Trod enc Try.prog w base spare held 25 v d p) :
    ∃ (l m f c s k : Int) (x : ByteArray), v = .agg #[.int .i64 l, .int .i64 m, .int .i64 f, .int .i64 c, .int .i64 s, .int .i64 k, .string x] ∧ (Lit.int .i64 l).wf = true ∧ (Lit.int .i64 m).wf = true ∧ (Lit.int .i64 f).wf = true ∧ (Lit.int .i64 c).wf = true ∧ (Lit.int .i64 s).wf = true ∧ (Lit.int .i64 k).wf = true ∧ x.size ≤ maxLen := by
  obtain ⟨cs, rfl, hsz⟩ := okWide_struct Try.underlying25 hv
  obtain ⟨L⟩ := cs
  match L, hsz.trans Try.cellsSec with
  | [c0, c1, c2, c3, c4, c5, c6], _ =>
    obtain ⟨fuel, hf⟩ := h
    obtain ⟨xs, n, _, hx, _, hlen, hg⟩ := DataW.trod_struct Try.underlying25 hf
    match xs, hlen with
    | [y0, y1, y2, y3], _ =>
      have g0 : DataW.trod enc Try.prog w base spare held n 3 [c0] = some y0 := by simpa [Value.cells, Try.cellsInt] using hg 0 _ rfl
      have g1 : DataW.trod enc Try.prog w base spare held n 3 [c1] = some y1 := by simpa [Value.cells, Try.cellsInt] using hg 1 _ rfl
      have g2 : DataW.trod enc Try.prog w base spare held n 23 [c2, c3, c4, c5] = some y2 := by simpa [Value.cells, Try.cellsSub] using hg 2 _ rfl
      have g3 : DataW.trod enc Try.prog w base spare held n 9 [c6] = some y3 := by simpa [Value.cells, Try.cellsStr] using hg 3 _ rfl
      obtain ⟨a0, e0, _, w0⟩ := DataW.trod_int Try.underlying3 g0
      obtain ⟨a1, e1, _, w1⟩ := DataW.trod_int Try.underlying3 g1
      obtain ⟨f, c, s, k, rfl, rfl, rfl, rfl, w2, w3, w4, w5⟩ := open_sub g2
      obtain ⟨x, e6, _, w6⟩ := DataW.trod_string Try.underlying9 g3
      obtain rfl : c0 = .int .i64 a0 := by simpa using e0
      obtain rfl : c1 = .int .i64 a1 := by simpa using e1
      obtain rfl : c6 = .string x := by simpa using e6
      exact ⟨a0, a1, f, c, s, k, x, rfl, w0, w1, w2, w3, w4, w5, w6⟩
end
end Go.Proofs.Ytieblfpdibpeeaa

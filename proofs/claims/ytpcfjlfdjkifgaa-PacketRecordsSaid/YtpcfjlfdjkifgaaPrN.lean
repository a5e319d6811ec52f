/-
  The law PacketReturns, as its row asks it.
-/
import Derived.Test.YtpcfjlfdjkifgaaPrM
import Derived.SliceStrings
import Derived.OpenShut
import Derived.ProofKit
namespace Go.Proofs.Ytpcfjlfdjkifgaa
open Go.ChangeShapes Go.WideShapes Go.ChangeAt Go.RowKit
set_option linter.unusedVariables false
set_option linter.unusedSimpArgs false

theorem Try.cellsStr9 : Try.prog.cellsOf 9 = 1 := by kernel_rfl
section
variable {H : Type} {enc : TypeId × Value → H} {w : World} {base : Nat} {spare : Nat → Bool} {held : Bool}
theorem open_blocks {r : Reach} {b0 : Nat} {v : Value} {d : DataW H} {p : List MemPlace} (hv : Value.okWide Try.prog w r b0 37 v) (h : DataW.Trod enc Try.prog w base spare held 37 v d p) : ∃ bs, SR w v bs := by
  obtain ⟨a0, len, cap, rfl⟩ := okWide_slice Try.underlying37 hv
  obtain ⟨fuel, hf⟩ := h
  rcases open_strings Try.underlying37 Try.underlying9 Try.cellsStr9 hf with ⟨hcs, hx⟩ | ⟨a, len', cap', ss, hcs, _, hl, hm, hz, hx, hcell, _⟩
  · simp [Value.cells] at hcs
    obtain ⟨rfl, rfl, rfl⟩ := hcs
    exact ⟨[], ⟨.inl ⟨rfl, none, 0, rfl⟩⟩⟩
  · simp [Value.cells] at hcs
    obtain ⟨rfl, rfl, rfl⟩ := hcs
    have hlen : len ≤ ss.length := by rw [hz]; split <;> omega
    refine ⟨ss.take len, ?_⟩
    by_cases h0 : len = 0
    · subst h0
      exact ⟨.inl ⟨by simp, some a, cap, rfl⟩⟩
    · obtain ⟨b, off, spot⟩ := a
      have hspot : spot = none := by simpa [Addr.add] using World.cell?_spot (hcell 0 (by omega))
      subst hspot
      have htl : (ss.take len).length = len := by rw [List.length_take]; omega
      refine ⟨.inr ⟨b, off, cap, by rw [htl], by omega, hm, fun i s hs => ?_⟩⟩
      have hil : i < len := by
        have := (List.getElem?_eq_some_iff.1 hs).1
        omega
      have := hcell i (by omega)
      rw [Go.WideShapes.add_plain] at this
      rw [this]
      rw [List.getElem?_take_of_lt hil] at hs
      rw [List.getD_eq_getElem?_getD, hs]; rfl
end

theorem PacketReturns_law (a0 a1 : Int) (v : Value) (bs : List ByteArray) (w0 : (Lit.int .i64 a0).wf = true) (w1 : (Lit.int .i64 a1).wf = true) (w : World) (hv : SR w v bs) :
    Calls Try.prog 9 #[.int .i64 a0, .int .i64 a1, v] w fun e w' => e = .returned (.bool true) ∧ Below w.heap.size w w' := by
  by_cases hf : 20 < bs.length ∨ (40 < a0 ∧ a0 ≤ 1024)
  · exact returns_far a0 a1 v bs hf w hv
  · have hn : bs.length ≤ 20 := by omega
    have h4 : a0 ≤ 40 ∨ 1024 < a0 := by omega
    by_cases hsz : szB a0 = true
    · have hb := szB_true hsz
      obtain ⟨s, rfl⟩ := Int.eq_ofNat_of_zero_le (show 0 ≤ a0 by omega)
      have hs : 1 ≤ s ∧ s ≤ 40 := by omega
      by_cases hl : okL bs = true
      · by_cases hr : 0 ≤ a1 ∧ a1 ≤ 449849 ∧ a1 + ((npk s bs.length * (s + 7) : Nat) : Int) - 1 ≤ 449849
        · exact returns_ok s hs a1 v bs hl hn ⟨hr.1, hr.2.2⟩ hr.2.1 w hv
        · exact returns_err s a1 2 (by decide) v bs hn h4 w hv (fun w hv => Record_range s hs a1 v bs hl hn (by omega) w hv)
      · exact returns_err s a1 1 (by decide) v bs hn h4 w hv (fun w hv => Record_bad s ⟨hs.1, by omega⟩ a1 v bs (by simpa using hl) (by omega) w hv)
    · exact returns_err a0 a1 1 (by decide) v bs hn h4 w hv (fun w _ => Record_size a0 (by simpa using hsz) a1 v w)
end Go.Proofs.Ytpcfjlfdjkifgaa

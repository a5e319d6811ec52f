/-
  The law PacketMaps (package masterdisclaw11): the walk of its text returns true for any two numbers.
-/
import Derived.Test.YtpcfjlfdjkifgaaPkE
namespace Go.Proofs.Ytpcfjlfdjkifgaa
open Go.RowKit Go.Lib
set_option linter.unusedVariables false
set_option linter.unusedSimpArgs false

set_option maxRecDepth 100000 in
theorem PacketMaps_walk (a0 : Int) (a1 : Int) (w0 : (Lit.int .i64 a0).wf = true) (w1 : (Lit.int .i64 a1).wf = true) (w : World) :
    Calls Try.prog 3 #[.int .i64 a0, .int .i64 a1] w fun e w' => e = .returned (.bool true) ∧ Below w.heap.size w w' := by
  clear w0 w1
  go_enter Try.func3, Try.ntmps3
  go_wp2_with fail
  refine (awake_any _).mono ?_
  rintro e w1 ⟨rfl, hb1⟩
  go_wp2_with fail
  refine (Sectors_any _ _ _).mono ?_
  rintro e w2 ⟨rfl, rfl⟩
  go_wp2_with fail
  refine (refSectors_any _ _ _).mono ?_
  rintro e w2 ⟨rfl, rfl⟩
  go_wp2_with fail
  refine (Physical_any _ _ _).mono ?_
  rintro e w2 ⟨rfl, m2, rfl⟩
  go_wp2_with fail
  refine (refPhysical_any _ _ _).mono ?_
  rintro e w2 ⟨rfl, m3, rfl⟩
  go_wp2_with fail
  refine (Locate_tup _ _ _).mono ?_
  rintro e w2 ⟨rfl, hb2⟩
  go_wp2_with fail
  refine (refLocate_tup _ _ _).mono ?_
  rintro e w3 ⟨rfl, hb3⟩
  obtain ⟨hz3, k0, k1, k2⟩ := keep3 hb3
  go_wp2_with fail
  go_ret
  refine ⟨rfl, ?_⟩
  have b2 : Below w.heap.size w w2 := (bdrN hb1 _).trans (hb2.mono hb1.size)
  have b3 : Below w.heap.size w w3 := (b2.alloc b2.size _).trans (hb3.mono (by have := b2.size; simp; omega))
  exact b3.alloc b3.size _

end Go.Proofs.Ytpcfjlfdjkifgaa

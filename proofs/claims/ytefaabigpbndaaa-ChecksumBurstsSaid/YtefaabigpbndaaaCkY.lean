/-
  The contracts of EDCBytes and CRCBytes (package checksum and the reference), and the law ChecksumBytes.
-/
import Derived.Test.YtefaabigpbndaaaCkX
import Derived.Laws.BytesArg
namespace Go.Proofs.Ytefaabigpbndaaa
open Go.RowKit Go.Lib
set_option linter.unusedVariables false
set_option linter.unusedSimpArgs false

theorem str4 (a b c d : Int) : ∀ w : World, (convert 34 9 (.slice (some ⟨w.heap.size, 0, none⟩) 4 4)).run Try.prog (w.alloc (.cells #[.int .u8 a, .int .u8 b, .int .u8 c, .int .u8 d] 5)) = .ok (.string (strOfNums [a, b, c, d])) (w.alloc (.cells #[.int .u8 a, .int .u8 b, .int .u8 c, .int .u8 d] 5)) := by
  intro w
  refine run_convert_bytes_arg _ 34 5 Try.underlying34 Try.underlying5 w.heap.size 0 4 4 [a, b, c, d] rfl (fun i hi => ?_) 9 Try.underlying9
  have h4 : i = 0 ∨ i = 1 ∨ i = 2 ∨ i = 3 := by omega
  rcases h4 with rfl | rfl | rfl | rfl <;> simp
theorem str2 (a b : Int) : ∀ w : World, (convert 34 9 (.slice (some ⟨w.heap.size, 0, none⟩) 2 2)).run Try.prog (w.alloc (.cells #[.int .u8 a, .int .u8 b] 5)) = .ok (.string (strOfNums [a, b])) (w.alloc (.cells #[.int .u8 a, .int .u8 b] 5)) := by
  intro w
  refine run_convert_bytes_arg _ 34 5 Try.underlying34 Try.underlying5 w.heap.size 0 2 2 [a, b] rfl (fun i hi => ?_) 9 Try.underlying9
  have h4 : i = 0 ∨ i = 1 := by omega
  rcases h4 with rfl | rfl <;> simp

/-- The four bytes of an EDC, and the two bytes of a CRC. -/
def eby (c : Nat) : ByteArray := strOfNums [(c : Int) % 256, (c : Int) / 256 % 256, (c : Int) / 65536 % 256, (c : Int) / 16777216]
def cby (c : Nat) : ByteArray := strOfNums [(c : Int) / 256, (c : Int) % 256]

theorem EDCBytes_any (c : Nat) (hc : c < 4294967296) (w : World) :
    Calls Try.prog 22 #[.int .u32 (c : Int)] w fun e w' => e = .returned (.string (eby c)) ∧ Below w.heap.size w w' := by
  have K := str4 ((c : Int) % 256) ((c : Int) / 256 % 256) ((c : Int) / 65536 % 256) ((c : Int) / 16777216)
  go_enter Try.func22, Try.ntmps22
  go_wp2_with fail
  go_ret
  exact ⟨rfl, balloc (Below.refl _ _) _⟩

theorem refEDCBytes_any (c : Nat) (hc : c < 4294967296) (w : World) :
    Calls Try.prog 23 #[.int .u32 (c : Int)] w fun e w' => e = .returned (.string (eby c)) ∧ Below w.heap.size w w' := by
  have K := str4 ((c : Int) % 256) ((c : Int) / 256 % 256) ((c : Int) / 65536 % 256) ((c : Int) / 16777216)
  go_enter Try.func23, Try.ntmps23
  go_wp2_with fail
  go_ret
  exact ⟨rfl, balloc (Below.refl _ _) _⟩

theorem CRCBytes_any (c : Nat) (hc : c < 65536) (w : World) :
    Calls Try.prog 24 #[.int .u16 (c : Int)] w fun e w' => e = .returned (.string (cby c)) ∧ Below w.heap.size w w' := by
  have K := str2 ((c : Int) / 256) ((c : Int) % 256)
  go_enter Try.func24, Try.ntmps24
  go_wp2_with fail
  go_ret
  exact ⟨rfl, balloc (Below.refl _ _) _⟩

theorem refCRCBytes_any (c : Nat) (hc : c < 65536) (w : World) :
    Calls Try.prog 25 #[.int .u16 (c : Int)] w fun e w' => e = .returned (.string (cby c)) ∧ Below w.heap.size w w' := by
  have K := str2 ((c : Int) / 256) ((c : Int) % 256)
  go_enter Try.func25, Try.ntmps25
  go_wp2_with fail
  go_ret
  exact ⟨rfl, balloc (Below.refl _ _) _⟩

theorem ChecksumBytes_walk (a0 : Int) (a1 : Int) (w0 : (Lit.int .u32 a0).wf = true) (w1 : (Lit.int .u16 a1).wf = true) (w : World) :
    Calls Try.prog 7 #[.int .u32 a0, .int .u16 a1] w fun e w' => e = .returned (.bool true) ∧ Below w.heap.size w w' := by
  have A0 := bounds_u32 w0
  have A1 := bounds_u16 w1
  clear w0 w1
  obtain ⟨c0, rfl⟩ := Int.eq_ofNat_of_zero_le A0.1
  obtain ⟨c1, rfl⟩ := Int.eq_ofNat_of_zero_le A1.1
  have l0 : c0 < 4294967296 := by omega
  have l1 : c1 < 65536 := by omega
  go_enter Try.func7, Try.ntmps7
  go_wp2_with fail
  refine (awake_any _).mono ?_
  rintro e w1 ⟨rfl, hb1⟩
  go_wp2_with fail
  refine (EDCBytes_any c0 l0 _).mono ?_
  rintro e w2 ⟨rfl, hb2⟩
  go_wp2_with fail
  refine (refEDCBytes_any c0 l0 _).mono ?_
  rintro e w3 ⟨rfl, hb3⟩
  go_wp2_with fail
  refine (CRCBytes_any c1 l1 _).mono ?_
  rintro e w4 ⟨rfl, hb4⟩
  go_wp2_with fail
  refine (refCRCBytes_any c1 l1 _).mono ?_
  rintro e w5 ⟨rfl, hb5⟩
  go_wp2_with fail
  go_ret
  exact ⟨rfl, bthen (bthen (bthen (bthen hb1 hb2) hb3) hb4) hb5⟩
end Go.Proofs.Ytefaabigpbndaaa

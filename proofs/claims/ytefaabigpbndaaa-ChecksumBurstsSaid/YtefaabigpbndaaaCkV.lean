/-
  awake (package masterdisclaw02) returns true, and the law ChecksumValues returns true for any bytes.
-/
import Derived.Test.YtefaabigpbndaaaCkP
namespace Go.Proofs.Ytefaabigpbndaaa
open Go.RowKit Go.Lib
set_option linter.unusedVariables false
set_option linter.unusedSimpArgs false

theorem refEDC_edc (s : ByteArray) (hs : s.size ≤ 140737488351232) (w : World) : Calls Try.prog 12 #[.string s] w fun e w' => e = .returned (.int .u32 (edc 0 s.data.toList : Nat)) ∧ w = w' := by
  rw [edc_edcR]; exact refEDC_any s hs w
theorem refCRC16_crc (s : ByteArray) (hs : s.size ≤ 140737488351232) (w : World) : Calls Try.prog 14 #[.string s] w fun e w' => e = .returned (.int .u16 (crc 0 s.data.toList : Nat)) ∧ w = w' := by
  rw [crc_crcR (by omega)]; exact refCRC16_any s hs w

theorem awake_any (w : World) : Calls Try.prog 10 #[] w fun e w' => e = .returned (.bool true) ∧ Below w.heap.size w w' := by
  have e1 : edc 0 [1] = 2425422081 := by decide +kernel
  have e2 : crc 0 [1] = 4129 := by decide +kernel
  have e3 : crc 0 [49, 50, 51, 52, 53, 54, 55, 56, 57] = 12739 := by decide +kernel
  have e4 : sum8 [255, 3] = 2 := by decide +kernel
  have c1 : ∀ w : World, Calls Try.prog 11 #[.string { data := #[1] }] w fun e w' => e = .returned (.int .u32 2425422081) ∧ Below w.heap.size w w' := fun w => by
    have := EDC_any { data := #[1] } (by decide) w; simp only [e1] at this; exact this
  have c2 : ∀ w : World, Calls Try.prog 13 #[.string { data := #[1] }] w fun e w' => e = .returned (.int .u16 4129) ∧ Below w.heap.size w w' := fun w => by
    have := CRC16_any { data := #[1] } (by decide) w; simp only [e2] at this; exact this
  have c3 : ∀ w : World, Calls Try.prog 13 #[.string { data := #[49, 50, 51, 52, 53, 54, 55, 56, 57] }] w fun e w' => e = .returned (.int .u16 12739) ∧ Below w.heap.size w w' := fun w => by
    have := CRC16_any { data := #[49, 50, 51, 52, 53, 54, 55, 56, 57] } (by decide) w; simp only [e3] at this; exact this
  have c4 : ∀ w : World, Calls Try.prog 15 #[.string { data := #[255, 3] }] w fun e w' => e = .returned (.int .u8 2) ∧ w = w' := fun w => by
    have := Sum8_any { data := #[255, 3] } (by decide) w; simp only [e4] at this; exact this
  have H1 := hid c1
  have H2 := hid c2
  have H3 := hid c3
  have H4 := hid c4
  clear c1 c2 c3 c4 e1 e2 e3 e4
  go_enter Try.func10, Try.ntmps10
  go_wp2_with fail
  refine (H1.out _).mono ?_
  rintro e w1 ⟨rfl, hb1⟩
  go_wp2_with fail
  refine (H2.out _).mono ?_
  rintro e w2 ⟨rfl, hb2⟩
  go_wp2_with fail
  refine (H3.out _).mono ?_
  rintro e w3 ⟨rfl, hb3⟩
  go_wp2_with fail
  refine (H4.out _).mono ?_
  rintro e w4 ⟨rfl, rfl⟩
  go_wp2_with fail
  go_ret
  exact ⟨rfl, bthen (bthen hb1 hb2) hb3⟩

theorem ChecksumValues_walk (a0 : ByteArray) (w0 : a0.size ≤ maxLen) (w : World) :
    Calls Try.prog 3 #[.string a0] w fun e w' => e = .returned (.bool true) ∧ Below w.heap.size w w' := by
  clear w0
  by_cases h : 300 < a0.size
  · go_enter Try.func3, Try.ntmps3
    go_wp2_with fail
    refine (awake_any _).mono ?_
    rintro e w1 ⟨rfl, hb1⟩
    have hd : decide (300 < (a0.size : Int)) = true := decide_eq_true (by omega)
    go_wp2_with fail
    go_ret
    exact ⟨rfl, hb1⟩
  · have hs : a0.size ≤ 140737488351232 := by omega
    go_enter Try.func3, Try.ntmps3
    go_wp2_with fail
    refine (awake_any _).mono ?_
    rintro e w1 ⟨rfl, hb1⟩
    have hd : decide (300 < (a0.size : Int)) = false := decide_eq_false (by omega)
    go_wp2_with fail
    refine (EDC_any _ hs _).mono ?_
    rintro e w2 ⟨rfl, hb2⟩
    go_wp2_with fail
    refine (refEDC_edc _ hs _).mono ?_
    rintro e w3 ⟨rfl, rfl⟩
    go_wp2_with fail
    refine (CRC16_any _ hs _).mono ?_
    rintro e w4 ⟨rfl, hb4⟩
    go_wp2_with fail
    refine (refCRC16_crc _ hs _).mono ?_
    rintro e w5 ⟨rfl, rfl⟩
    go_wp2_with fail
    refine (Sum8_any _ hs _).mono ?_
    rintro e w6 ⟨rfl, rfl⟩
    go_wp2_with fail
    refine (refSum8_any _ hs _).mono ?_
    rintro e w7 ⟨rfl, rfl⟩
    go_wp2_with fail
    go_ret
    exact ⟨rfl, bthen (bthen hb1 hb2) hb4⟩
end Go.Proofs.Ytefaabigpbndaaa

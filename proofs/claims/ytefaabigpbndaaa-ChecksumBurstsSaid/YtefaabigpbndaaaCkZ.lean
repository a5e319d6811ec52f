/-
  The law ChecksumCloses (package masterdisclaw02): the code of bytes followed by their recorded code is 0, and zero bytes in front do not change a code.
-/
import Derived.Test.YtefaabigpbndaaaCkY
import Derived.Test.YtefaabigpbndaaaShelf
namespace Go.Proofs.Ytefaabigpbndaaa
open Go.RowKit Go.Lib
set_option linter.unusedVariables false
set_option linter.unusedSimpArgs false

theorem eb_self (c : Nat) (b : UInt8) (h : b.toNat = c % 256) : eb c b = c / 256 := by
  unfold eb; rw [h, Nat.xor_self, esN_zero, Nat.xor_zero]
theorem ofNat_int (n : Nat) (h : n < 256) (i : Int) (e : i = (n : Int)) : (UInt8.ofNat i.toNat).toNat = n := by
  rw [e, Int.toNat_natCast, UInt8.toNat_ofNat_of_lt' h]
theorem edc_close (c : Nat) (hc : c < 4294967296) : edc c (eby c).data.toList = 0 := by
  unfold eby
  rw [strOfNums_data]
  show eb (eb (eb (eb c _) _) _) _ = 0
  rw [eb_self c _ (ofNat_int (c % 256) (by omega) _ (by omega)), eb_self (c / 256) _ (ofNat_int (c / 256 % 256) (by omega) _ (by omega)),
    eb_self (c / 256 / 256) _ (ofNat_int (c / 256 / 256 % 256) (by omega) _ (by omega)), eb_self (c / 256 / 256 / 256) _ (ofNat_int (c / 256 / 256 / 256 % 256) (by omega) _ (by omega))]
  omega
theorem cb_self (c : Nat) (b : UInt8) (h : b.toNat = c / 256) : cb c b = c * 256 % 65536 := by
  unfold cb; rw [h, Nat.xor_self, Nat.zero_mul, csN_zero, Nat.xor_zero]
theorem crc_close (c : Nat) (hc : c < 65536) : crc c (cby c).data.toList = 0 := by
  unfold cby
  rw [strOfNums_data]
  show cb (cb c _) _ = 0
  rw [cb_self c _ (ofNat_int (c / 256) (by omega) _ (by omega)), cb_self (c * 256 % 65536) _ (ofNat_int (c % 256) (by omega) _ (by omega) |>.trans (by omega))]
  omega
theorem edc_zeros (n : Nat) (l : List UInt8) : edc 0 (repeatL [0] n ++ l) = edc 0 l := by
  induction n with
  | zero => rfl
  | succ n ih => exact ih
theorem crc_zeros (n : Nat) (l : List UInt8) : crc 0 (repeatL [0] n ++ l) = crc 0 l := by
  induction n with
  | zero => rfl
  | succ n ih => exact ih
theorem eby_size (c : Nat) : (eby c).size = 4 := strOfNums_size _
theorem cby_size (c : Nat) : (cby c).size = 2 := strOfNums_size _

theorem ChecksumCloses_walk (a0 : ByteArray) (a1 : Int) (w0 : a0.size ≤ maxLen) (w1 : (Lit.int .u8 a1).wf = true) (w : World) :
    Calls Try.prog 9 #[.string a0, .int .u8 a1] w fun e w' => e = .returned (.bool true) ∧ Below w.heap.size w w' := by
  have A1 := bounds_u8 w1
  clear w0 w1
  obtain ⟨n, rfl⟩ := Int.eq_ofNat_of_zero_le A1.1
  by_cases h : 300 < a0.size
  · have hd : decide (300 < (a0.size : Int)) = true := decide_eq_true (by omega)
    go_enter Try.func9, Try.ntmps9
    go_wp2_with fail
    refine (awake_any _).mono ?_
    rintro e w1 ⟨rfl, hb1⟩
    go_wp2_with fail
    go_ret
    exact ⟨rfl, hb1⟩
  · have hd : decide (300 < (a0.size : Int)) = false := decide_eq_false (by omega)
    have s0 : a0.size ≤ 140737488351232 := by omega
    have l1 := edc_lt a0.data.toList (show 0 < 4294967296 by omega)
    have l2 := crc_lt a0.data.toList (show 0 < 65536 by omega)
    have HR : Hid (∀ w : World, Calls Try.prog 29 #[.string { data := #[0] }, .int .i64 (n : Int)] w fun e w' => e = .returned (.string ⟨(repeatL [0] n).toArray⟩) ∧ Below w.heap.size w w') := fun w => Try.strings_Repeat { data := #[0] } n w (by omega) (by show 1 * n ≤ _; omega)
    have HE : Hid (∀ w : World, Calls Try.prog 11 #[.string a0] w fun e w' => e = .returned (.int .u32 (edc 0 a0.data.toList : Nat)) ∧ Below w.heap.size w w') := fun w => EDC_any a0 s0 w
    have HC : Hid (∀ w : World, Calls Try.prog 13 #[.string a0] w fun e w' => e = .returned (.int .u16 (crc 0 a0.data.toList : Nat)) ∧ Below w.heap.size w w') := fun w => CRC16_any a0 s0 w
    have HE2 : Hid (∀ w : World, Calls Try.prog 11 #[.string (a0 ++ eby (edc 0 a0.data.toList))] w fun e w' => e = .returned (.int .u32 0) ∧ Below w.heap.size w w') := fun w => by
      have := EDC_any (a0 ++ eby (edc 0 a0.data.toList)) (by rw [ByteArray.size_append, eby_size]; omega) w
      rw [app_list, edc_append, edc_close _ l1] at this
      exact this
    have HC2 : Hid (∀ w : World, Calls Try.prog 13 #[.string (a0 ++ cby (crc 0 a0.data.toList))] w fun e w' => e = .returned (.int .u16 0) ∧ Below w.heap.size w w') := fun w => by
      have := CRC16_any (a0 ++ cby (crc 0 a0.data.toList)) (by rw [ByteArray.size_append, cby_size]; omega) w
      rw [app_list, crc_append, crc_close _ l2] at this
      exact this
    have zs : (⟨(repeatL [0] n).toArray⟩ : ByteArray).size = n := by
      show (repeatL [0] n).toArray.size = n
      rw [List.size_toArray, repeatL_length]; simp
    have zl : (⟨(repeatL [0] n).toArray⟩ : ByteArray).data.toList = repeatL [0] n := rfl
    have HE3 : Hid (∀ w : World, Calls Try.prog 11 #[.string (⟨(repeatL [0] n).toArray⟩ ++ a0)] w fun e w' => e = .returned (.int .u32 (edc 0 a0.data.toList : Nat)) ∧ Below w.heap.size w w') := fun w => by
      have := EDC_any (⟨(repeatL [0] n).toArray⟩ ++ a0) (by rw [ByteArray.size_append, zs]; omega) w
      rw [app_list, zl, edc_zeros] at this
      exact this
    have HC3 : Hid (∀ w : World, Calls Try.prog 13 #[.string (⟨(repeatL [0] n).toArray⟩ ++ a0)] w fun e w' => e = .returned (.int .u16 (crc 0 a0.data.toList : Nat)) ∧ Below w.heap.size w w') := fun w => by
      have := CRC16_any (⟨(repeatL [0] n).toArray⟩ ++ a0) (by rw [ByteArray.size_append, zs]; omega) w
      rw [app_list, zl, crc_zeros] at this
      exact this
    clear zl
    have z2 : (⟨(repeatL [0] n).toArray⟩ : ByteArray).size ≤ 255 := by omega
    clear zs
    generalize (⟨(repeatL [0] n).toArray⟩ : ByteArray) = Z at *
    generalize edc 0 a0.data.toList = x at *
    generalize crc 0 a0.data.toList = y at *
    have HX : Hid (∀ w : World, Calls Try.prog 22 #[.int .u32 (x : Int)] w fun e w' => e = .returned (.string (eby x)) ∧ Below w.heap.size w w') := fun w => EDCBytes_any x l1 w
    have HY : Hid (∀ w : World, Calls Try.prog 24 #[.int .u16 (y : Int)] w fun e w' => e = .returned (.string (cby y)) ∧ Below w.heap.size w w') := fun w => CRCBytes_any y l2 w
    have q1 := eby_size x
    have q2 := cby_size y
    have r1 : (eby x).size ≤ 4 := by omega
    have r2 : (cby y).size ≤ 2 := by omega
    clear q1 q2
    generalize eby x = X at *
    generalize cby y = Y at *
    go_enter Try.func9, Try.ntmps9
    go_wp2_with fail
    refine (awake_any _).mono ?_
    rintro e w1 ⟨rfl, hb1⟩
    go_wp2_with fail
    refine (HR.out _).mono ?_
    rintro e w2 ⟨rfl, hb2⟩
    go_wp2_with fail
    refine (HE.out _).mono ?_
    rintro e w3 ⟨rfl, hb3⟩
    go_wp2_with fail
    refine (HX.out _).mono ?_
    rintro e w4 ⟨rfl, hb4⟩
    go_wp2_with fail
    refine (HE2.out _).mono ?_
    rintro e w5 ⟨rfl, hb5⟩
    go_wp2_with fail
    refine (HC.out _).mono ?_
    rintro e w6 ⟨rfl, hb6⟩
    go_wp2_with fail
    refine (HY.out _).mono ?_
    rintro e w7 ⟨rfl, hb7⟩
    go_wp2_with fail
    refine (HC2.out _).mono ?_
    rintro e w8 ⟨rfl, hb8⟩
    go_wp2_with fail
    refine (HE3.out _).mono ?_
    rintro e w9 ⟨rfl, hb9⟩
    go_wp2_with fail
    refine (HE.out _).mono ?_
    rintro e w10 ⟨rfl, hb10⟩
    go_wp2_with fail
    refine (HC3.out _).mono ?_
    rintro e w11 ⟨rfl, hb11⟩
    go_wp2_with fail
    refine (HC.out _).mono ?_
    rintro e w12 ⟨rfl, hb12⟩
    go_wp2_with fail
    go_ret
    exact ⟨rfl, bthen (bthen (bthen (bthen (bthen (bthen (bthen (bthen (bthen (bthen (bthen hb1 hb2) hb3) hb4) hb5) hb6) hb7) hb8) hb9) hb10) hb11) hb12⟩
end Go.Proofs.Ytefaabigpbndaaa

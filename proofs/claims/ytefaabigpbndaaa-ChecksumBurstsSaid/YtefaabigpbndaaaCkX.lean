/-
  The law ChecksumExtends (package masterdisclaw02): the walk of its text returns true for any registers and bytes.
-/
import Derived.Test.YtefaabigpbndaaaCkV
import Derived.OpenShut
namespace Go.Proofs.Ytefaabigpbndaaa
open Go.RowKit Go.Lib
set_option linter.unusedVariables false
set_option linter.unusedSimpArgs false

theorem refExtendEDC_edc (c : Nat) (hc : c < 4294967296) (s : ByteArray) (hs : s.size ≤ 140737488351232) (w : World) : Calls Try.prog 18 #[.int .u32 (c : Int), .string s] w fun e w' => e = .returned (.int .u32 (edc c s.data.toList : Nat)) ∧ w = w' := by
  rw [edc_edcR]; exact refExtendEDC_any c hc s hs w
theorem refExtendCRC16_crc (c : Nat) (hc : c < 65536) (s : ByteArray) (hs : s.size ≤ 140737488351232) (w : World) : Calls Try.prog 20 #[.int .u16 (c : Int), .string s] w fun e w' => e = .returned (.int .u16 (crc c s.data.toList : Nat)) ∧ w = w' := by
  rw [crc_crcR hc]; exact refExtendCRC16_any c hc s hs w
theorem edc_append (c : Nat) (l m : List UInt8) : edc c (l ++ m) = edc (edc c l) m := by unfold edc; rw [List.foldl_append]
theorem crc_append (c : Nat) (l m : List UInt8) : crc c (l ++ m) = crc (crc c l) m := by unfold crc; rw [List.foldl_append]
theorem sm_fold (c : Nat) (l : List UInt8) : l.foldl sm c % 256 = (c + l.foldl sm 0) % 256 := by
  induction l generalizing c with
  | nil => simp
  | cons b l ih =>
    simp only [List.foldl_cons]
    have e1 := ih (sm c b)
    have e2 := ih (sm 0 b)
    unfold sm at e1 e2 ⊢
    omega
theorem sum8_append (l m : List UInt8) : sum8 (l ++ m) = (sum8 l + sum8 m) % 256 := by
  have h1 : sum8 (l ++ m) = m.foldl sm (sum8 l) := by unfold sum8; rw [List.foldl_append]
  have h2 := sm_fold (sum8 l) m
  rw [← h1] at h2
  have h3 := sum8_lt (l ++ m)
  rw [Nat.mod_eq_of_lt h3] at h2
  exact h2

theorem app_list (a b : ByteArray) : (a ++ b).data.toList = a.data.toList ++ b.data.toList := by simp
theorem EDC_app (a b : ByteArray) (ha : a.size ≤ 300) (hb : b.size ≤ 300) (w : World) : Calls Try.prog 11 #[.string (a ++ b)] w fun e w' => e = .returned (.int .u32 (edc (edc 0 a.data.toList) b.data.toList : Nat)) ∧ Below w.heap.size w w' := by
  rw [← edc_append, ← app_list]; exact EDC_any (a ++ b) (by rw [ByteArray.size_append]; omega) w
theorem CRC16_app (a b : ByteArray) (ha : a.size ≤ 300) (hb : b.size ≤ 300) (w : World) : Calls Try.prog 13 #[.string (a ++ b)] w fun e w' => e = .returned (.int .u16 (crc (crc 0 a.data.toList) b.data.toList : Nat)) ∧ Below w.heap.size w w' := by
  rw [← crc_append, ← app_list]; exact CRC16_any (a ++ b) (by rw [ByteArray.size_append]; omega) w
theorem Sum8_app (a b : ByteArray) (ha : a.size ≤ 300) (hb : b.size ≤ 300) (w : World) : Calls Try.prog 15 #[.string (a ++ b)] w fun e w' => e = .returned (.int .u8 (((sum8 a.data.toList : Nat) + (sum8 b.data.toList : Nat) : Int) % 256)) ∧ w = w' := by
  have := Sum8_any (a ++ b) (by rw [ByteArray.size_append]; omega) w
  rw [app_list, sum8_append] at this
  exact this

set_option maxRecDepth 100000 in
theorem ChecksumExtends_walk (a0 : Int) (a1 : Int) (a2 : ByteArray) (a3 : ByteArray) (w0 : (Lit.int .u32 a0).wf = true) (w1 : (Lit.int .u16 a1).wf = true) (w2 : a2.size ≤ maxLen) (w3 : a3.size ≤ maxLen) (w : World) :
    Calls Try.prog 4 #[.int .u32 a0, .int .u16 a1, .string a2, .string a3] w fun e w' => e = .returned (.bool true) ∧ Below w.heap.size w w' := by
  have A0 := bounds_u32 w0
  have A1 := bounds_u16 w1
  clear w0 w1 w2 w3
  obtain ⟨c0, rfl⟩ := Int.eq_ofNat_of_zero_le A0.1
  obtain ⟨c1, rfl⟩ := Int.eq_ofNat_of_zero_le A1.1
  have l0 : c0 < 4294967296 := by omega
  have l1 : c1 < 65536 := by omega
  by_cases h2 : 300 < a2.size
  · have hd : decide (300 < (a2.size : Int)) = true := decide_eq_true (by omega)
    go_enter Try.func4, Try.ntmps4
    go_wp2_with fail
    refine (awake_any _).mono ?_
    rintro e w1 ⟨rfl, hb1⟩
    go_wp2_with fail
    go_ret
    exact ⟨rfl, hb1⟩
  · have hd : decide (300 < (a2.size : Int)) = false := decide_eq_false (by omega)
    by_cases h3 : 300 < a3.size
    · have hd : decide (300 < (a3.size : Int)) = true := decide_eq_true (by omega)
      go_enter Try.func4, Try.ntmps4
      go_wp2_with fail
      refine (awake_any _).mono ?_
      rintro e w1 ⟨rfl, hb1⟩
      go_wp2_with fail
      go_ret
      exact ⟨rfl, hb1⟩
    · have hd : decide (300 < (a3.size : Int)) = false := decide_eq_false (by omega)
      have s2 : a2.size ≤ 140737488351232 := by omega
      have s3 : a3.size ≤ 140737488351232 := by omega
      go_enter Try.func4, Try.ntmps4
      go_wp2_with fail
      refine (awake_any _).mono ?_
      rintro e w1 ⟨rfl, hb1⟩
      go_wp2_with fail
      refine (ExtendEDC_any c0 l0 a2 s2 _).mono ?_
      rintro e w2 ⟨rfl, hb2⟩
      go_wp2_with fail
      refine (refExtendEDC_edc c0 l0 a2 s2 _).mono ?_
      rintro e w3 ⟨rfl, rfl⟩
      go_wp2_with fail
      refine (ExtendCRC16_any c1 l1 a2 s2 _).mono ?_
      rintro e w3 ⟨rfl, hb3⟩
      go_wp2_with fail
      refine (refExtendCRC16_crc c1 l1 a2 s2 _).mono ?_
      rintro e w4 ⟨rfl, rfl⟩
      have e2 := edc_lt a2.data.toList (show 0 < 4294967296 by omega)
      have e3 := crc_lt a2.data.toList (show 0 < 65536 by omega)
      go_wp2_with fail
      refine (EDC_app a2 a3 (by omega) (by omega) _).mono ?_
      rintro e w4 ⟨rfl, hb4⟩
      go_wp2_with fail
      refine (EDC_any a2 s2 _).mono ?_
      rintro e w5 ⟨rfl, hb5⟩
      go_wp2_with fail
      refine (ExtendEDC_any _ e2 a3 s3 _).mono ?_
      rintro e w6 ⟨rfl, hb6⟩
      go_wp2_with fail
      refine (CRC16_app a2 a3 (by omega) (by omega) _).mono ?_
      rintro e w7 ⟨rfl, hb7⟩
      go_wp2_with fail
      refine (CRC16_any a2 s2 _).mono ?_
      rintro e w8 ⟨rfl, hb8⟩
      go_wp2_with fail
      refine (ExtendCRC16_any _ e3 a3 s3 _).mono ?_
      rintro e w9 ⟨rfl, hb9⟩
      go_wp2_with fail
      refine (Sum8_app a2 a3 (by omega) (by omega) _).mono ?_
      rintro e w10 ⟨rfl, rfl⟩
      go_wp2_with fail
      refine (Sum8_any a2 s2 _).mono ?_
      rintro e w10 ⟨rfl, rfl⟩
      go_wp2_with fail
      refine (Sum8_any a3 s3 _).mono ?_
      rintro e w10 ⟨rfl, rfl⟩
      go_wp2_with fail
      go_ret
      exact ⟨rfl, bthen (bthen (bthen (bthen (bthen (bthen (bthen (bthen hb1 hb2) hb3) hb4) hb5) hb6) hb7) hb8) hb9⟩
end Go.Proofs.Ytefaabigpbndaaa

/-
  The contracts of EDC, CRC16 and Sum8 (package checksum) and of the reference's ExtendEDC, EDC, ExtendCRC16, CRC16 and Sum8: what plain functions on lists of bytes say.
-/
import Derived.Test.YtefaabigpbndaaaCkC
namespace Go.Proofs.Ytefaabigpbndaaa
open Go.RowKit Go.Lib
set_option linter.unusedVariables false
set_option linter.unusedSimpArgs false

theorem EDC_any (s : ByteArray) (hs : s.size ≤ 140737488351232) (w : World) : Calls Try.prog 11 #[.string s] w fun e w' => e = .returned (.int .u32 (edc 0 s.data.toList : Nat)) ∧ Below w.heap.size w w' := by
  have H : Hid (∀ w : World, Calls Try.prog 17 #[.int .u32 0, .string s] w fun e w' => e = .returned (.int .u32 (edc 0 s.data.toList : Nat)) ∧ Below w.heap.size w w') := fun w => ExtendEDC_any 0 (by omega) s hs w
  go_enter Try.func11, Try.ntmps11
  go_wp2_with fail
  refine (H.out _).mono ?_
  rintro e w1 ⟨rfl, hb⟩
  go_wp2_with fail
  go_ret
  exact ⟨rfl, hb⟩
theorem CRC16_any (s : ByteArray) (hs : s.size ≤ 140737488351232) (w : World) : Calls Try.prog 13 #[.string s] w fun e w' => e = .returned (.int .u16 (crc 0 s.data.toList : Nat)) ∧ Below w.heap.size w w' := by
  have H : Hid (∀ w : World, Calls Try.prog 19 #[.int .u16 0, .string s] w fun e w' => e = .returned (.int .u16 (crc 0 s.data.toList : Nat)) ∧ Below w.heap.size w w') := fun w => ExtendCRC16_any 0 (by omega) s hs w
  go_enter Try.func13, Try.ntmps13
  go_wp2_with fail
  refine (H.out _).mono ?_
  rintro e w1 ⟨rfl, hb⟩
  go_wp2_with fail
  go_ret
  exact ⟨rfl, hb⟩

def sm (c : Nat) (b : UInt8) : Nat := (c + b.toNat) % 256
def sum8 (l : List UInt8) : Nat := l.foldl sm 0
theorem sum8_snoc (l : List UInt8) (b : UInt8) : sum8 (l ++ [b]) = sm (sum8 l) b := by unfold sum8; rw [List.foldl_append]; rfl
theorem sum8_lt (l : List UInt8) : sum8 l < 256 := by
  rcases List.eq_nil_or_concat l with rfl | ⟨l, b, rfl⟩
  · simp [sum8]
  · rw [List.concat_eq_append, sum8_snoc]; unfold sm; omega

theorem Sum8_any (s : ByteArray) (hs : s.size ≤ 140737488351232) (w : World) : Calls Try.prog 15 #[.string s] w fun e w' => e = .returned (.int .u8 (sum8 s.data.toList : Nat)) ∧ w = w' := by
  go_enter Try.func15, Try.ntmps15
  go_wp2_with fail
  go_loop [3, 7] (fun x i => ∃ k : Nat, k ≤ s.size ∧ i = .int .i64 k ∧ x = .int .u8 (sum8 (s.data.toList.take k) : Nat)) (fun _ i => s.size - (intOf i).toNat)
  case atStart => exact ⟨0, by omega, rfl, rfl⟩
  case round =>
    obtain ⟨k, hk, rfl, rfl⟩ := hrel
    have hn := sum8_lt (s.data.toList.take k)
    by_cases hlt : k < s.size
    · have HK : Hid (sum8 (s.data.toList.take (k + 1)) = sm (sum8 (s.data.toList.take k)) s[k]) := by unfold Hid; rw [take_snoc s k hlt, sum8_snoc]
      generalize sum8 (s.data.toList.take k) = x at *
      have hbt := (s[k]).toNat_lt
      go_wp2_with fail
      go_round
      case rel => exact ⟨k + 1, by omega, by go_num, by rw [HK.out]; exact int_eq (by unfold sm; omega)⟩
      case measure => simp [intOf]; omega
    · have e8 : Hid (sum8 (s.data.toList.take k) = sum8 s.data.toList) := by unfold Hid; rw [take_all s k (by omega)]
      generalize hx : sum8 (s.data.toList.take k) = x at *
      clear hx
      go_wp2_with fail
      go_ret
      exact ⟨ret_int (by rw [← e8.out]; try omega), rfl⟩

theorem refSum8_any (s : ByteArray) (hs : s.size ≤ 140737488351232) (w : World) : Calls Try.prog 16 #[.string s] w fun e w' => e = .returned (.int .u8 (sum8 s.data.toList : Nat)) ∧ w = w' := by
  go_enter Try.func16, Try.ntmps16
  go_wp2_with fail
  go_loop [3, 4] (fun x i => ∃ k : Nat, k ≤ s.size ∧ i = .int .i64 k ∧ x = .int .i64 (sum8 (s.data.toList.take k) : Nat)) (fun _ i => s.size - (intOf i).toNat)
  case atStart => exact ⟨0, by omega, rfl, rfl⟩
  case round =>
    obtain ⟨k, hk, rfl, rfl⟩ := hrel
    have hn := sum8_lt (s.data.toList.take k)
    by_cases hlt : k < s.size
    · have HK : Hid (sum8 (s.data.toList.take (k + 1)) = sm (sum8 (s.data.toList.take k)) s[k]) := by unfold Hid; rw [take_snoc s k hlt, sum8_snoc]
      generalize sum8 (s.data.toList.take k) = x at *
      have hbt := (s[k]).toNat_lt
      go_wp2_with fail
      go_round
      case rel => exact ⟨k + 1, by omega, by go_num, by rw [HK.out]; exact int_eq (by unfold sm; omega)⟩
      case measure => simp [intOf]; omega
    · have e8 : Hid (sum8 (s.data.toList.take k) = sum8 s.data.toList) := by unfold Hid; rw [take_all s k (by omega)]
      generalize hx : sum8 (s.data.toList.take k) = x at *
      clear hx
      go_wp2_with fail
      go_ret
      exact ⟨ret_int (by rw [← e8.out]; try omega), rfl⟩

/-- One byte into the reference's registers. -/
def er (c : Nat) (b : UInt8) : Nat := esN 8 (c ^^^ b.toNat)
def cr (c : Nat) (b : UInt8) : Nat := csN 8 (c ^^^ (b.toNat * 256))
def edcR (c : Nat) (l : List UInt8) : Nat := l.foldl er c
def crcR (c : Nat) (l : List UInt8) : Nat := l.foldl cr c
theorem xor_byte32 {c : Nat} (b : UInt8) (h : c < 4294967296) : c ^^^ b.toNat < 4294967296 := Nat.xor_lt_two_pow (n := 32) h (by have := b.toNat_lt; omega)
theorem xor_byte16 {c : Nat} (b : UInt8) (h : c < 65536) : c ^^^ (b.toNat * 256) < 65536 := Nat.xor_lt_two_pow (n := 16) h (by have := b.toNat_lt; omega)
theorem edcR_lt {c : Nat} (l : List UInt8) (h : c < 4294967296) : edcR c l < 4294967296 := by
  unfold edcR
  induction l generalizing c with
  | nil => exact h
  | cons b l ih => exact ih (esN_lt (xor_byte32 b h) 8)
theorem crcR_lt {c : Nat} (l : List UInt8) (h : c < 65536) : crcR c l < 65536 := by
  unfold crcR
  induction l generalizing c with
  | nil => exact h
  | cons b l ih => exact ih (csN_lt (xor_byte16 b h) 8)
theorem edcR_snoc (c : Nat) (l : List UInt8) (b : UInt8) : edcR c (l ++ [b]) = er (edcR c l) b := by unfold edcR; rw [List.foldl_append]; rfl
theorem crcR_snoc (c : Nat) (l : List UInt8) (b : UInt8) : crcR c (l ++ [b]) = cr (crcR c l) b := by unfold crcR; rw [List.foldl_append]; rfl
theorem es_yes' {n : Nat} (h : n < 4294967296) (t : ((n : Int) % 2 == 1) = true) : bits .xor .u32 ((n : Int) / 2) 3623976961 = ((es n : Nat) : Int) :=
  es_yes h (by rw [es_bit h]; have := beq_iff_eq.1 t; exact beq_iff_eq.2 (by omega))
theorem es_no' {n : Nat} (h : n < 4294967296) (t : ((n : Int) % 2 == 1) = false) : (n : Int) / 2 = ((es n : Nat) : Int) :=
  es_no h (by rw [es_bit h]; have := beq_eq_false_iff_ne.1 t; exact beq_eq_false_iff_ne.2 (by omega))
theorem cs_yes' {n : Nat} (h : n < 65536) (t : ((n : Int) / 32768 == 1) = true) : bits .xor .u16 ((n : Int) % 32768 * 2) 4129 = ((cs n : Nat) : Int) := by
  rw [show (n : Int) % 32768 * 2 = (n : Int) * 2 % 65536 by omega]; exact cs_yes h t
theorem cs_no' {n : Nat} (h : n < 65536) (t : ((n : Int) / 32768 == 1) = false) : (n : Int) % 32768 * 2 = ((cs n : Nat) : Int) := by
  rw [show (n : Int) % 32768 * 2 = (n : Int) * 2 % 65536 by omega]; exact cs_no h t

theorem refExtendEDC_any (c : Nat) (hc : c < 4294967296) (s : ByteArray) (hs : s.size ≤ 140737488351232) (w : World) :
    Calls Try.prog 18 #[.int .u32 (c : Int), .string s] w fun e w' => e = .returned (.int .u32 (edcR c s.data.toList : Nat)) ∧ w = w' := by
  go_enter Try.func18, Try.ntmps18
  go_wp2_with fail
  go_loop [0, 5] (fun x i => ∃ k : Nat, k ≤ s.size ∧ i = .int .i64 k ∧ x = .int .u32 (edcR c (s.data.toList.take k) : Nat)) (fun _ i => s.size - (intOf i).toNat)
  case atStart => exact ⟨0, by omega, rfl, rfl⟩
  case round =>
    obtain ⟨k, hk, rfl, rfl⟩ := hrel
    have hn := edcR_lt (s.data.toList.take k) hc
    by_cases hlt : k < s.size
    · have HK : Hid (edcR c (s.data.toList.take (k + 1)) = er (edcR c (s.data.toList.take k)) s[k]) := by unfold Hid; rw [take_snoc s k hlt, edcR_snoc]
      generalize edcR c (s.data.toList.take k) = x at *
      have hbt := (s[k]).toNat_lt
      have hx : bits .xor .u32 (x : Int) ((s[k]).toNat : Int) = ((x ^^^ (s[k]).toNat : Nat) : Int) := u32_xor_nat _ _ hn (by omega)
      have hx0 := xor_byte32 s[k] hn
      have hd : decide ((k : Int) < (s.size : Int)) = true := decide_eq_true (by omega)
      go_wp2_with fail
      clear hx hd
      go_loop [0, 6] (fun y j => ∃ q : Nat, q ≤ 8 ∧ j = .int .i64 q ∧ y = .int .u32 (esN q (x ^^^ (s[k]).toNat) : Nat)) (fun _ j => 8 - (intOf j).toNat)
      case atStart => exact ⟨0, by omega, rfl, rfl⟩
      case round =>
        obtain ⟨q, hq, rfl, rfl⟩ := hrel
        have hm := esN_lt hx0 q
        by_cases hql : q < 8
        · have HQ : Hid (esN (q + 1) (x ^^^ (s[k]).toNat) = es (esN q (x ^^^ (s[k]).toNat))) := rfl
          generalize esN q (x ^^^ (s[k]).toNat) = y at *
          go_wp2_with fail
          · go_round
            case rel => exact ⟨q + 1, by omega, by go_num, by rw [HQ.out]; exact int_eq (es_yes' hm (by assumption))⟩
            case measure => simp [intOf]; omega
          · go_round
            case rel => exact ⟨q + 1, by omega, by go_num, by rw [HQ.out]; exact int_eq (es_no' hm (by assumption))⟩
            case measure => simp [intOf]; omega
        · have e8 : Hid (esN q (x ^^^ (s[k]).toNat) = er x s[k]) := by unfold Hid; rw [show q = 8 by omega]; rfl
          go_wp2_with fail
          go_round
          case rel => exact ⟨k + 1, by omega, by go_num, by rw [HK.out, ← e8.out]⟩
          case measure => simp [intOf]; omega
    · have e8 : Hid (edcR c (s.data.toList.take k) = edcR c s.data.toList) := by unfold Hid; rw [take_all s k (by omega)]
      go_wp2_with fail
      go_ret
      exact ⟨ret_int (by rw [e8.out]), rfl⟩

theorem refExtendCRC16_any (c : Nat) (hc : c < 65536) (s : ByteArray) (hs : s.size ≤ 140737488351232) (w : World) :
    Calls Try.prog 20 #[.int .u16 (c : Int), .string s] w fun e w' => e = .returned (.int .u16 (crcR c s.data.toList : Nat)) ∧ w = w' := by
  go_enter Try.func20, Try.ntmps20
  go_wp2_with fail
  go_loop [0, 5] (fun x i => ∃ k : Nat, k ≤ s.size ∧ i = .int .i64 k ∧ x = .int .u16 (crcR c (s.data.toList.take k) : Nat)) (fun _ i => s.size - (intOf i).toNat)
  case atStart => exact ⟨0, by omega, rfl, rfl⟩
  case round =>
    obtain ⟨k, hk, rfl, rfl⟩ := hrel
    have hn := crcR_lt (s.data.toList.take k) hc
    by_cases hlt : k < s.size
    · have HK : Hid (crcR c (s.data.toList.take (k + 1)) = cr (crcR c (s.data.toList.take k)) s[k]) := by unfold Hid; rw [take_snoc s k hlt, crcR_snoc]
      generalize crcR c (s.data.toList.take k) = x at *
      have hbt := (s[k]).toNat_lt
      have hx : bits .xor .u16 (x : Int) (((s[k]).toNat : Int) * 256) = ((x ^^^ ((s[k]).toNat * 256) : Nat) : Int) := by rw [show ((s[k]).toNat : Int) * 256 = (((s[k]).toNat * 256 : Nat) : Int) by omega]; exact u16_xor_nat _ _ hn (by omega)
      have hx0 := xor_byte16 s[k] hn
      have hd : decide ((k : Int) < (s.size : Int)) = true := decide_eq_true (by omega)
      go_wp2_with fail
      clear hx hd
      go_loop [0, 6] (fun y j => ∃ q : Nat, q ≤ 8 ∧ j = .int .i64 q ∧ y = .int .u16 (csN q (x ^^^ ((s[k]).toNat * 256)) : Nat)) (fun _ j => 8 - (intOf j).toNat)
      case atStart => exact ⟨0, by omega, rfl, rfl⟩
      case round =>
        obtain ⟨q, hq, rfl, rfl⟩ := hrel
        have hm := csN_lt hx0 q
        by_cases hql : q < 8
        · have HQ : Hid (csN (q + 1) (x ^^^ ((s[k]).toNat * 256)) = cs (csN q (x ^^^ ((s[k]).toNat * 256)))) := rfl
          generalize csN q (x ^^^ ((s[k]).toNat * 256)) = y at *
          go_wp2_with fail
          · go_round
            case rel => exact ⟨q + 1, by omega, by go_num, by rw [HQ.out]; exact int_eq (cs_yes' hm (by assumption))⟩
            case measure => simp [intOf]; omega
          · go_round
            case rel => exact ⟨q + 1, by omega, by go_num, by rw [HQ.out]; exact int_eq (cs_no' hm (by assumption))⟩
            case measure => simp [intOf]; omega
        · have e8 : Hid (csN q (x ^^^ ((s[k]).toNat * 256)) = cr x s[k]) := by unfold Hid; rw [show q = 8 by omega]; rfl
          go_wp2_with fail
          go_round
          case rel => exact ⟨k + 1, by omega, by go_num, by rw [HK.out, ← e8.out]⟩
          case measure => simp [intOf]; omega
    · have e8 : Hid (crcR c (s.data.toList.take k) = crcR c s.data.toList) := by unfold Hid; rw [take_all s k (by omega)]
      go_wp2_with fail
      go_ret
      exact ⟨ret_int (by rw [e8.out]), rfl⟩

theorem refEDC_any (s : ByteArray) (hs : s.size ≤ 140737488351232) (w : World) : Calls Try.prog 12 #[.string s] w fun e w' => e = .returned (.int .u32 (edcR 0 s.data.toList : Nat)) ∧ w = w' := by
  have H : Hid (∀ w : World, Calls Try.prog 18 #[.int .u32 0, .string s] w fun e w' => e = .returned (.int .u32 (edcR 0 s.data.toList : Nat)) ∧ w = w') := fun w => refExtendEDC_any 0 (by omega) s hs w
  go_enter Try.func12, Try.ntmps12
  go_wp2_with fail
  refine (H.out _).mono ?_
  rintro e w1 ⟨rfl, rfl⟩
  go_wp2_with fail
  go_ret
  exact ⟨rfl, rfl⟩

theorem refCRC16_any (s : ByteArray) (hs : s.size ≤ 140737488351232) (w : World) : Calls Try.prog 14 #[.string s] w fun e w' => e = .returned (.int .u16 (crcR 0 s.data.toList : Nat)) ∧ w = w' := by
  have H : Hid (∀ w : World, Calls Try.prog 20 #[.int .u16 0, .string s] w fun e w' => e = .returned (.int .u16 (crcR 0 s.data.toList : Nat)) ∧ w = w') := fun w => refExtendCRC16_any 0 (by omega) s hs w
  go_enter Try.func14, Try.ntmps14
  go_wp2_with fail
  refine (H.out _).mono ?_
  rintro e w1 ⟨rfl, rfl⟩
  go_wp2_with fail
  go_ret
  exact ⟨rfl, rfl⟩
end Go.Proofs.Ytefaabigpbndaaa

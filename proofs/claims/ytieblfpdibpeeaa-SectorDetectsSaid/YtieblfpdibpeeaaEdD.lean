/-
  The contracts of EDC, CRC16 and Sum8 (package checksum) and of the reference's ExtendEDC, EDC, ExtendCRC16, CRC16 and Sum8: what plain functions on lists of bytes say.
-/
import Derived.Test.YtieblfpdibpeeaaEdC
namespace Go.Proofs.Ytieblfpdibpeeaa
open Go.RowKit Go.Lib
set_option linter.unusedVariables false
set_option linter.unusedSimpArgs false


theorem EDC_any (s : ByteArray) (hs : s.size ≤ 140737488351232) (w : World) : Calls Try.prog 56 #[.string s] w fun e w' => e = .returned (.int .u32 (edc 0 s.data.toList : Nat)) ∧ Below w.heap.size w w' := by
  have H : Hid (∀ w : World, Calls Try.prog 73 #[.int .u32 0, .string s] w fun e w' => e = .returned (.int .u32 (edc 0 s.data.toList : Nat)) ∧ Below w.heap.size w w') := fun w => ExtendEDC_any 0 (by omega) s hs w
  go_enter Try.func56, Try.ntmps56
  go_wp2_with fail
  refine (H.out _).mono ?_
  rintro e w1 ⟨rfl, hb⟩
  go_wp2_with fail
  go_ret
  exact ⟨rfl, hb⟩
/-- One byte into the reference's registers. -/
def er (c : Nat) (b : UInt8) : Nat := esN 8 (c ^^^ b.toNat)
def edcR (c : Nat) (l : List UInt8) : Nat := l.foldl er c
theorem xor_byte32 {c : Nat} (b : UInt8) (h : c < 4294967296) : c ^^^ b.toNat < 4294967296 := Nat.xor_lt_two_pow (n := 32) h (by have := b.toNat_lt; omega)
theorem edcR_lt {c : Nat} (l : List UInt8) (h : c < 4294967296) : edcR c l < 4294967296 := by
  unfold edcR
  induction l generalizing c with
  | nil => exact h
  | cons b l ih => exact ih (esN_lt (xor_byte32 b h) 8)
theorem edcR_snoc (c : Nat) (l : List UInt8) (b : UInt8) : edcR c (l ++ [b]) = er (edcR c l) b := by unfold edcR; rw [List.foldl_append]; rfl
theorem es_yes' {n : Nat} (h : n < 4294967296) (t : ((n : Int) % 2 == 1) = true) : bits .xor .u32 ((n : Int) / 2) 3623976961 = ((es n : Nat) : Int) :=
  es_yes h (by rw [es_bit h]; have := beq_iff_eq.1 t; exact beq_iff_eq.2 (by omega))
theorem es_no' {n : Nat} (h : n < 4294967296) (t : ((n : Int) % 2 == 1) = false) : (n : Int) / 2 = ((es n : Nat) : Int) :=
  es_no h (by rw [es_bit h]; have := beq_eq_false_iff_ne.1 t; exact beq_eq_false_iff_ne.2 (by omega))
theorem refExtendEDC_any (c : Nat) (hc : c < 4294967296) (s : ByteArray) (hs : s.size ≤ 140737488351232) (w : World) :
    Calls Try.prog 74 #[.int .u32 (c : Int), .string s] w fun e w' => e = .returned (.int .u32 (edcR c s.data.toList : Nat)) ∧ w = w' := by
  go_enter Try.func74, Try.ntmps74
  go_wp2_with fail
  go_loop [0, 5] (fun x i => ∃ k : Nat, k ≤ s.size ∧ i = .int .i64 k ∧ x = .int .u32 (edcR c (s.data.toList.take k) : Nat)) (fun _ i => s.size - (intOf i).toNat)
  case atStart => exact ⟨0, by omega, rfl, rfl⟩
  case round =>
    obtain ⟨k, hk, rfl, rfl⟩ := hrel
    have hn := edcR_lt (s.data.toList.take k) hc
    by_cases hlt : k < s.size
    · have HK : Hid (edcR c (s.data.toList.take (k + 1)) = er (edcR c (s.data.toList.take k)) s[k]) := by unfold Hid; rw [take_snoc s k hlt, edcR_snoc]
      generalize edcR c (s.data.toList.take k) = x at *
      have hbt := (s[k]).toNat_lt
      have hx : bits .xor .u32 (x : Int) ((s[k]).toNat : Int) = ((x ^^^ (s[k]).toNat : Nat) : Int) := u32_xor_nat _ _ hn (by omega)
      have hx0 := xor_byte32 s[k] hn
      have hd : decide ((k : Int) < (s.size : Int)) = true := decide_eq_true (by omega)
      go_wp2_with fail
      clear hx hd
      go_loop [0, 6] (fun y j => ∃ q : Nat, q ≤ 8 ∧ j = .int .i64 q ∧ y = .int .u32 (esN q (x ^^^ (s[k]).toNat) : Nat)) (fun _ j => 8 - (intOf j).toNat)
      case atStart => exact ⟨0, by omega, rfl, rfl⟩
      case round =>
        obtain ⟨q, hq, rfl, rfl⟩ := hrel
        have hm := esN_lt hx0 q
        by_cases hql : q < 8
        · have HQ : Hid (esN (q + 1) (x ^^^ (s[k]).toNat) = es (esN q (x ^^^ (s[k]).toNat))) := rfl
          generalize esN q (x ^^^ (s[k]).toNat) = y at *
          go_wp2_with fail
          · go_round
            case rel => exact ⟨q + 1, by omega, by go_num, by rw [HQ.out]; exact int_eq (es_yes' hm (by assumption))⟩
            case measure => simp [intOf]; omega
          · go_round
            case rel => exact ⟨q + 1, by omega, by go_num, by rw [HQ.out]; exact int_eq (es_no' hm (by assumption))⟩
            case measure => simp [intOf]; omega
        · have e8 : Hid (esN q (x ^^^ (s[k]).toNat) = er x s[k]) := by unfold Hid; rw [show q = 8 by omega]; rfl
          go_wp2_with fail
          go_round
          case rel => exact ⟨k + 1, by omega, by go_num, by rw [HK.out, ← e8.out]⟩
          case measure => simp [intOf]; omega
    · have e8 : Hid (edcR c (s.data.toList.take k) = edcR c s.data.toList) := by unfold Hid; rw [take_all s k (by omega)]
      go_wp2_with fail
      go_ret
      exact ⟨ret_int (by rw [e8.out]), rfl⟩

theorem refEDC_any (s : ByteArray) (hs : s.size ≤ 140737488351232) (w : World) : Calls Try.prog 60 #[.string s] w fun e w' => e = .returned (.int .u32 (edcR 0 s.data.toList : Nat)) ∧ w = w' := by
  have H : Hid (∀ w : World, Calls Try.prog 74 #[.int .u32 0, .string s] w fun e w' => e = .returned (.int .u32 (edcR 0 s.data.toList : Nat)) ∧ w = w') := fun w => refExtendEDC_any 0 (by omega) s hs w
  go_enter Try.func60, Try.ntmps60
  go_wp2_with fail
  refine (H.out _).mono ?_
  rintro e w1 ⟨rfl, rfl⟩
  go_wp2_with fail
  go_ret
  exact ⟨rfl, rfl⟩

end Go.Proofs.Ytieblfpdibpeeaa

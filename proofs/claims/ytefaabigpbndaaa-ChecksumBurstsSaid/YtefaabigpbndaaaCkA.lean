/-
  Plain functions of the checksums (numbers alone), and the contracts of the two functions that make a table's entry (package checksum).
-/
import Derived.Test.YtefaabigpbndaaaWd
namespace Go.Proofs.Ytefaabigpbndaaa
open Go.RowKit Go.Lib
set_option linter.unusedVariables false
set_option linter.unusedSimpArgs false

/-- One shift of the EDC's register. -/
def es (n : Nat) : Nat := if n % 2 = 1 then n / 2 ^^^ 3623976961 else n / 2
def esN : Nat → Nat → Nat
  | 0, n => n
  | k + 1, n => es (esN k n)
/-- One shift of the CRC's register. -/
def cs (n : Nat) : Nat := if n / 32768 = 1 then (n * 2 % 65536) ^^^ 4129 else n * 2 % 65536
def csN : Nat → Nat → Nat
  | 0, n => n
  | k + 1, n => cs (csN k n)

theorem es_lt {n : Nat} (h : n < 4294967296) : es n < 4294967296 := by
  unfold es
  split
  · exact Nat.xor_lt_two_pow (n := 32) (by omega) (by omega)
  · omega
theorem esN_lt {n : Nat} (h : n < 4294967296) (k : Nat) : esN k n < 4294967296 := by
  induction k with
  | zero => exact h
  | succ k ih => exact es_lt ih
theorem cs_lt {n : Nat} (h : n < 65536) : cs n < 65536 := by
  unfold cs
  split
  · exact Nat.xor_lt_two_pow (n := 16) (by omega) (by omega)
  · omega
theorem csN_lt {n : Nat} (h : n < 65536) (k : Nat) : csN k n < 65536 := by
  induction k with
  | zero => exact h
  | succ k ih => exact cs_lt ih

theorem es_bit {n : Nat} (h : n < 4294967296) : bits .and .u32 (n : Int) 1 = ((n % 2 : Nat) : Int) := by
  rw [show (1 : Int) = ((1 : Nat) : Int) from rfl, u32_and_nat n 1 h (by omega), Nat.and_one_is_mod]
theorem es_yes {n : Nat} (h : n < 4294967296) (t : (bits .and .u32 (n : Int) 1 == 1) = true) : bits .xor .u32 ((n : Int) / 2) 3623976961 = ((es n : Nat) : Int) := by
  rw [es_bit h] at t
  have t' : n % 2 = 1 := by have := beq_iff_eq.1 t; omega
  have e : ((n : Int) / 2) = ((n / 2 : Nat) : Int) := by omega
  rw [e, show (3623976961 : Int) = ((3623976961 : Nat) : Int) from rfl, u32_xor_nat _ _ (by omega) (by omega)]
  unfold es; rw [if_pos t']
theorem es_no {n : Nat} (h : n < 4294967296) (t : (bits .and .u32 (n : Int) 1 == 1) = false) : (n : Int) / 2 = ((es n : Nat) : Int) := by
  rw [es_bit h] at t
  have t' : ¬ n % 2 = 1 := by have := beq_eq_false_iff_ne.1 t; omega
  unfold es; rw [if_neg t']; omega
theorem cs_yes {n : Nat} (h : n < 65536) (t : ((n : Int) / 32768 == 1) = true) : bits .xor .u16 ((n : Int) * 2 % 65536) 4129 = ((cs n : Nat) : Int) := by
  have t' : n / 32768 = 1 := by have := beq_iff_eq.1 t; omega
  have e : ((n : Int) * 2 % 65536) = ((n * 2 % 65536 : Nat) : Int) := by omega
  rw [e, show (4129 : Int) = ((4129 : Nat) : Int) from rfl, u16_xor_nat _ _ (by omega) (by omega)]
  unfold cs; rw [if_pos t']
theorem cs_no {n : Nat} (h : n < 65536) (t : ((n : Int) / 32768 == 1) = false) : (n : Int) * 2 % 65536 = ((cs n : Nat) : Int) := by
  have t' : ¬ n / 32768 = 1 := by have := beq_eq_false_iff_ne.1 t; omega
  unfold cs; rw [if_neg t']; omega

theorem reflected1_any (b : Nat) (hb : b < 256) (w : World) : Calls Try.prog 39 #[.int .u8 (b : Int)] w fun e w' => e = .returned (.int .u32 (esN 8 b : Nat)) ∧ w = w' := by
  go_enter Try.func39, Try.ntmps39
  go_wp2
  go_loop [3, 6] (fun n i => ∃ k : Nat, k ≤ 8 ∧ i = .int .i64 k ∧ n = .int .u32 (esN k b : Nat)) (fun _ i => 8 - (intOf i).toNat)
  case atStart => exact ⟨0, by omega, rfl, rfl⟩
  case round =>
    obtain ⟨k, hk, rfl, rfl⟩ := hrel
    have hn := esN_lt (show b < 4294967296 by omega) k
    have HK : Hid (esN (k + 1) b = es (esN k b)) := rfl
    by_cases hlt : k < 8
    · generalize esN k b = n at *
      go_wp2
      · go_round
        case rel => exact ⟨k + 1, by omega, by go_num, by rw [HK.out]; exact int_eq (es_yes hn (by assumption))⟩
        case measure => simp [intOf]; omega
      · go_round
        case rel => exact ⟨k + 1, by omega, by go_num, by rw [HK.out]; exact int_eq (es_no hn (by assumption))⟩
        case measure => simp [intOf]; omega
    · have e8 : Hid (k = 8) := (by omega : k = 8)
      go_wp2
      go_ret
      exact ⟨ret_int (by rw [e8.out]), rfl⟩

theorem direct1_any (b : Nat) (hb : b < 256) (w : World) : Calls Try.prog 41 #[.int .u8 (b : Int)] w fun e w' => e = .returned (.int .u16 (csN 8 (b * 256) : Nat)) ∧ w = w' := by
  go_enter Try.func41, Try.ntmps41
  go_wp2
  go_loop [3, 7] (fun n i => ∃ k : Nat, k ≤ 8 ∧ i = .int .i64 k ∧ n = .int .u16 (csN k (b * 256) : Nat)) (fun _ i => 8 - (intOf i).toNat)
  case atStart => exact ⟨0, by omega, rfl, int_eq (by simp [csN]; try omega)⟩
  case round =>
    obtain ⟨k, hk, rfl, rfl⟩ := hrel
    have hn := csN_lt (show b * 256 < 65536 by omega) k
    have HK : Hid (csN (k + 1) (b * 256) = cs (csN k (b * 256))) := rfl
    by_cases hlt : k < 8
    · generalize csN k (b * 256) = n at *
      go_wp2
      · go_round
        case rel => exact ⟨k + 1, by omega, by go_num, by rw [HK.out]; exact int_eq (cs_yes hn (by assumption))⟩
        case measure => simp [intOf]; omega
      · go_round
        case rel => exact ⟨k + 1, by omega, by go_num, by rw [HK.out]; exact int_eq (cs_no hn (by assumption))⟩
        case measure => simp [intOf]; omega
    · have e8 : Hid (k = 8) := (by omega : k = 8)
      go_wp2
      go_ret
      exact ⟨ret_int (by rw [e8.out]), rfl⟩
end Go.Proofs.Ytefaabigpbndaaa

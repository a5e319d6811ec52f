/-
  Plain functions of the checksums (numbers alone), and the contracts of the two functions that make a table's entry (package checksum).
-/
import Derived.Test.YtieblfpdibpeeaaWd
namespace Go.Proofs.Ytieblfpdibpeeaa
open Go.RowKit Go.Lib
set_option linter.unusedVariables false
set_option linter.unusedSimpArgs false


/-- One shift of the EDC's register. -/
def es (n : Nat) : Nat := if n % 2 = 1 then n / 2 ^^^ 3623976961 else n / 2
def esN : Nat → Nat → Nat
  | 0, n => n
  | k + 1, n => es (esN k n)
theorem es_lt {n : Nat} (h : n < 4294967296) : es n < 4294967296 := by
  unfold es
  split
  · exact Nat.xor_lt_two_pow (n := 32) (by omega) (by omega)
  · omega
theorem esN_lt {n : Nat} (h : n < 4294967296) (k : Nat) : esN k n < 4294967296 := by
  induction k with
  | zero => exact h
  | succ k ih => exact es_lt ih
theorem es_bit {n : Nat} (h : n < 4294967296) : bits .and .u32 (n : Int) 1 = ((n % 2 : Nat) : Int) := by
  rw [show (1 : Int) = ((1 : Nat) : Int) from rfl, u32_and_nat n 1 h (by omega), Nat.and_one_is_mod]
theorem es_yes {n : Nat} (h : n < 4294967296) (t : (bits .and .u32 (n : Int) 1 == 1) = true) : bits .xor .u32 ((n : Int) / 2) 3623976961 = ((es n : Nat) : Int) := by
  rw [es_bit h] at t
  have t' : n % 2 = 1 := by have := beq_iff_eq.1 t; omega
  have e : ((n : Int) / 2) = ((n / 2 : Nat) : Int) := by omega
  rw [e, show (3623976961 : Int) = ((3623976961 : Nat) : Int) from rfl, u32_xor_nat _ _ (by omega) (by omega)]
  unfold es; rw [if_pos t']
theorem es_no {n : Nat} (h : n < 4294967296) (t : (bits .and .u32 (n : Int) 1 == 1) = false) : (n : Int) / 2 = ((es n : Nat) : Int) := by
  rw [es_bit h] at t
  have t' : ¬ n % 2 = 1 := by have := beq_eq_false_iff_ne.1 t; omega
  unfold es; rw [if_neg t']; omega
theorem reflected1_any (b : Nat) (hb : b < 256) (w : World) : Calls Try.prog 79 #[.int .u8 (b : Int)] w fun e w' => e = .returned (.int .u32 (esN 8 b : Nat)) ∧ w = w' := by
  go_enter Try.func79, Try.ntmps79
  go_wp2
  go_loop [3, 6] (fun n i => ∃ k : Nat, k ≤ 8 ∧ i = .int .i64 k ∧ n = .int .u32 (esN k b : Nat)) (fun _ i => 8 - (intOf i).toNat)
  case atStart => exact ⟨0, by omega, rfl, rfl⟩
  case round =>
    obtain ⟨k, hk, rfl, rfl⟩ := hrel
    have hn := esN_lt (show b < 4294967296 by omega) k
    have HK : Hid (esN (k + 1) b = es (esN k b)) := rfl
    by_cases hlt : k < 8
    · generalize esN k b = n at *
      go_wp2
      · go_round
        case rel => exact ⟨k + 1, by omega, by go_num, by rw [HK.out]; exact int_eq (es_yes hn (by assumption))⟩
        case measure => simp [intOf]; omega
      · go_round
        case rel => exact ⟨k + 1, by omega, by go_num, by rw [HK.out]; exact int_eq (es_no hn (by assumption))⟩
        case measure => simp [intOf]; omega
    · have e8 : Hid (k = 8) := (by omega : k = 8)
      go_wp2
      go_ret
      exact ⟨ret_int (by rw [e8.out]), rfl⟩

end Go.Proofs.Ytieblfpdibpeeaa

/-
  Plain laws of the checksums, about numbers and lists of bytes alone: the registers are linear, and the table's step is the reference's.
-/
import Derived.Test.YtieblfpdibpeeaaEdD
namespace Go.Proofs.Ytieblfpdibpeeaa
set_option linter.unusedVariables false
set_option linter.unusedSimpArgs false


theorem xor_cross (a b c d : Nat) : (a ^^^ b) ^^^ (c ^^^ d) = (a ^^^ c) ^^^ (b ^^^ d) := by
  rw [Nat.xor_assoc, Nat.xor_assoc, ← Nat.xor_assoc b c d, Nat.xor_comm b c, Nat.xor_assoc c b d]
theorem xor_mod2 (a b : Nat) : (a ^^^ b) % 2 = (a % 2) ^^^ (b % 2) := Nat.xor_mod_two_pow (n := 1)
theorem bit_cases (n : Nat) : n % 2 = 0 ∨ n % 2 = 1 := by omega

theorem es_xor (a b : Nat) : es (a ^^^ b) = es a ^^^ es b := by
  have hd : (a ^^^ b) / 2 = a / 2 ^^^ b / 2 := Nat.xor_div_two
  have hm := xor_mod2 a b
  unfold es
  rw [hd]
  rcases bit_cases a with ha | ha <;> rcases bit_cases b with hb | hb <;> rw [ha, hb] at hm <;> rw [hm, ha, hb] <;> simp
  · rw [Nat.xor_assoc]
  · rw [Nat.xor_assoc, Nat.xor_assoc, Nat.xor_comm 3623976961 (b / 2)]
  · rw [xor_cross, Nat.xor_self, Nat.xor_zero]
theorem esN_xor (k a b : Nat) : esN k (a ^^^ b) = esN k a ^^^ esN k b := by
  induction k with
  | zero => rfl
  | succ k ih => simp only [esN]; rw [ih, es_xor]
theorem esN_zero (k : Nat) : esN k 0 = 0 := by
  induction k with
  | zero => rfl
  | succ k ih => simp only [esN]; rw [ih]; rfl
theorem es_even (m : Nat) : es (m * 2) = m := by
  unfold es; rw [if_neg (by omega)]; omega
theorem esN_shift (m : Nat) : esN 8 (m * 256) = m := by
  simp only [esN]
  rw [show m * 256 = m * 2 * 2 * 2 * 2 * 2 * 2 * 2 * 2 by omega]
  rw [es_even, es_even, es_even, es_even, es_even, es_even, es_even, es_even]
/-- A number is its upper part and its lower byte. -/
theorem split_byte (c : Nat) : c = c / 256 * 256 ^^^ c % 256 := by
  apply Nat.eq_of_testBit_eq
  intro i
  rw [Nat.testBit_xor, show 256 = 2 ^ 8 from rfl, Nat.testBit_mul_two_pow, Nat.testBit_mod_two_pow, Nat.testBit_div_two_pow]
  by_cases h : 8 ≤ i
  · have h2 : ¬ i < 8 := by omega
    rw [show i - 8 + 8 = i by omega, decide_eq_true h, decide_eq_false h2]; simp
  · have h2 : i < 8 := by omega
    rw [decide_eq_false h, decide_eq_true h2]; simp
theorem eb_er (c : Nat) (b : UInt8) : eb c b = er c b := by
  unfold eb er
  conv => rhs; rw [split_byte c, Nat.xor_assoc, esN_xor, esN_shift]
theorem edc_edcR (c : Nat) (l : List UInt8) : edc c l = edcR c l := by
  unfold edc edcR
  congr 1
  funext c b
  exact eb_er c b

theorem mul_xor (a b : Nat) : (a ^^^ b) * 256 = a * 256 ^^^ b * 256 := by
  have := Nat.shiftLeft_xor_distrib (i := 8) (a := a) (b := b)
  simpa [Nat.shiftLeft_eq] using this
end Go.Proofs.Ytieblfpdibpeeaa

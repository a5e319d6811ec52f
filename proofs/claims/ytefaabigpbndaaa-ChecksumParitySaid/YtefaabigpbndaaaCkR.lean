/-
  The law ChecksumParity (package masterdisclaw02): the numbers of one bits of bytes and of their codes are both even or both odd.
-/
import Derived.Test.YtefaabigpbndaaaCkO
namespace Go.Proofs.Ytefaabigpbndaaa
open Go.RowKit Go.Lib
set_option linter.unusedVariables false
set_option linter.unusedSimpArgs false

/-- The parity of the lowest k bits. -/
def op : Nat → Nat → Nat
  | 0, _ => 0
  | k + 1, n => (n % 2 + op k (n / 2)) % 2
theorem op_lt (k n : Nat) : op k n < 2 := by cases k <;> simp only [op] <;> omega
theorem op_zero (k : Nat) : op k 0 = 0 := by
  induction k with
  | zero => rfl
  | succ k ih => simp only [op]; rw [ih]
theorem op_xor : ∀ (k a b : Nat), op k (a ^^^ b) = (op k a + op k b) % 2
  | 0, _, _ => rfl
  | k + 1, a, b => by
    simp only [op]
    rw [Nat.xor_div_two, op_xor k, xor_mod2]
    have h1 := op_lt k (a / 2)
    have h2 := op_lt k (b / 2)
    rcases bit_cases a with ha | ha <;> rcases bit_cases b with hb | hb <;> rw [ha, hb] <;> simp <;> omega
theorem op_small : ∀ (k n : Nat), n < 2 ^ k → op (k + 1) n = op k n
  | 0, n, h => by
    obtain rfl : n = 0 := by omega
    rfl
  | k + 1, n, h => by
    show (n % 2 + op (k + 1) (n / 2)) % 2 = (n % 2 + op k (n / 2)) % 2
    rw [op_small k (n / 2) (by rw [Nat.pow_succ] at h; omega)]
theorem op_split : ∀ (j k n : Nat), op (j + k) n = (op j n + op k (n / 2 ^ j)) % 2
  | 0, k, n => by
    have := op_lt k n
    simp only [op, Nat.zero_add, Nat.pow_zero, Nat.div_one]; omega
  | j + 1, k, n => by
    rw [show j + 1 + k = (j + k) + 1 by omega, op, op, op_split j k (n / 2), Nat.div_div_eq_div_mul, show 2 * 2 ^ j = 2 ^ (j + 1) by rw [Nat.pow_succ]; omega]
    omega
theorem op_mod : ∀ (k n : Nat), op k (n % 2 ^ k) = op k n
  | 0, _ => rfl
  | k + 1, n => by
    rw [op, op]
    have h1 : n % 2 ^ (k + 1) % 2 = n % 2 := by
      rw [Nat.pow_succ]; exact Nat.mod_mul_left_mod n (2 ^ k) 2
    have h2 : n % 2 ^ (k + 1) / 2 = n / 2 % 2 ^ k := by
      rw [Nat.pow_succ, Nat.mul_comm]; exact Nat.mod_mul_right_div_self n 2 (2 ^ k)
    rw [h1, h2, op_mod k]
theorem op_es {n : Nat} (h : n < 4294967296) : op 32 (es n) = op 32 n := by
  have e1 : op 32 (n / 2) = op 31 (n / 2) := op_small 31 (n / 2) (by omega)
  have e2 : op 32 n = (n % 2 + op 31 (n / 2)) % 2 := rfl
  have e3 := op_lt 31 (n / 2)
  unfold es
  by_cases t : n % 2 = 1
  · rw [if_pos t, op_xor, show op 32 3623976961 = 1 by decide +kernel, e1, e2]; omega
  · rw [if_neg t, e1, e2]; omega
theorem op_esN {n : Nat} (h : n < 4294967296) (k : Nat) : op 32 (esN k n) = op 32 n := by
  induction k with
  | zero => rfl
  | succ k ih => simp only [esN]; rw [op_es (esN_lt h k), ih]
theorem op_cs {n : Nat} (h : n < 65536) : op 16 (cs n) = op 16 n := by
  have e1 : op 16 (n * 2 % 65536) = op 15 n := by
    rw [show 65536 = 2 ^ 16 from rfl, op_mod]
    show (n * 2 % 2 + op 15 (n * 2 / 2)) % 2 = _
    rw [Nat.mul_mod_left, Nat.mul_div_cancel n (by omega)]
    have := op_lt 15 n
    omega
  have e2 : op 16 n = (op 15 n + op 1 (n / 2 ^ 15)) % 2 := op_split 15 1 n
  have e3 := op_lt 15 n
  unfold cs
  by_cases t : n / 32768 = 1
  · rw [if_pos t, op_xor, show op 16 4129 = 1 by decide +kernel, e1, e2, show 2 ^ 15 = 32768 from rfl, t]
    simp only [op]
  · have t0 : n / 32768 = 0 := by omega
    rw [if_neg t, e1, e2, show 2 ^ 15 = 32768 from rfl, t0]
    simp only [op]; omega
theorem op_csN {n : Nat} (h : n < 65536) (k : Nat) : op 16 (csN k n) = op 16 n := by
  induction k with
  | zero => rfl
  | succ k ih => simp only [csN]; rw [op_cs (csN_lt h k), ih]
theorem op_byte : ∀ n, n < 256 → op 8 n = pc8 n % 2 := by decide +kernel
theorem op_up32 (n : Nat) (h : n < 256) : op 32 n = pc8 n % 2 := by
  have := op_split 8 24 n
  rw [show 8 + 24 = 32 from rfl, show 2 ^ 8 = 256 from rfl, Nat.div_eq_of_lt h, op_zero, op_byte n h] at this
  omega
theorem op_up16 (n : Nat) (h : n < 256) : op 16 (n * 256) = pc8 n % 2 := by
  have := op_split 8 8 (n * 256)
  rw [show 8 + 8 = 16 from rfl, show 2 ^ 8 = 256 from rfl, Nat.mul_div_cancel n (by omega), op_byte n h, ← op_mod 8, show 2 ^ 8 = 256 from rfl, Nat.mul_mod_left, op_zero] at this
  omega
/-- The number of one bits of bytes. -/
def ones (l : List UInt8) : Nat := l.foldr (fun b n => pc8 b.toNat + n) 0
theorem ones_snoc (l : List UInt8) (b : UInt8) : ones (l ++ [b]) = ones l + pc8 b.toNat := by
  unfold ones
  induction l with
  | nil => simp
  | cons c l ih => simp only [List.cons_append, List.foldr_cons, ih]; omega
theorem ones_le (l : List UInt8) : ones l ≤ 8 * l.length := by
  unfold ones
  induction l with
  | nil => simp
  | cons c l ih => simp only [List.foldr_cons, List.length_cons]; have := pc8_le c.toNat c.toNat_lt; omega
theorem op_edc (l : List UInt8) (c : Nat) (h : c < 4294967296) : op 32 (edcR c l) = (op 32 c + ones l) % 2 := by
  induction l generalizing c with
  | nil => have := op_lt 32 c; simp only [edcR, ones, List.foldl_nil, List.foldr_nil]; omega
  | cons b l ih =>
    show op 32 (edcR (er c b) l) = _
    have e1 := ih (er c b) (esN_lt (xor_byte32 b h) 8)
    have e2 : op 32 (er c b) = (op 32 c + op 32 b.toNat) % 2 := by unfold er; rw [op_esN (xor_byte32 b h), op_xor]
    rw [op_up32 b.toNat b.toNat_lt] at e2
    have e3 : ones (b :: l) = pc8 b.toNat + ones l := rfl
    rw [e1, e2, e3]; omega
theorem op_crc (l : List UInt8) (c : Nat) (h : c < 65536) : op 16 (crcR c l) = (op 16 c + ones l) % 2 := by
  induction l generalizing c with
  | nil => have := op_lt 16 c; simp only [crcR, ones, List.foldl_nil, List.foldr_nil]; omega
  | cons b l ih =>
    show op 16 (crcR (cr c b) l) = _
    have e1 := ih (cr c b) (csN_lt (xor_byte16 b h) 8)
    have e2 : op 16 (cr c b) = (op 16 c + op 16 (b.toNat * 256)) % 2 := by unfold cr; rw [op_csN (xor_byte16 b h), op_xor]
    rw [op_up16 b.toNat b.toNat_lt] at e2
    have e3 : ones (b :: l) = pc8 b.toNat + ones l := rfl
    rw [e1, e2, e3]; omega
theorem ones32 (n : Nat) (h : n < 4294967296) : (pc8 (n / 16777216) + pc8 (n / 65536 % 256) + pc8 (n / 256 % 256) + pc8 (n % 256)) % 2 = op 32 n := by
  have s1 := op_split 8 24 n
  have s2 := op_split 8 16 (n / 256)
  have s3 := op_split 8 8 (n / 256 / 256)
  have m1 := op_mod 8 n
  have m2 := op_mod 8 (n / 256)
  have m3 := op_mod 8 (n / 256 / 256)
  simp only [show 2 ^ 8 = 256 from rfl, show 8 + 24 = 32 from rfl, show 8 + 16 = 24 from rfl, show 8 + 8 = 16 from rfl] at s1 s2 s3 m1 m2 m3
  rw [show n / 256 / 256 = n / 65536 by omega] at s2 s3 m3
  rw [show n / 65536 / 256 = n / 16777216 by omega] at s3
  have b1 := op_byte (n / 16777216) (by omega)
  have b2 := op_byte (n / 65536 % 256) (by omega)
  have b3 := op_byte (n / 256 % 256) (by omega)
  have b4 := op_byte (n % 256) (by omega)
  omega
theorem ones16 (n : Nat) (h : n < 65536) : (pc8 (n / 256) + pc8 (n % 256)) % 2 = op 16 n := by
  have s1 := op_split 8 8 n
  have m1 := op_mod 8 n
  simp only [show 2 ^ 8 = 256 from rfl, show 8 + 8 = 16 from rfl] at s1 m1
  have b1 := op_byte (n / 256) (by omega)
  have b2 := op_byte (n % 256) (by omega)
  omega
theorem par_edc (l : List UInt8) : (ones l + (pc8 (edc 0 l / 16777216) + pc8 (edc 0 l / 65536 % 256) + pc8 (edc 0 l / 256 % 256) + pc8 (edc 0 l % 256))) % 2 = 0 := by
  have h1 := ones32 (edc 0 l) (edc_lt l (by omega))
  have h2 := op_edc l 0 (by omega)
  rw [← edc_edcR, op_zero] at h2
  omega
theorem par_crc (l : List UInt8) : (ones l + (pc8 (crc 0 l / 256) + pc8 (crc 0 l % 256))) % 2 = 0 := by
  have h1 := ones16 (crc 0 l) (crc_lt l (by omega))
  have h2 := op_crc l 0 (by omega)
  rw [← crc_crcR (by omega), op_zero] at h2
  omega

theorem ChecksumParity_walk (a0 : ByteArray) (w0 : a0.size ≤ maxLen) (w : World) :
    Calls Try.prog 8 #[.string a0] w fun e w' => e = .returned (.bool true) ∧ Below w.heap.size w w' := by
  clear w0
  by_cases h : 300 < a0.size
  · have hd : decide (300 < (a0.size : Int)) = true := decide_eq_true (by omega)
    go_enter Try.func8, Try.ntmps8
    go_wp2_with fail
    refine (awake_any _).mono ?_
    rintro e w1 ⟨rfl, hb1⟩
    go_wp2_with fail
    go_ret
    exact ⟨rfl, hb1⟩
  · have hd : decide (300 < (a0.size : Int)) = false := decide_eq_false (by omega)
    have s0 : a0.size ≤ 140737488351232 := by omega
    go_enter Try.func8, Try.ntmps8
    go_wp2_with fail
    refine (awake_any _).mono ?_
    rintro e w1 ⟨rfl, hb1⟩
    go_wp2_with fail
    clear hd
    go_loop [3, 12] (fun x i => ∃ k : Nat, k ≤ a0.size ∧ i = .int .i64 k ∧ x = .int .i64 (ones (a0.data.toList.take k) : Nat)) (fun _ i => a0.size - (intOf i).toNat)
    case atStart => exact ⟨0, by omega, rfl, rfl⟩
    case round =>
      obtain ⟨k, hk, rfl, rfl⟩ := hrel
      have hn := ones_le (a0.data.toList.take k)
      have hn2 : ones (a0.data.toList.take k) ≤ 2400 := by rw [List.length_take] at hn; omega
      clear hn
      by_cases hlt : k < a0.size
      · have HK : Hid (ones (a0.data.toList.take (k + 1)) = ones (a0.data.toList.take k) + pc8 (a0[k]).toNat) := by unfold Hid; rw [take_snoc a0 k hlt, ones_snoc]
        generalize ones (a0.data.toList.take k) = x at *
        have hbt := (a0[k]).toNat_lt
        have hp := pc8_le (a0[k]).toNat hbt
        go_wp2_with fail
        refine (Ones8_any _ hbt _).mono ?_
        rintro e w2 ⟨rfl, rfl⟩
        go_wp2_with fail
        go_round
        case rel => exact ⟨k + 1, by omega, by go_num, by rw [HK.out]; go_num⟩
        case measure => simp [intOf]; omega
      · have e8 : Hid (ones (a0.data.toList.take k) = ones a0.data.toList) := by unfold Hid; rw [take_all a0 k (by omega)]
        have P1 := par_edc a0.data.toList
        have P2 := par_crc a0.data.toList
        rw [← e8.out] at P1 P2
        clear e8
        generalize ones (a0.data.toList.take k) = x at *
        have l1 := edc_lt a0.data.toList (show 0 < 4294967296 by omega)
        have l2 := crc_lt a0.data.toList (show 0 < 65536 by omega)
        have HE : Hid (∀ w : World, Calls Try.prog 11 #[.string a0] w fun e w' => e = .returned (.int .u32 (edc 0 a0.data.toList : Nat)) ∧ Below w.heap.size w w') := fun w => EDC_any a0 s0 w
        have HC : Hid (∀ w : World, Calls Try.prog 13 #[.string a0] w fun e w' => e = .returned (.int .u16 (crc 0 a0.data.toList : Nat)) ∧ Below w.heap.size w w') := fun w => CRC16_any a0 s0 w
        generalize edc 0 a0.data.toList = y at *
        generalize crc 0 a0.data.toList = z at *
        have H32 : Hid (∀ w : World, Calls Try.prog 27 #[.int .u32 (y : Int)] w fun e w' => e = .returned (.int .i64 (pc8 (y / 16777216) + pc8 (y / 65536 % 256) + pc8 (y / 256 % 256) + pc8 (y % 256) : Nat)) ∧ ∃ m, w' = w.drewN m) := fun w => Ones32_any y l1 w
        have H16 : Hid (∀ w : World, Calls Try.prog 28 #[.int .u16 (z : Int)] w fun e w' => e = .returned (.int .i64 (pc8 (z / 256) + pc8 (z % 256) : Nat)) ∧ ∃ m, w' = w.drewN m) := fun w => Ones16_any z l2 w
        have u1 := pc8_le (y / 16777216) (by omega)
        have u2 := pc8_le (y / 65536 % 256) (by omega)
        have u3 := pc8_le (y / 256 % 256) (by omega)
        have u4 := pc8_le (y % 256) (by omega)
        have u5 := pc8_le (z / 256) (by omega)
        have u6 := pc8_le (z % 256) (by omega)
        obtain ⟨p, hp⟩ : ∃ p, p = pc8 (y / 16777216) + pc8 (y / 65536 % 256) + pc8 (y / 256 % 256) + pc8 (y % 256) := ⟨_, rfl⟩
        obtain ⟨q, hq⟩ : ∃ q, q = pc8 (z / 256) + pc8 (z % 256) := ⟨_, rfl⟩
        have p1 : p ≤ 32 := by omega
        have q1 : q ≤ 16 := by omega
        rw [← hp] at P1 H32
        rw [← hq] at P2 H16
        have t1 : (((x : Int) + (p : Int)) % 2 == 0) = true := by rw [beq_iff_eq]; omega
        have t2 : (((x : Int) + (q : Int)) % 2 == 0) = true := by rw [beq_iff_eq]; omega
        clear hp hq P1 P2 u1 u2 u3 u4 u5 u6
        go_wp2_with fail
        refine (HE.out _).mono ?_
        rintro e w2 ⟨rfl, hb2⟩
        go_wp2_with fail
        refine (H32.out _).mono ?_
        rintro e w3 ⟨rfl, k3, rfl⟩
        go_wp2_with fail
        refine (HC.out _).mono ?_
        rintro e w4 ⟨rfl, hb4⟩
        go_wp2_with fail
        refine (H16.out _).mono ?_
        rintro e w5 ⟨rfl, k5, rfl⟩
        go_wp2_with fail
        go_ret
        exact ⟨rfl, bdrN (bthen (bdrN (bthen hb1 hb2) _) hb4) _⟩
end Go.Proofs.Ytefaabigpbndaaa

/-
  Contracts of the decimal bytes of an address: package endian's and address' functions, and the reference's.
-/
import Derived.Test.YtieblfpdibpeeaaSeC
namespace Go.Proofs.Ytieblfpdibpeeaa
open Go.RowKit Go.Lib
set_option linter.unusedVariables false
set_option linter.unusedSimpArgs false

theorem str1 (a : Int) : ∀ w : World, (convert 42 9 (.slice (some ⟨w.heap.size, 0, none⟩) 1 1)).run Try.prog (w.alloc (.cells #[.int .u8 a] 5)) = .ok (.string (strOfNums [a])) (w.alloc (.cells #[.int .u8 a] 5)) := by
  intro w
  refine run_convert_bytes_arg _ 42 5 Try.underlying42 Try.underlying5 w.heap.size 0 1 1 [a] rfl (fun i hi => ?_) 9 Try.underlying9
  have h4 : i = 0 := by omega
  rcases h4 with rfl
  simp
theorem str3 (a b c : Int) : ∀ w : World, (convert 42 9 (.slice (some ⟨w.heap.size, 0, none⟩) 3 3)).run Try.prog (w.alloc (.cells #[.int .u8 a, .int .u8 b, .int .u8 c] 5)) = .ok (.string (strOfNums [a, b, c])) (w.alloc (.cells #[.int .u8 a, .int .u8 b, .int .u8 c] 5)) := by
  intro w
  refine run_convert_bytes_arg _ 42 5 Try.underlying42 Try.underlying5 w.heap.size 0 3 3 [a, b, c] rfl (fun i hi => ?_) 9 Try.underlying9
  have h4 : i = 0 ∨ i = 1 ∨ i = 2 := by omega
  rcases h4 with rfl | rfl | rfl <;> simp
theorem str4 (a b c d : Int) : ∀ w : World, (convert 42 9 (.slice (some ⟨w.heap.size, 0, none⟩) 4 4)).run Try.prog (w.alloc (.cells #[.int .u8 a, .int .u8 b, .int .u8 c, .int .u8 d] 5)) = .ok (.string (strOfNums [a, b, c, d])) (w.alloc (.cells #[.int .u8 a, .int .u8 b, .int .u8 c, .int .u8 d] 5)) := by
  intro w
  refine run_convert_bytes_arg _ 42 5 Try.underlying42 Try.underlying5 w.heap.size 0 4 4 [a, b, c, d] rfl (fun i hi => ?_) 9 Try.underlying9
  have h4 : i = 0 ∨ i = 1 ∨ i = 2 ∨ i = 3 := by omega
  rcases h4 with rfl | rfl | rfl | rfl <;> simp

/-- The decimal byte of a number. -/
def bcd (n : Int) : Int := n / 10 * 16 + n % 10
theorem bcd_or (n : Int) (h0 : 0 ≤ n) (h1 : n ≤ 99) : bits .or .i64 (n / 10 * 16) (n % 10) = n / 10 * 16 + n % 10 := by
  obtain ⟨k, rfl⟩ := Int.eq_ofNat_of_zero_le h0
  have : ∀ k : Fin 100, bits .or .i64 (((k.val : Nat) : Int) / 10 * 16) (((k.val : Nat) : Int) % 10) = ((k.val : Nat) : Int) / 10 * 16 + ((k.val : Nat) : Int) % 10 := by decide +kernel
  exact this ⟨k, by omega⟩
theorem BCD_any (n : Int) (h0 : 0 ≤ n) (h1 : n ≤ 99) (w : World) : Calls Try.prog 54 #[.int .i64 n] w fun e w' => e = .returned (.tuple #[.int .u8 (bcd n), .int .i64 0]) ∧ w = w' := by
  have d0 : decide (n < 0) = false := decide_eq_false (by omega)
  have d1 : decide (99 < n) = false := decide_eq_false (by omega)
  have hb := bcd_or n h0 h1
  have HM : Hid (bcd n = n / 10 * 16 + n % 10) := rfl
  go_enter Try.func54, Try.ntmps54
  go_wp2_with fail
  go_ret2
  exact ⟨rfl, rfl⟩
theorem refBCD_any (n : Int) (h0 : 0 ≤ n) (h1 : n ≤ 99) (w : World) : Calls Try.prog 58 #[.int .i64 n] w fun e w' => e = .returned (.tuple #[.int .u8 (bcd n), .int .i64 0]) ∧ w = w' := by
  have d0 : decide (n < 0) = false := decide_eq_false (by omega)
  have d1 : decide (99 < n) = false := decide_eq_false (by omega)
  have HM : Hid (bcd n = n / 10 * 16 + n % 10) := rfl
  go_enter Try.func58, Try.ntmps58
  go_wp2_with fail
  go_ret2
  exact ⟨rfl, rfl⟩
theorem Encode1_any (n : Int) (h0 : 0 ≤ n) (h1 : n ≤ 99) (w : World) : Calls Try.prog 53 #[.int .i64 n] w fun e w' => e = .returned (.string (strOfNums [bcd n])) ∧ Below w.heap.size w w' := by
  have HB := hid (fun w => BCD_any n h0 h1 w)
  generalize bcd n = b at *
  have K := str1 b
  go_enter Try.func53, Try.ntmps53
  go_wp2_with fail
  refine (HB.out _).mono ?_
  rintro e w1 ⟨rfl, rfl⟩
  go_wp2_with fail
  go_ret
  exact ⟨rfl, by (repeat (first | exact Below.refl _ _ | assumption | refine balloc ?_ _ | refine bdrew ?_ | refine bdrN ?_ _ | refine bset _ (by first | omega | (simp; done) | (simp; omega)) ?_ | refine brow _ _ (by first | omega | (simp; done) | (simp; omega)) ?_ | (apply bthen; rotate_left; assumption)))⟩

theorem builder_below {T e : TypeId} {B b : Nat} {bs : List Value} {w w1 : World} (h : IsBuilder T e B b bs w) (hb : Below w.heap.size w w1) : IsBuilder T e B b bs w1 := by
  have key : ∀ p, BuilderAt T e B b p bs w → BuilderAt T e B b p bs w1 := by
    rintro p ⟨hB, v, hbk, hown, hne⟩
    exact ⟨hB, v, block_below hb hbk, own_below hown hb, hne⟩
  exact h.elim (fun x => .inl (key _ x)) (fun x => .inr (key _ x))

/-- The bytes of an address. -/
def msfS (m s f : Int) : ByteArray := strOfNums [bcd m, bcd s, bcd f]
theorem write_any (m s f : Int) (hm : 0 ≤ m ∧ m ≤ 99) (hs : 0 ≤ s ∧ s ≤ 99) (hf : 0 ≤ f ∧ f ≤ 99) (w : World) :
    Calls Try.prog 52 #[.agg #[.int .i64 m, .int .i64 s, .int .i64 f], .func (Fn.func 53) #[] #[]] w fun e w' => e = .returned (.string (msfS m s f)) ∧ Below w.heap.size w w' := by
  have i0 : ∀ w : World, (Instr.index 87 (.agg #[.int .i64 m, .int .i64 s, .int .i64 f]) (.int .i64 0)).run Try.prog w = .ok (.int .i64 m) w := fun _ => by kernel_rfl
  have i1 : ∀ w : World, (Instr.index 87 (.agg #[.int .i64 m, .int .i64 s, .int .i64 f]) (.int .i64 1)).run Try.prog w = .ok (.int .i64 s) w := fun _ => by kernel_rfl
  have i2 : ∀ w : World, (Instr.index 87 (.agg #[.int .i64 m, .int .i64 s, .int .i64 f]) (.int .i64 2)).run Try.prog w = .ok (.int .i64 f) w := fun _ => by kernel_rfl
  have E0 := hid (fun w => Encode1_any m hm.1 hm.2 w)
  have E1 := hid (fun w => Encode1_any s hs.1 hs.2 w)
  have E2 := hid (fun w => Encode1_any f hf.1 hf.2 w)
  go_enter Try.func52, Try.ntmps52
  go_wp2_with fail
  refine (split_any m s f _).mono ?_
  rintro e w1 ⟨rfl, hb1⟩
  have B1 : IsBuilder 71 5 (w.heap.size + 1) (w.heap.size + 1) [] w1 := by
    simpa using builder_below (Lib.fresh_isBuilder 71 5 (w.alloc (Obj.cells #[Value.int IntKind.i64 m, Value.int IntKind.i64 s, Value.int IntKind.i64 f] 52))) hb1
  have L1 : Below w.heap.size w w1 := by (repeat (first | exact Below.refl _ _ | assumption | refine balloc ?_ _ | refine bdrew ?_ | refine bdrN ?_ _ | refine bset _ (by first | omega | (simp; done) | (simp; omega)) ?_ | refine brow _ _ (by first | omega | (simp; done) | (simp; omega)) ?_ | (apply bthen; rotate_left; assumption)))
  clear hb1
  go_wp2_with fail
  refine wp_loop_rounds 4 ?_
  rw [rounds_succ]
  go_wp2_with fail
  refine (E0.out _).mono ?_
  rintro e w2 ⟨rfl, hb2⟩
  have B2 := builder_below B1 hb2
  have L2 := bthen L1 hb2
  have z2 : w.heap.size + 1 ≤ w2.heap.size := by rcases B2 with h | h <;> have := h.lt <;> omega
  clear B1 L1 hb2
  go_wp2_with fail
  refine (WriteString_any _ _ _ _ _ B2 (by rw [strOfNums_size]; simp) z2).mono ?_
  rintro e w3 ⟨rfl, B3, hb3⟩
  have L3 := L2.trans (hb3.mono (Nat.le_succ _))
  clear B2 L2 hb3 z2
  go_wp2_with fail
  rw [rounds_succ]
  go_wp2_with fail
  refine (E1.out _).mono ?_
  rintro e w4 ⟨rfl, hb4⟩
  have B4 := builder_below (.inr B3) hb4
  have L4 := bthen L3 hb4
  have z4 : w.heap.size + 1 ≤ w4.heap.size := by rcases B4 with h | h <;> have := h.lt <;> omega
  clear B3 L3 hb4
  go_wp2_with fail
  refine (WriteString_any _ _ _ _ _ B4 (by rw [strOfNums_size, List.length_append, Lib.strCells_length, strOfNums_size]; simp) z4).mono ?_
  rintro e w5 ⟨rfl, B5, hb5⟩
  have L5 := L4.trans (hb5.mono (Nat.le_succ _))
  clear B4 L4 hb5 z4
  go_wp2_with fail
  rw [rounds_succ]
  go_wp2_with fail
  refine (E2.out _).mono ?_
  rintro e w6 ⟨rfl, hb6⟩
  have B6 := builder_below (.inr B5) hb6
  have L6 := bthen L5 hb6
  have z6 : w.heap.size + 1 ≤ w6.heap.size := by rcases B6 with h | h <;> have := h.lt <;> omega
  clear B5 L5 hb6
  go_wp2_with fail
  refine (WriteString_any _ _ _ _ _ B6 (by rw [strOfNums_size, List.length_append, List.length_append, Lib.strCells_length, Lib.strCells_length, strOfNums_size, strOfNums_size]; simp) z6).mono ?_
  rintro e w7 ⟨rfl, B7, hb7⟩
  have L7 := L6.trans (hb7.mono (Nat.le_succ _))
  have z7 : w.heap.size + 1 ≤ w7.heap.size := by have := B7.lt; omega
  clear B6 L6 hb7 z6
  have B8 : IsBuilder 71 5 (w.heap.size + 1) (w.heap.size + 1) (byteCells (msfS m s f).data.toList) w7 := .inr B7
  clear B7
  go_wp2_with fail
  rw [rounds_succ]
  go_wp2_with fail
  refine (Try.Builder_String_any _ _ _ _ B8 z7).mono ?_
  rintro e w8 ⟨rfl, hb8⟩
  have L8 := L7.trans (hb8.mono (Nat.le_succ _))
  clear B8 L7 hb8
  go_wp2_with fail
  go_ret
  exact ⟨rfl, L8⟩

theorem Encode_any (m s f : Int) (hm : 0 ≤ m ∧ m ≤ 99) (hs : 0 ≤ s ∧ s ≤ 59) (hf : 0 ≤ f ∧ f ≤ 74) (w : World) :
    Calls Try.prog 28 #[.agg #[.int .i64 m, .int .i64 s, .int .i64 f]] w fun e w' => e = .returned (.tuple #[.string (msfS m s f), .int .i64 0]) ∧ Below w.heap.size w w' := by
  have HV : Hid (∀ w : World, Calls Try.prog 51 #[.agg #[.int .i64 m, .int .i64 s, .int .i64 f]] w fun e w' => e = .returned (.bool true) ∧ Below w.heap.size w w') := fun w => by
    have := aValid_any m s f hm (by omega) (by omega) w
    rwa [show okM m s f = true from decide_eq_true (by omega)] at this
  have HW := hid (fun w => write_any m s f hm (by omega) (by omega) w)
  generalize msfS m s f = S at *
  go_enter Try.func28, Try.ntmps28
  go_wp2_with fail
  refine (HV.out _).mono ?_
  rintro e w1 ⟨rfl, hb1⟩
  obtain ⟨z0, k0, k1, k2⟩ := keep3 hb1
  go_wp2_with fail
  refine (HW.out _).mono ?_
  rintro e w2 ⟨rfl, hb2⟩
  go_wp2_with fail
  go_ret2
  exact ⟨rfl, by (repeat (first | exact Below.refl _ _ | assumption | refine balloc ?_ _ | refine bdrew ?_ | refine bdrN ?_ _ | refine bset _ (by first | omega | (simp; done) | (simp; omega)) ?_ | refine brow _ _ (by first | omega | (simp; done) | (simp; omega)) ?_ | (apply bthen; rotate_left; assumption)))⟩

theorem refAValid_ok (m s f : Int) (hm : 0 ≤ m ∧ m ≤ 99) (hs : 0 ≤ s ∧ s ≤ 59) (hf : 0 ≤ f ∧ f ≤ 74) (w : World) : Calls Try.prog 57 #[.agg #[.int .i64 m, .int .i64 s, .int .i64 f]] w fun e w' => e = .returned (.bool true) ∧ Below w.heap.size w w' := by
  have a0 : decide (0 ≤ m) = true := decide_eq_true (by omega)
  have a1 : decide (m ≤ 99) = true := decide_eq_true (by omega)
  have a2 : decide (0 ≤ s) = true := decide_eq_true (by omega)
  have a3 : decide (s ≤ 59) = true := decide_eq_true (by omega)
  have a4 : decide (0 ≤ f) = true := decide_eq_true (by omega)
  have a5 : decide (f ≤ 74) = true := decide_eq_true (by omega)
  go_enter Try.func57, Try.ntmps57
  go_wp2_with fail
  go_ret
  exact ⟨rfl, by (repeat (first | exact Below.refl _ _ | assumption | refine balloc ?_ _ | refine bdrew ?_ | refine bdrN ?_ _ | refine bset _ (by first | omega | (simp; done) | (simp; omega)) ?_ | refine brow _ _ (by first | omega | (simp; done) | (simp; omega)) ?_ | (apply bthen; rotate_left; assumption)))⟩
theorem refEncode_any (m s f : Int) (hm : 0 ≤ m ∧ m ≤ 99) (hs : 0 ≤ s ∧ s ≤ 59) (hf : 0 ≤ f ∧ f ≤ 74) (w : World) :
    Calls Try.prog 33 #[.agg #[.int .i64 m, .int .i64 s, .int .i64 f]] w fun e w' => e = .returned (.tuple #[.string (msfS m s f), .int .i64 0]) ∧ Below w.heap.size w w' := by
  have HV := hid (fun w => refAValid_ok m s f hm hs hf w)
  have H0 := hid (fun w => refBCD_any m (by omega) (by omega) w)
  have H1 := hid (fun w => refBCD_any s (by omega) (by omega) w)
  have H2 := hid (fun w => refBCD_any f (by omega) (by omega) w)
  have K := str3 (bcd m) (bcd s) (bcd f)
  have HM : Hid (msfS m s f = strOfNums [bcd m, bcd s, bcd f]) := rfl
  generalize bcd m = x at *
  generalize bcd s = y at *
  generalize bcd f = z at *
  go_enter Try.func33, Try.ntmps33
  go_wp2_with fail
  refine (HV.out _).mono ?_
  rintro e w1 ⟨rfl, hb1⟩
  obtain ⟨z0, k0, k1, k2⟩ := keep3 hb1
  go_wp2_with fail
  refine (H0.out _).mono ?_
  rintro e w2 ⟨rfl, rfl⟩
  go_wp2_with fail
  refine (H1.out _).mono ?_
  rintro e w2 ⟨rfl, rfl⟩
  go_wp2_with fail
  refine (H2.out _).mono ?_
  rintro e w2 ⟨rfl, rfl⟩
  go_wp2_with fail
  go_ret2
  exact ⟨by rw [HM.out]; rfl, by (repeat (first | exact Below.refl _ _ | assumption | refine balloc ?_ _ | refine bdrew ?_ | refine bdrN ?_ _ | refine bset _ (by first | omega | (simp; done) | (simp; omega)) ?_ | refine brow _ _ (by first | omega | (simp; done) | (simp; omega)) ?_ | (apply bthen; rotate_left; assumption)))⟩
end Go.Proofs.Ytieblfpdibpeeaa

/-
  Contracts of FromBCD (package endian and the reference), number and ToLBA.
-/
import Derived.Test.YtieblfpdibpeeaaSeN
namespace Go.Proofs.Ytieblfpdibpeeaa
open Go.RowKit Go.Lib
set_option linter.unusedVariables false
set_option linter.unusedSimpArgs false

/-- The number of a decimal byte, and the error. -/
def fb (b : Nat) : Int × Int := if b / 16 ≤ 9 ∧ b % 16 ≤ 9 then (((b / 16 * 10 + b % 16 : Nat) : Int), 0) else (0, 2)
theorem and15 (b : Nat) (h : b < 256) : bits .and .u8 (b : Int) 15 = ((b % 16 : Nat) : Int) := by
  have : ∀ k : Fin 256, bits .and .u8 ((k.val : Nat) : Int) 15 = ((k.val % 16 : Nat) : Int) := by decide +kernel
  exact this ⟨b, h⟩
theorem FromBCD_any (b : Nat) (h : b < 256) (w : World) : Calls Try.prog 61 #[.int .u8 (b : Int)] w fun e w' => e = .returned (.tuple #[.int .i64 (fb b).1, .int .i64 (fb b).2]) ∧ w = w' := by
  have k15 := and15 b h
  by_cases h1 : b / 16 ≤ 9
  · have d1 : decide (9 < (b : Int) / 16) = false := decide_eq_false (by omega)
    by_cases h2 : b % 16 ≤ 9
    · have HF : Hid (fb b = (10 * ((b : Int) / 16) + (b : Int) % 16, 0)) := by
        unfold Hid fb
        rw [if_pos ⟨h1, h2⟩]
        congr 1; omega
      have d2 : decide (9 < ((b : Int) % 16)) = false := decide_eq_false (by omega)
      go_enter Try.func61, Try.ntmps61
      go_wp2_with fail
      go_ret2
      exact ⟨by rw [HF.out]; rfl, rfl⟩
    · have HF : Hid (fb b = (0, 2)) := if_neg (by omega)
      have d2 : decide (9 < ((b : Int) % 16)) = true := decide_eq_true (by omega)
      go_enter Try.func61, Try.ntmps61
      go_wp2_with fail
      go_ret2
      exact ⟨by rw [HF.out]; rfl, rfl⟩
  · have HF : Hid (fb b = (0, 2)) := if_neg (by omega)
    have d1 : decide (9 < (b : Int) / 16) = true := decide_eq_true (by omega)
    go_enter Try.func61, Try.ntmps61
    go_wp2_with fail
    go_ret2
    exact ⟨by rw [HF.out]; rfl, rfl⟩
theorem refFromBCD_any (b : Nat) (h : b < 256) (w : World) : Calls Try.prog 64 #[.int .u8 (b : Int)] w fun e w' => e = .returned (.tuple #[.int .i64 (fb b).1, .int .i64 (fb b).2]) ∧ w = w' := by
  by_cases h1 : b / 16 ≤ 9
  · have d1 : decide (9 < (b : Int) / 16) = false := decide_eq_false (by omega)
    by_cases h2 : b % 16 ≤ 9
    · have HF : Hid (fb b = ((b : Int) / 16 * 10 + (b : Int) % 16, 0)) := by
        unfold Hid fb
        rw [if_pos ⟨h1, h2⟩]
        congr 1
      have d2 : decide (9 < ((b : Int) % 16)) = false := decide_eq_false (by omega)
      go_enter Try.func64, Try.ntmps64
      go_wp2_with fail
      go_ret2
      exact ⟨by rw [HF.out]; rfl, rfl⟩
    · have HF : Hid (fb b = (0, 2)) := if_neg (by omega)
      have d2 : decide (9 < ((b : Int) % 16)) = true := decide_eq_true (by omega)
      go_enter Try.func64, Try.ntmps64
      go_wp2_with fail
      go_ret2
      exact ⟨by rw [HF.out]; rfl, rfl⟩
  · have HF : Hid (fb b = (0, 2)) := if_neg (by omega)
    have d1 : decide (9 < (b : Int) / 16) = true := decide_eq_true (by omega)
    go_enter Try.func64, Try.ntmps64
    go_wp2_with fail
    go_ret2
    exact ⟨by rw [HF.out]; rfl, rfl⟩

theorem fb_range (b : Nat) : 0 ≤ (fb b).1 ∧ (fb b).1 ≤ 99 := by
  unfold fb
  by_cases h : b / 16 ≤ 9 ∧ b % 16 ≤ 9
  · rw [if_pos h]; show (0 : Int) ≤ ((b / 16 * 10 + b % 16 : Nat) : Int) ∧ ((b / 16 * 10 + b % 16 : Nat) : Int) ≤ 99; omega
  · rw [if_neg h]; decide
theorem number_any (m s f : Int) (hm : 0 ≤ m ∧ m ≤ 99) (hs : 0 ≤ s ∧ s ≤ 99) (hf : 0 ≤ f ∧ f ≤ 99) (w : World) : Calls Try.prog 63 #[.agg #[.int .i64 m, .int .i64 s, .int .i64 f]] w fun e w' => e = .returned (.int .i64 ((60 * m + s) * 75 + f)) ∧ Below w.heap.size w w' := by
  go_enter Try.func63, Try.ntmps63
  go_wp2_with fail
  go_ret
  exact ⟨rfl, by (repeat (first | exact Below.refl _ _ | assumption | refine balloc ?_ _ | refine bdrew ?_ | refine bdrN ?_ _ | refine bset _ (by first | omega | (simp; done) | (simp; omega)) ?_ | refine brow _ _ (by first | omega | (simp; done) | (simp; omega)) ?_ | (apply bthen; rotate_left; assumption)))⟩
theorem refNumber_any (m s f : Int) (hm : 0 ≤ m ∧ m ≤ 99) (hs : 0 ≤ s ∧ s ≤ 99) (hf : 0 ≤ f ∧ f ≤ 99) (w : World) : Calls Try.prog 65 #[.agg #[.int .i64 m, .int .i64 s, .int .i64 f]] w fun e w' => e = .returned (.int .i64 ((60 * m + s) * 75 + f)) ∧ Below w.heap.size w w' := by
  go_enter Try.func65, Try.ntmps65
  go_wp2_with fail
  go_ret
  exact ⟨rfl, by (repeat (first | exact Below.refl _ _ | assumption | refine balloc ?_ _ | refine bdrew ?_ | refine bdrN ?_ _ | refine bset _ (by first | omega | (simp; done) | (simp; omega)) ?_ | refine brow _ _ (by first | omega | (simp; done) | (simp; omega)) ?_ | (apply bthen; rotate_left; assumption)))⟩
theorem ToLBA_ok (m s f : Int) (hm : 0 ≤ m ∧ m ≤ 99) (hs : 0 ≤ s ∧ s ≤ 59) (hf : 0 ≤ f ∧ f ≤ 74) (w : World) : Calls Try.prog 41 #[.agg #[.int .i64 m, .int .i64 s, .int .i64 f]] w fun e w' => e = .returned (.tuple #[.int .i64 ((60 * m + s) * 75 + f - 150), .int .i64 0]) ∧ Below w.heap.size w w' := by
  have HV : Hid (∀ w : World, Calls Try.prog 51 #[.agg #[.int .i64 m, .int .i64 s, .int .i64 f]] w fun e w' => e = .returned (.bool true) ∧ Below w.heap.size w w') := fun w => by
    have := aValid_any m s f hm (by omega) (by omega) w
    rwa [show okM m s f = true from decide_eq_true (by omega)] at this
  have HN := hid (fun w => number_any m s f hm (by omega) (by omega) w)
  go_enter Try.func41, Try.ntmps41
  go_wp2_with fail
  refine (HV.out _).mono ?_
  rintro e w1 ⟨rfl, hb1⟩
  obtain ⟨z0, k0, k1, k2⟩ := keep3 hb1
  go_wp2_with fail
  refine (HN.out _).mono ?_
  rintro e w2 ⟨rfl, hb2⟩
  go_wp2_with fail
  go_ret2
  exact ⟨rfl, by (repeat (first | exact Below.refl _ _ | assumption | refine balloc ?_ _ | refine bdrew ?_ | refine bdrN ?_ _ | refine bset _ (by first | omega | (simp; done) | (simp; omega)) ?_ | refine brow _ _ (by first | omega | (simp; done) | (simp; omega)) ?_ | (apply bthen; rotate_left; assumption)))⟩
theorem refToLBA_ok (m s f : Int) (hm : 0 ≤ m ∧ m ≤ 99) (hs : 0 ≤ s ∧ s ≤ 59) (hf : 0 ≤ f ∧ f ≤ 74) (w : World) : Calls Try.prog 43 #[.agg #[.int .i64 m, .int .i64 s, .int .i64 f]] w fun e w' => e = .returned (.tuple #[.int .i64 ((60 * m + s) * 75 + f - 150), .int .i64 0]) ∧ Below w.heap.size w w' := by
  have HV := hid (fun w => refAValid_ok m s f hm hs hf w)
  have HN := hid (fun w => refNumber_any m s f hm (by omega) (by omega) w)
  go_enter Try.func43, Try.ntmps43
  go_wp2_with fail
  refine (HV.out _).mono ?_
  rintro e w1 ⟨rfl, hb1⟩
  obtain ⟨z0, k0, k1, k2⟩ := keep3 hb1
  go_wp2_with fail
  refine (HN.out _).mono ?_
  rintro e w2 ⟨rfl, hb2⟩
  go_wp2_with fail
  go_ret2
  exact ⟨rfl, by (repeat (first | exact Below.refl _ _ | assumption | refine balloc ?_ _ | refine bdrew ?_ | refine bdrN ?_ _ | refine bset _ (by first | omega | (simp; done) | (simp; omega)) ?_ | refine brow _ _ (by first | omega | (simp; done) | (simp; omega)) ?_ | (apply bthen; rotate_left; assumption)))⟩
end Go.Proofs.Ytieblfpdibpeeaa

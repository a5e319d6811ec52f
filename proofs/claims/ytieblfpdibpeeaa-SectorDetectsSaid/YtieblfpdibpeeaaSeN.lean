/-
  The examples that every law of this seat checks first (awake).
-/
import Derived.Test.YtieblfpdibpeeaaSeM
namespace Go.Proofs.Ytieblfpdibpeeaa
open Go.RowKit Go.Lib
set_option linter.unusedVariables false
set_option linter.unusedSimpArgs false

/-- 2,048 zero bytes. -/
def zeroS : ByteArray := ⟨(repeatL [0] 2048).toArray⟩
theorem zero_size : zeroS.size = 2048 := by
  show (repeatL [0] 2048).toArray.size = 2048
  rw [List.size_toArray, repeatL_length]; rfl
theorem wake_a : vB 0 0 0 0 0 0 zeroS.size = true := by rw [zero_size]; decide
theorem wake_b : vB 16 1 0 0 8 0 zeroS.size = true := by rw [zero_size]; decide
theorem wake_a16 : (buildS 0 0 0 0 0 0 zeroS).extract 0 16 = { data := #[0, 255, 255, 255, 255, 255, 255, 255, 255, 255, 255, 0, 0, 2, 0, 1] } := by
  obtain ⟨t, ht⟩ := build_head 0 0 0 0 0 0 zeroS
  rw [ht, ext_left (by rw [head_size]; exact Nat.le_refl _)]
  apply ba_ext
  rw [ext_l]
  decide +kernel
theorem wake_b24 : (buildS 16 1 0 0 8 0 zeroS).extract 12 24 = { data := #[0, 2, 22, 2, 0, 0, 8, 0, 0, 0, 8, 0] } := by
  obtain ⟨t, ht⟩ := build_sub 16 1 0 0 8 0 zeroS (by decide)
  rw [ht, ext_left (by rw [ByteArray.size_append, ByteArray.size_append, head_size, sub_size]; exact Nat.le_refl _)]
  apply ba_ext
  rw [ext_l]
  decide +kernel

theorem awake_any (w : World) : Calls Try.prog 10 #[] w fun e w' => e = .returned (.bool true) ∧ Below w.heap.size w w' := by
  have zz := zero_size
  have HR : Hid (∀ w : World, Calls Try.prog 25 #[.string { data := #[0] }, .int .i64 2048] w fun e w' => e = .returned (.string zeroS) ∧ Below w.heap.size w w') := fun w => Try.strings_Repeat { data := #[0] } 2048 w (by omega) (by show 1 * 2048 ≤ _; omega)
  have HA : Hid (∀ w : World, Calls Try.prog 11 #[.agg #[.int .i64 0, .int .i64 0, .int .i64 0, .int .i64 0, .int .i64 0, .int .i64 0, .string zeroS]] w fun e w' => e = .returned (.tuple #[.string (buildS 0 0 0 0 0 0 zeroS), .int .i64 0]) ∧ Below w.heap.size w w') := fun w => Build_ok0 0 0 0 0 0 zeroS wake_a (by omega) w
  have HB : Hid (∀ w : World, Calls Try.prog 11 #[.agg #[.int .i64 16, .int .i64 1, .int .i64 0, .int .i64 0, .int .i64 8, .int .i64 0, .string zeroS]] w fun e w' => e = .returned (.tuple #[.string (buildS 16 1 0 0 8 0 zeroS), .int .i64 0]) ∧ Below w.heap.size w w') := fun w => Build_ok1 16 1 2048 0 0 8 0 zeroS ⟨.inr (.inl ⟨rfl, rfl, rfl, rfl, rfl⟩)⟩ wake_b (by omega) w
  have sa := build_size wake_a
  have sb := build_size wake_b
  have ea := wake_a16
  have eb := wake_b24
  have HC : Hid (∀ w : World, Calls Try.prog 23 #[.string (buildS 0 0 0 0 0 0 zeroS)] w fun e w' => e = .returned (.bool true) ∧ Below w.heap.size w w') := fun w => by
    have := Check_any (buildS 0 0 0 0 0 0 zeroS) (by omega) w
    rwa [build_check wake_a] at this
  generalize buildS 0 0 0 0 0 0 zeroS = A at *
  generalize buildS 16 1 0 0 8 0 zeroS = B at *
  generalize zeroS = Z at *
  have sa' : (A.size : Int) = 2352 := by omega
  have sb' : (B.size : Int) = 2352 := by omega
  go_enter Try.func10, Try.ntmps10
  go_wp2_with fail
  refine (HR.out _).mono ?_
  rintro e w1 ⟨rfl, hb1⟩
  go_wp2_with fail
  refine (HA.out _).mono ?_
  rintro e w2 ⟨rfl, hb2⟩
  go_wp2_with fail
  refine (HB.out _).mono ?_
  rintro e w3 ⟨rfl, hb3⟩
  go_wp2_with fail
  refine (HC.out _).mono ?_
  rintro e w4 ⟨rfl, hb4⟩
  go_wp2_with fail
  go_ret
  exact ⟨rfl, bthen (bthen (bthen hb1 hb2) hb3) hb4⟩
end Go.Proofs.Ytieblfpdibpeeaa

/-
  Contracts of Build at contents that are not valid, and of Kind (package sector and the reference).
-/
import Derived.Test.YtieblfpdibpeeaaSeJ
namespace Go.Proofs.Ytieblfpdibpeeaa
open Go.RowKit Go.Lib
set_option linter.unusedVariables false
set_option linter.unusedSimpArgs false

theorem Build_no (l m f c s k : Int) (d : ByteArray) (hv : vB l m f c s k d.size = false) (hl : -9223372036854775808 ≤ l ∧ l ≤ 9223372036854775807) (hz : d.size ≤ 140737488351232) (w : World) :
    Calls Try.prog 11 #[.agg #[.int .i64 l, .int .i64 m, .int .i64 f, .int .i64 c, .int .i64 s, .int .i64 k, .string d]] w fun e w' => e = .returned (.tuple #[.string { data := #[] }, .int .i64 1]) ∧ Below w.heap.size w w' := by
  have HV : Hid (∀ w : World, Calls Try.prog 13 #[.agg #[.int .i64 l, .int .i64 m, .int .i64 f, .int .i64 c, .int .i64 s, .int .i64 k, .string d]] w fun e w' => e = .returned (.bool false) ∧ Below w.heap.size w w') := fun w => by
    have := Valid_any l m f c s k d hl hz w
    rwa [hv] at this
  clear hv hl hz
  go_enter Try.func11, Try.ntmps11
  go_wp2_with fail
  refine (HV.out _).mono ?_
  rintro e w1 ⟨rfl, hb1⟩
  go_wp2_with fail
  go_ret2
  exact ⟨rfl, by (repeat (first | exact Below.refl _ _ | assumption | refine balloc ?_ _ | refine bdrew ?_ | refine bdrN ?_ _ | refine bset _ (by first | omega | (simp; done) | (simp; omega)) ?_ | refine brow _ _ (by first | omega | (simp; done) | (simp; omega)) ?_ | (apply bthen; rotate_left; assumption)))⟩
theorem refBuild_no (l m f c s k : Int) (d : ByteArray) (hv : vB l m f c s k d.size = false) (hl : -9223372036854775808 ≤ l ∧ l ≤ 9223372036854775807) (hz : d.size ≤ 140737488351232) (w : World) :
    Calls Try.prog 12 #[.agg #[.int .i64 l, .int .i64 m, .int .i64 f, .int .i64 c, .int .i64 s, .int .i64 k, .string d]] w fun e w' => e = .returned (.tuple #[.string { data := #[] }, .int .i64 1]) ∧ Below w.heap.size w w' := by
  have HV : Hid (∀ w : World, Calls Try.prog 14 #[.agg #[.int .i64 l, .int .i64 m, .int .i64 f, .int .i64 c, .int .i64 s, .int .i64 k, .string d]] w fun e w' => e = .returned (.bool false) ∧ Below w.heap.size w w') := fun w => by
    have := refValid_any l m f c s k d hl hz w
    rwa [hv] at this
  clear hv hl hz
  go_enter Try.func12, Try.ntmps12
  go_wp2_with fail
  refine (HV.out _).mono ?_
  rintro e w1 ⟨rfl, hb1⟩
  go_wp2_with fail
  go_ret2
  exact ⟨rfl, by (repeat (first | exact Below.refl _ _ | assumption | refine balloc ?_ _ | refine bdrew ?_ | refine bdrN ?_ _ | refine bset _ (by first | omega | (simp; done) | (simp; omega)) ?_ | refine brow _ _ (by first | omega | (simp; done) | (simp; omega)) ?_ | (apply bthen; rotate_left; assumption)))⟩

/-- What Build returns. -/
def buildE (l m f c s k : Int) (d : ByteArray) : ByteArray × Int := if vB l m f c s k d.size = true then (buildS l m f c s k d, 0) else ({ data := #[] }, 1)
theorem vB_mode {l m f c s k n : Int} (h : vB l m f c s k n = true) : m = 0 ∨ ∃ lc, IsLay m 2 24 lc 16 := by
  unfold vB at h
  rw [Bool.and_eq_true, decide_eq_true_eq] at h
  have : m = 0 ∨ m = 1 ∨ m = 2 := by omega
  rcases this with rfl | rfl | rfl
  · exact .inl rfl
  · exact .inr ⟨2048, ⟨.inr (.inl ⟨rfl, rfl, rfl, rfl, rfl⟩)⟩⟩
  · exact .inr ⟨2324, ⟨.inr (.inr ⟨rfl, rfl, rfl, rfl, rfl⟩)⟩⟩
theorem Build_any (l m f c s k : Int) (d : ByteArray) (hl : -9223372036854775808 ≤ l ∧ l ≤ 9223372036854775807) (hz : d.size ≤ 140737488351232) (w : World) :
    Calls Try.prog 11 #[.agg #[.int .i64 l, .int .i64 m, .int .i64 f, .int .i64 c, .int .i64 s, .int .i64 k, .string d]] w fun e w' => e = .returned (.tuple #[.string (buildE l m f c s k d).1, .int .i64 (buildE l m f c s k d).2]) ∧ Below w.heap.size w w' := by
  by_cases hv : vB l m f c s k d.size = true
  · have e : buildE l m f c s k d = (buildS l m f c s k d, 0) := if_pos hv
    rw [e]
    rcases vB_mode hv with rfl | ⟨lc, hI⟩
    · exact Build_ok0 l f c s k d hv hl w
    · exact Build_ok1 l m lc f c s k d hI hv hl w
  · have e : buildE l m f c s k d = ({ data := #[] }, 1) := if_neg hv
    rw [e]
    exact Build_no l m f c s k d (by simpa using hv) hl hz w
theorem refBuild_any (l m f c s k : Int) (d : ByteArray) (hl : -9223372036854775808 ≤ l ∧ l ≤ 9223372036854775807) (hz : d.size ≤ 140737488351232) (w : World) :
    Calls Try.prog 12 #[.agg #[.int .i64 l, .int .i64 m, .int .i64 f, .int .i64 c, .int .i64 s, .int .i64 k, .string d]] w fun e w' => e = .returned (.tuple #[.string (buildE l m f c s k d).1, .int .i64 (buildE l m f c s k d).2]) ∧ Below w.heap.size w w' := by
  by_cases hv : vB l m f c s k d.size = true
  · have e : buildE l m f c s k d = (buildS l m f c s k d, 0) := if_pos hv
    rw [e]
    rcases vB_mode hv with rfl | ⟨lc, hI⟩
    · exact refBuild_ok0 l f c s k d hv hl w
    · exact refBuild_ok1 l m lc f c s k d hI hv hl w
  · have e : buildE l m f c s k d = ({ data := #[] }, 1) := if_neg hv
    rw [e]
    exact refBuild_no l m f c s k d (by simpa using hv) hl hz w

/-- The kind of a raw sector. -/
def kd (a b : Nat) : Int × Int := if a = 1 then (0, 0) else if a ≠ 2 then (0, 10) else if b / 32 % 2 = 1 then (2, 0) else (1, 0)
def at_ (r : ByteArray) (i : Nat) : Nat := (r.data.toList.getD i 0).toNat
theorem at_lt (r : ByteArray) (i : Nat) : at_ r i < 256 := UInt8.toNat_lt _
theorem at_get (r : ByteArray) (i : Nat) (h : i < r.size) : (r[i]'h).toNat = at_ r i := by
  unfold at_
  congr 1
  have hl : i < r.data.toList.length := h
  rw [List.getD_eq_getElem?_getD, List.getElem?_eq_getElem hl]
  rfl
def kindE (r : ByteArray) : Int × Int := if r.size = 2352 then kd (at_ r 15) (at_ r 18) else (0, 1)
theorem form_u8 (b : Nat) (h : b < 256) : (bits .and .u8 (b : Int) 32 != 0) = decide (b / 32 % 2 = 1) := by
  have : ∀ k : Fin 256, (bits .and .u8 ((k.val : Nat) : Int) 32 != 0) = decide (k.val / 32 % 2 = 1) := by decide +kernel
  exact this ⟨b, h⟩
theorem form_q8 (b : Nat) (h : b < 256) : (((b : Int) / 32 % 2) == 1) = decide (b / 32 % 2 = 1) := by
  by_cases q : b / 32 % 2 = 1
  · rw [decide_eq_true q, beq_iff_eq]; omega
  · rw [decide_eq_false q, beq_eq_false_iff_ne]; omega
theorem Kind_any (r : ByteArray) (hz : r.size ≤ 140737488351232) (w : World) : Calls Try.prog 19 #[.string r] w fun e w' => e = .returned (.tuple #[.int .i64 (kindE r).1, .int .i64 (kindE r).2]) ∧ w = w' := by
  by_cases h : r.size = 2352
  · have e : kindE r = kd (at_ r 15) (at_ r 18) := if_pos h
    rw [e]
    have d0 : ((r.size : Int) != 2352) = false := by rw [h]; rfl
    have n15 : 15 < r.size := by omega
    have n18 : 18 < r.size := by omega
    have g15 := at_get r 15 n15
    have g18 := at_get r 18 n18
    have l15 : (15 : Int) < (r.size : Int) := by omega
    have l18 : (18 : Int) < (r.size : Int) := by omega
    have t15 := at_lt r 15
    have t18 := at_lt r 18
    generalize at_ r 15 = x at *
    generalize at_ r 18 = y at *
    clear h e
    by_cases h1 : x = 1
    · have HK : Hid (kd x y = (0, 0)) := if_pos h1
      have d1 : ((x : Int) == 1) = true := by rw [h1]; rfl
      clear h1
      go_enter Try.func19, Try.ntmps19
      go_wp2_with fail
      go_ret2
      exact ⟨by rw [HK.out]; rfl, rfl⟩
    · have d1 : ((x : Int) == 1) = false := by rw [beq_eq_false_iff_ne]; omega
      by_cases h2 : x = 2
      · have d2 : ((x : Int) != 2) = false := by rw [h2]; rfl
        have b18 := form_u8 y t18
        by_cases h3 : y / 32 % 2 = 1
        · have HK : Hid (kd x y = (2, 0)) := by unfold Hid kd; rw [if_neg h1, if_neg (by omega), if_pos h3]
          rw [decide_eq_true h3] at b18
          clear h1 h2 h3
          go_enter Try.func19, Try.ntmps19
          go_wp2_with fail
          go_ret2
          exact ⟨by rw [HK.out]; rfl, rfl⟩
        · have HK : Hid (kd x y = (1, 0)) := by unfold Hid kd; rw [if_neg h1, if_neg (by omega), if_neg h3]
          rw [decide_eq_false h3] at b18
          clear h1 h2 h3
          go_enter Try.func19, Try.ntmps19
          go_wp2_with fail
          go_ret2
          exact ⟨by rw [HK.out]; rfl, rfl⟩
      · have HK : Hid (kd x y = (0, 10)) := by unfold Hid kd; rw [if_neg h1, if_pos h2]
        have d2 : ((x : Int) != 2) = true := by rw [bne_iff_ne]; omega
        clear h1 h2
        go_enter Try.func19, Try.ntmps19
        go_wp2_with fail
        go_ret2
        exact ⟨by rw [HK.out]; rfl, rfl⟩
  · have e : kindE r = (0, 1) := if_neg h
    rw [e]
    have d0 : ((r.size : Int) != 2352) = true := by rw [bne_iff_ne]; omega
    clear h e
    go_enter Try.func19, Try.ntmps19
    go_wp2_with fail
    go_ret2
    exact ⟨rfl, rfl⟩
theorem refKind_any (r : ByteArray) (hz : r.size ≤ 140737488351232) (w : World) : Calls Try.prog 20 #[.string r] w fun e w' => e = .returned (.tuple #[.int .i64 (kindE r).1, .int .i64 (kindE r).2]) ∧ w = w' := by
  by_cases h : r.size = 2352
  · have e : kindE r = kd (at_ r 15) (at_ r 18) := if_pos h
    rw [e]
    have d0 : ((r.size : Int) != 2352) = false := by rw [h]; rfl
    have n15 : 15 < r.size := by omega
    have n18 : 18 < r.size := by omega
    have g15 := at_get r 15 n15
    have g18 := at_get r 18 n18
    have l15 : (15 : Int) < (r.size : Int) := by omega
    have l18 : (18 : Int) < (r.size : Int) := by omega
    have t15 := at_lt r 15
    have t18 := at_lt r 18
    generalize at_ r 15 = x at *
    generalize at_ r 18 = y at *
    clear h e
    by_cases h1 : x = 1
    · have HK : Hid (kd x y = (0, 0)) := if_pos h1
      have d1 : ((x : Int) == 1) = true := by rw [h1]; rfl
      clear h1
      go_enter Try.func20, Try.ntmps20
      go_wp2_with fail
      go_ret2
      exact ⟨by rw [HK.out]; rfl, rfl⟩
    · have d1 : ((x : Int) == 1) = false := by rw [beq_eq_false_iff_ne]; omega
      by_cases h2 : x = 2
      · have d2 : ((x : Int) != 2) = false := by rw [h2]; rfl
        have b18 := form_q8 y t18
        by_cases h3 : y / 32 % 2 = 1
        · have HK : Hid (kd x y = (2, 0)) := by unfold Hid kd; rw [if_neg h1, if_neg (by omega), if_pos h3]
          rw [decide_eq_true h3] at b18
          clear h1 h2 h3
          go_enter Try.func20, Try.ntmps20
          go_wp2_with fail
          go_ret2
          exact ⟨by rw [HK.out]; rfl, rfl⟩
        · have HK : Hid (kd x y = (1, 0)) := by unfold Hid kd; rw [if_neg h1, if_neg (by omega), if_neg h3]
          rw [decide_eq_false h3] at b18
          clear h1 h2 h3
          go_enter Try.func20, Try.ntmps20
          go_wp2_with fail
          go_ret2
          exact ⟨by rw [HK.out]; rfl, rfl⟩
      · have HK : Hid (kd x y = (0, 10)) := by unfold Hid kd; rw [if_neg h1, if_pos h2]
        have d2 : ((x : Int) != 2) = true := by rw [bne_iff_ne]; omega
        clear h1 h2
        go_enter Try.func20, Try.ntmps20
        go_wp2_with fail
        go_ret2
        exact ⟨by rw [HK.out]; rfl, rfl⟩
  · have e : kindE r = (0, 1) := if_neg h
    rw [e]
    have d0 : ((r.size : Int) != 2352) = true := by rw [bne_iff_ne]; omega
    clear h e
    go_enter Try.func20, Try.ntmps20
    go_wp2_with fail
    go_ret2
    exact ⟨rfl, rfl⟩
end Go.Proofs.Ytieblfpdibpeeaa

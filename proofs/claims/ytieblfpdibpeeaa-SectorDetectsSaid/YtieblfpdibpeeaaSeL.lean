/-
  Contracts of Check (package sector and the reference).
-/
import Derived.Test.YtieblfpdibpeeaaSeK
namespace Go.Proofs.Ytieblfpdibpeeaa
open Go.RowKit Go.Lib
set_option linter.unusedVariables false
set_option linter.unusedSimpArgs false

theorem extract_two (r : ByteArray) (a b : Nat) : (r.extract 0 b).extract a b = r.extract a b := by
  apply ByteArray.ext
  simp
theorem codeS_cut (r : ByteArray) (a b : Nat) : codeS (r.extract 0 b) a b = codeS r a b := by
  unfold codeS
  rw [extract_two]

/-- Is the code of a raw sector right? -/
def rightB (r : ByteArray) (o e : Nat) : Bool := (codeS r o e).toList == (r.extract e (e + 4)).toList

theorem Check_ok (r : ByteArray) (m b d c o : Int) (h : IsLay m b d c o) (hk : kindE r = (m, 0)) (hs : r.size = 2352) (w : World) :
    Calls Try.prog 23 #[.string r] w fun e w' => e = .returned (.bool (rightB r o.toNat (d + c).toNat)) ∧ Below w.heap.size w w' := by
  have HK : Hid (∀ w : World, Calls Try.prog 19 #[.string r] w fun e w' => e = .returned (.tuple #[.int .i64 m, .int .i64 0]) ∧ w = w') := fun w => by
    have := Kind_any r (by omega) w
    rwa [hk] at this
  have HL := hid (fun w => layouts_ok m b d c o h w)
  obtain ⟨g1, g2, g3, g4, g5⟩ := h.bd
  have HE := hid (fun w => ledc_any b d c o g1 (by omega) w)
  obtain ⟨o', rfl⟩ : ∃ k : Nat, o = k := ⟨o.toNat, by omega⟩
  obtain ⟨z, hz⟩ : ∃ k : Nat, d + c = k := ⟨(d + c).toNat, by omega⟩
  rw [hz] at HE ⊢
  rw [Int.toNat_natCast, Int.toNat_natCast]
  obtain ⟨z5, hz5⟩ : ∃ k : Nat, z + 4 = k := ⟨_, rfl⟩
  have i1 : (z : Int) ≤ (r.size : Int) := by omega
  have i2 : (z : Int) + 4 = (z5 : Int) := by omega
  have i3 : z ≤ r.size := by omega
  have i4 : z5 ≤ r.size := by omega
  have i5 : z ≤ z5 := by omega
  have i6 : (z5 : Int) ≤ (r.size : Int) := by omega
  have i7 : (z : Int) ≤ (z5 : Int) := by omega
  have i8 : IntKind.i64.wrap ((z : Int) + 4) = (z5 : Int) := by rw [← i2]; exact IntWalk.i64_in _ (by omega)
  have hx : (r.extract 0 z).size = z := by simp; omega
  have HC : Hid (∀ w : World, Calls Try.prog 31 #[.string (r.extract 0 z), .int .i64 (o' : Int)] w fun e w' => e = .returned (.string (codeS r o' z)) ∧ Below w.heap.size w w') := fun w => by
    have := code_any (r.extract 0 z) o' (by omega) (by omega) w
    rwa [hx, codeS_cut] at this
  have HR : Hid (rightB r o' z = ((codeS r o' z).toList == (r.extract z z5).toList)) := by unfold Hid rightB; rw [hz5]
  generalize codeS r o' z = C at *
  clear h hk hs hz hz5 hx g1 g2 g3 g4 g5 i2
  go_enter Try.func23, Try.ntmps23
  go_wp2_with fail
  refine (HK.out _).mono ?_
  rintro e w1 ⟨rfl, rfl⟩
  go_wp2_with fail
  refine (HL.out _).mono ?_
  rintro e w1 ⟨rfl, hb⟩
  go_wp2_with fail
  have hS := lay_made (a := .int .u8 b) (b := .int .i64 d) (c := .int .i64 c) (d := .int .i64 (o' : Int)) (t := 48) hb
  generalize w1.alloc (Obj.cells #[Value.int IntKind.u8 b, Value.int IntKind.i64 d, Value.int IntKind.i64 c, Value.int IntKind.i64 (o' : Int)] 48) = W at hS ⊢
  go_region_held3 (fun w' => w'.cell? ⟨w1.heap.size, 0, none⟩ = some (.int .u8 b) ∧ w'.cell? ⟨w1.heap.size, 1, none⟩ = some (.int .i64 d) ∧ w'.cell? ⟨w1.heap.size, 2, none⟩ = some (.int .i64 c) ∧ w'.cell? ⟨w1.heap.size, 3, none⟩ = some (.int .i64 (o' : Int)) ∧ w1.heap.size < w'.heap.size ∧ Below w.heap.size w w')
    (first | exact hS | exact lay_keep hS (bdrew (Below.refl _ _)) | exact lay_keep (by assumption) (by assumption) | exact lay_keep hS (by assumption) | assumption)
    (first | (go_at_call 39; refine (HE.out _).mono ?_; rintro e w2 ⟨rfl, hb2⟩) | (go_at_call 31; refine (HC.out _).mono ?_; rintro e w2 ⟨rfl, hb2⟩))
  all_goals
    rename_i hh
    go_wp2_with fail
    go_ret
    exact ⟨by rw [HR.out]; rfl, hh.2.2.2.2.2⟩

theorem Check_no (r : ByteArray) (hk : (kindE r).2 ≠ 0) (hz : r.size ≤ 140737488351232) (w : World) :
    Calls Try.prog 23 #[.string r] w fun e w' => e = .returned (.bool false) ∧ Below w.heap.size w w' := by
  have HK := hid (fun w => Kind_any r hz w)
  have d0 : ((kindE r).2 != 0) = true := bne_iff_ne.2 hk
  generalize (kindE r).2 = x at *
  generalize (kindE r).1 = y at *
  clear hk
  go_enter Try.func23, Try.ntmps23
  go_wp2_with fail
  refine (HK.out _).mono ?_
  rintro e w1 ⟨rfl, rfl⟩
  go_wp2_with fail
  go_ret
  exact ⟨rfl, by (repeat (first | exact Below.refl _ _ | assumption | refine balloc ?_ _ | refine bdrew ?_ | refine bdrN ?_ _ | refine bset _ (by first | omega | (simp; done) | (simp; omega)) ?_ | refine brow _ _ (by first | omega | (simp; done) | (simp; omega)) ?_ | (apply bthen; rotate_left; assumption)))⟩
theorem refCheck_no (r : ByteArray) (hk : (kindE r).2 ≠ 0) (hz : r.size ≤ 140737488351232) (w : World) :
    Calls Try.prog 24 #[.string r] w fun e w' => e = .returned (.bool false) ∧ Below w.heap.size w w' := by
  have HK := hid (fun w => refKind_any r hz w)
  have d0 : ((kindE r).2 != 0) = true := bne_iff_ne.2 hk
  generalize (kindE r).2 = x at *
  generalize (kindE r).1 = y at *
  clear hk
  go_enter Try.func24, Try.ntmps24
  go_wp2_with fail
  refine (HK.out _).mono ?_
  rintro e w1 ⟨rfl, rfl⟩
  go_wp2_with fail
  go_ret
  exact ⟨rfl, by (repeat (first | exact Below.refl _ _ | assumption | refine balloc ?_ _ | refine bdrew ?_ | refine bdrN ?_ _ | refine bset _ (by first | omega | (simp; done) | (simp; omega)) ?_ | refine brow _ _ (by first | omega | (simp; done) | (simp; omega)) ?_ | (apply bthen; rotate_left; assumption)))⟩

theorem refCheck_ok (r : ByteArray) (m b d c o : Int) (h : IsLay m b d c o) (hk : kindE r = (m, 0)) (hs : r.size = 2352) (w : World) :
    Calls Try.prog 24 #[.string r] w fun e w' => e = .returned (.bool (rightB r o.toNat (d + c).toNat)) ∧ Below w.heap.size w w' := by
  have HK : Hid (∀ w : World, Calls Try.prog 20 #[.string r] w fun e w' => e = .returned (.tuple #[.int .i64 m, .int .i64 0]) ∧ w = w') := fun w => by
    have := refKind_any r (by omega) w
    rwa [hk] at this
  have HS : Hid (∀ w : World, Calls Try.prog 18 #[.int .i64 m] w fun e w' => e = .returned (.tuple #[.int .i64 o, .int .i64 (d + c - o), .int .i64 0]) ∧ w = w') := fun w => by
    have := refSpan_any m w
    rwa [h.span] at this
  obtain ⟨g1, g2, g3, g4, g5⟩ := h.bd
  have HC : Hid (∀ w : World, Calls Try.prog 35 #[.string r, .int .i64 m] w fun e w' => e = .returned (.string (codeS r o.toNat (d + c).toNat)) ∧ Below w.heap.size w w') := fun w => refcode_any r m b d c o h (by omega) (by omega) w
  obtain ⟨o', rfl⟩ : ∃ k : Nat, o = k := ⟨o.toNat, by omega⟩
  obtain ⟨n, hn⟩ : ∃ k : Nat, d + c - (o' : Int) = k := ⟨(d + c - o').toNat, by omega⟩
  obtain ⟨z, hz⟩ : ∃ k : Nat, d + c = k := ⟨(d + c).toNat, by omega⟩
  rw [hn] at HS
  rw [hz] at HC ⊢
  rw [Int.toNat_natCast, Int.toNat_natCast] at *
  obtain ⟨z5, hz5⟩ : ∃ k : Nat, z + 4 = k := ⟨_, rfl⟩
  have i1 : (z : Int) ≤ (r.size : Int) := by omega
  have i3 : z ≤ r.size := by omega
  have i4 : z5 ≤ r.size := by omega
  have i5 : z ≤ z5 := by omega
  have i6 : (z5 : Int) ≤ (r.size : Int) := by omega
  have i7 : (z : Int) ≤ (z5 : Int) := by omega
  have i9 : IntKind.i64.wrap ((o' : Int) + (n : Int)) = (z : Int) := by rw [show (o' : Int) + (n : Int) = (z : Int) by omega]; exact IntWalk.i64_in _ (by omega)
  have i8 : IntKind.i64.wrap ((z : Int) + 4) = (z5 : Int) := by rw [show (z : Int) + 4 = (z5 : Int) by omega]; exact IntWalk.i64_in _ (by omega)
  have HR : Hid (rightB r o' z = ((r.extract z z5).toList == (codeS r o' z).toList)) := by unfold Hid rightB; rw [hz5, Bool.eq_iff_iff, beq_iff_eq, beq_iff_eq]; exact eq_comm
  generalize codeS r o' z = C at *
  clear h hk hs hz hz5 g1 g2 g3 g4 g5 hn
  go_enter Try.func24, Try.ntmps24
  go_wp2_with fail
  refine (HK.out _).mono ?_
  rintro e w1 ⟨rfl, rfl⟩
  go_wp2_with fail
  refine (HS.out _).mono ?_
  rintro e w1 ⟨rfl, rfl⟩
  go_wp2_with fail
  go_region_held3 (fun w' => Below w.heap.size w w')
    (first | exact bdrew (Below.refl _ _) | exact bthen (by assumption) (by assumption) | assumption)
    (first | (go_at_call 35; refine (HC.out _).mono ?_; rintro e w2 ⟨rfl, hb2⟩))
  all_goals
    rename_i hh
    go_wp2_with fail
    go_ret
    exact ⟨by rw [HR.out]; rfl, hh⟩

/-- What Check returns. -/
def chkB (r : ByteArray) : Bool := (kindE r).2 == 0 && rightB r (spanE (kindE r).1).1.toNat ((spanE (kindE r).1).1 + (spanE (kindE r).1).2.1).toNat
theorem kd_lay (r : ByteArray) (h : (kindE r).2 = 0) : r.size = 2352 ∧ ∃ b d c o, IsLay (kindE r).1 b d c o := by
  unfold kindE at h ⊢
  by_cases hs : r.size = 2352
  · rw [if_pos hs] at h ⊢
    refine ⟨hs, ?_⟩
    unfold kd at h ⊢
    by_cases h1 : at_ r 15 = 1
    · rw [if_pos h1]; exact ⟨_, _, _, _, ⟨.inl ⟨rfl, rfl, rfl, rfl, rfl⟩⟩⟩
    · rw [if_neg h1] at h ⊢
      by_cases h2 : at_ r 15 ≠ 2
      · rw [if_pos h2] at h; exact absurd h (by decide)
      · rw [if_neg h2]
        by_cases h3 : at_ r 18 / 32 % 2 = 1
        · rw [if_pos h3]; exact ⟨_, _, _, _, ⟨.inr (.inr ⟨rfl, rfl, rfl, rfl, rfl⟩)⟩⟩
        · rw [if_neg h3]; exact ⟨_, _, _, _, ⟨.inr (.inl ⟨rfl, rfl, rfl, rfl, rfl⟩)⟩⟩
  · rw [if_neg hs] at h; exact absurd h (by decide)
theorem chkB_ok {r : ByteArray} {b d c o : Int} (h : (kindE r).2 = 0) (hI : IsLay (kindE r).1 b d c o) : chkB r = rightB r o.toNat (d + c).toNat := by
  unfold chkB
  rw [hI.span, h]
  have e : o + (d + c - o) = d + c := by omega
  show (true && rightB r o.toNat (o + (d + c - o)).toNat) = _
  rw [e]; rfl
theorem chkB_no {r : ByteArray} (h : (kindE r).2 ≠ 0) : chkB r = false := by
  unfold chkB
  rw [beq_eq_false_iff_ne.2 h]; rfl
theorem Check_any (r : ByteArray) (hz : r.size ≤ 140737488351232) (w : World) :
    Calls Try.prog 23 #[.string r] w fun e w' => e = .returned (.bool (chkB r)) ∧ Below w.heap.size w w' := by
  by_cases h : (kindE r).2 = 0
  · obtain ⟨hs, b, d, c, o, hI⟩ := kd_lay r h
    rw [chkB_ok h hI]
    exact Check_ok r (kindE r).1 b d c o hI (by rw [← h]) hs w
  · rw [chkB_no h]; exact Check_no r h hz w
theorem refCheck_any (r : ByteArray) (hz : r.size ≤ 140737488351232) (w : World) :
    Calls Try.prog 24 #[.string r] w fun e w' => e = .returned (.bool (chkB r)) ∧ Below w.heap.size w w' := by
  by_cases h : (kindE r).2 = 0
  · obtain ⟨hs, b, d, c, o, hI⟩ := kd_lay r h
    rw [chkB_ok h hI]
    exact refCheck_ok r (kindE r).1 b d c o hI (by rw [← h]) hs w
  · rw [chkB_no h]; exact refCheck_no r h hz w
end Go.Proofs.Ytieblfpdibpeeaa

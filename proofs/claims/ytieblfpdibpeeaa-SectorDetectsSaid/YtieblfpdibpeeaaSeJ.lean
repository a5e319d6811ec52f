/-
  The contract of the reference's Build.
-/
import Derived.Test.YtieblfpdibpeeaaSeI
namespace Go.Proofs.Ytieblfpdibpeeaa
open Go.RowKit Go.Lib
set_option linter.unusedVariables false
set_option linter.unusedSimpArgs false

theorem ref_keep {w w' w2 : World} {g : Nat} {a b : Value} (h : w'.cell? ⟨g, 6, none⟩ = some a ∧ w'.cell? ⟨g, 1, none⟩ = some b ∧ Below w.heap.size w w') (hb : Below w'.heap.size w' w2) :
    w2.cell? ⟨g, 6, none⟩ = some a ∧ w2.cell? ⟨g, 1, none⟩ = some b ∧ Below w.heap.size w w2 := ⟨below_cell hb h.1, below_cell hb h.2.1, bthen h.2.2 hb⟩

set_option maxRecDepth 20000 in
set_option maxHeartbeats 1000000 in
theorem refBuild_ok0 (l f c s k : Int) (d : ByteArray) (hv : vB l 0 f c s k d.size = true) (hl : -9223372036854775808 ≤ l ∧ l ≤ 9223372036854775807) (w : World) :
    Calls Try.prog 12 #[.agg #[.int .i64 l, .int .i64 0, .int .i64 f, .int .i64 c, .int .i64 s, .int .i64 k, .string d]] w fun e w' => e = .returned (.tuple #[.string (buildS l 0 f c s k d), .int .i64 0]) ∧ Below w.heap.size w w' := by
  have hI : IsLay 0 1 16 2048 0 := ⟨.inl ⟨rfl, rfl, rfl, rfl, rfl⟩⟩
  have hr : 0 ≤ l + 150 ∧ l + 150 ≤ 449999 ∧ (d.size : Int) = 2048 := by
    unfold vB at hv
    rw [Bool.and_eq_true, decide_eq_true_eq] at hv
    have h4 := hv.1.2.2.2
    rw [show (capE 0).1 = 2048 from rfl] at h4
    omega
  obtain ⟨r0, r1, hd⟩ := hr
  have hd' : d.size = 2048 := by omega
  have HV : Hid (∀ w : World, Calls Try.prog 14 #[.agg #[.int .i64 l, .int .i64 0, .int .i64 f, .int .i64 c, .int .i64 s, .int .i64 k, .string d]] w fun e w' => e = .returned (.bool true) ∧ Below w.heap.size w w') := fun w => by
    have := refValid_any l 0 f c s k d hl (by omega) w
    rwa [hv] at this
  have HM : Hid (∀ w : World, Calls Try.prog 32 #[.int .i64 l] w fun e w' => e = .returned (.tuple #[.agg #[.int .i64 ((l + 150) / 75 / 60), .int .i64 ((l + 150) / 75 % 60), .int .i64 ((l + 150) % 75)], .int .i64 0]) ∧ Below w.heap.size w w') := fun w => refToMSF_ok l (l + 150) (by omega) r0 r1 w
  have HE := hid (fun w => refEncode_any ((l + 150) / 75 / 60) ((l + 150) / 75 % 60) ((l + 150) % 75) (by omega) (by omega) (by omega) w)
  have HH : Hid (buildS l 0 f c s k d = closeS (syncS ++ msfS ((l + 150) / 75 / 60) ((l + 150) / 75 % 60) ((l + 150) % 75) ++ { data := #[1] } ++ d) 0) := rfl
  have zm : (msfS ((l + 150) / 75 / 60) ((l + 150) / 75 % 60) ((l + 150) % 75)).size = 3 := strOfNums_size _
  generalize msfS ((l + 150) / 75 / 60) ((l + 150) / 75 % 60) ((l + 150) % 75) = M at *
  generalize (l + 150) / 75 / 60 = n1 at *
  generalize (l + 150) / 75 % 60 = n2 at *
  generalize (l + 150) % 75 = n3 at *
  have HY := hid refSync_any
  have zs : syncS.size = 12 := rfl
  generalize syncS = S at *
  clear hv hd hl r0 r1
  go_enter Try.func12, Try.ntmps12
  go_wp2_with fail
  refine (HV.out _).mono ?_
  rintro e w1 ⟨rfl, hb1⟩
  obtain ⟨k0, k1, k2, k3, k4, k5, k6, kz⟩ := keep7 hb1
  have L1 : Below w.heap.size w w1 := by (repeat (first | exact Below.refl _ _ | assumption | refine balloc ?_ _ | refine bdrew ?_ | refine bdrN ?_ _ | refine bset _ (by first | omega | (simp; done) | (simp; omega)) ?_ | refine brow _ _ (by first | omega | (simp; done) | (simp; omega)) ?_ | (apply bthen; rotate_left; assumption)))
  clear hb1
  go_wp2_with fail
  refine (HM.out _).mono ?_
  rintro e w2 ⟨rfl, hb2⟩
  replace k0 := below_cell hb2 k0; replace k1 := below_cell hb2 k1; replace k2 := below_cell hb2 k2; replace k3 := below_cell hb2 k3; replace k4 := below_cell hb2 k4; replace k5 := below_cell hb2 k5; replace k6 := below_cell hb2 k6
  have L2 := bthen L1 hb2
  have kz2 := Nat.lt_of_lt_of_le kz hb2.size
  clear hb2 L1 kz
  go_wp2_with fail
  refine (HE.out _).mono ?_
  rintro e w3 ⟨rfl, hb3⟩
  replace k0 := below_cell hb3 (alloc_cell k0); replace k1 := below_cell hb3 (alloc_cell k1); replace k2 := below_cell hb3 (alloc_cell k2); replace k3 := below_cell hb3 (alloc_cell k3); replace k4 := below_cell hb3 (alloc_cell k4); replace k5 := below_cell hb3 (alloc_cell k5); replace k6 := below_cell hb3 (alloc_cell k6)
  have L3 : Below w.heap.size w w3 := by (repeat (first | exact Below.refl _ _ | assumption | refine balloc ?_ _ | refine bdrew ?_ | refine bdrN ?_ _ | refine bset _ (by first | omega | (simp; done) | (simp; omega)) ?_ | refine brow _ _ (by first | omega | (simp; done) | (simp; omega)) ?_ | (apply bthen; rotate_left; assumption)))
  have kz3 : w.heap.size < w3.heap.size := by have := hb3.size; simp at this; omega
  clear hb3 L2 kz2
  go_wp2_with fail
  have zz1 : (S ++ M).size ≤ 4000 := by rw [ByteArray.size_append]; omega
  go_region_held3 (fun w' => w'.cell? ⟨w.heap.size, 6, none⟩ = some (.string d) ∧ w'.cell? ⟨w.heap.size, 1, none⟩ = some (.int .i64 0) ∧ Below w.heap.size w w')
    (first | exact ⟨k6, k1, bdrew L3⟩ | exact ref_keep (by assumption) (by assumption))
    (first | (go_at_call 34; refine (HY.out _).mono ?_; rintro e w4 ⟨rfl, hb4⟩))
  rename_i hh
  obtain ⟨x6, x1, L4⟩ := hh
  clear k0 k1 k2 k3 k4 k5 k6 L3 zz1
  have zx : (S ++ M ++ { data := #[1] } ++ d).size = 2064 := by
    rw [ByteArray.size_append, ByteArray.size_append, ByteArray.size_append, hd', zm, zs]; rfl
  generalize S ++ M ++ { data := #[1] } ++ d = X at *
  have HC : Hid (∀ w : World, Calls Try.prog 35 #[.string X, .int .i64 0] w fun e w' => e = .returned (.string (codeS X 0 X.size)) ∧ Below w.heap.size w w') := fun w => by
    have := refcode_any X 0 1 16 2048 0 hI (by omega) (by omega) w
    rw [show codeS X 0 X.size = codeS X (0 : Int).toNat (16 + 2048 : Int).toNat by rw [zx]; rfl]
    exact this
  have HR : Hid (∀ w : World, Calls Try.prog 36 #[.int .u8 0, .int .i64 284] w fun e w' => e = .returned (.string (rep 0 284)) ∧ Below w.heap.size w w') := fun w => refRepeat_any 0 284 (by omega) w
  have HK : Hid (closeS X 0 = X ++ codeS X 0 X.size ++ rep 0 284) := by
    unfold Hid closeS
    rw [show 2352 - (X.size + 4) = 284 by omega]; rfl
  have zc := codeS_size X 0 X.size
  have zr := rep_size 0 284
  generalize codeS X 0 X.size = C at *
  generalize rep 0 284 = R at *
  have zxc : (X ++ C).size ≤ 4000 := by rw [ByteArray.size_append]; omega
  have zx' : X.size ≤ 4000 := by omega
  clear zx
  go_wp2_with fail
  refine (HC.out _).mono ?_
  rintro e w5 ⟨rfl, hb5⟩
  go_wp2_with fail
  refine (HR.out _).mono ?_
  rintro e w6 ⟨rfl, hb6⟩
  go_wp2_with fail
  go_ret2
  exact ⟨by rw [HH.out, HK.out]; rfl, by (repeat (first | exact Below.refl _ _ | assumption | refine balloc ?_ _ | refine bdrew ?_ | refine bdrN ?_ _ | refine bset _ (by first | omega | (simp; done) | (simp; omega)) ?_ | refine brow _ _ (by first | omega | (simp; done) | (simp; omega)) ?_ | (apply bthen; rotate_left; assumption)))⟩

set_option maxRecDepth 20000 in
set_option maxHeartbeats 1000000 in
theorem refBuild_ok1 (l m lc f c s k : Int) (d : ByteArray) (hI : IsLay m 2 24 lc 16) (hv : vB l m f c s k d.size = true) (hl : -9223372036854775808 ≤ l ∧ l ≤ 9223372036854775807) (w : World) :
    Calls Try.prog 12 #[.agg #[.int .i64 l, .int .i64 m, .int .i64 f, .int .i64 c, .int .i64 s, .int .i64 k, .string d]] w fun e w' => e = .returned (.tuple #[.string (buildS l m f c s k d), .int .i64 0]) ∧ Below w.heap.size w w' := by
  have hm0 : m ≠ 0 := by rcases hI.or with h | h | h <;> omega
  have hr : 0 ≤ l + 150 ∧ l + 150 ≤ 449999 ∧ (d.size : Int) = lc ∧ (0 ≤ f ∧ f ≤ 255 ∧ 0 ≤ c ∧ c ≤ 31 ∧ 0 ≤ s ∧ s ≤ 255 ∧ 0 ≤ k ∧ k ≤ 255) := by
    unfold vB subB at hv
    rw [Bool.and_eq_true, decide_eq_true_eq, if_neg hm0, decide_eq_true_eq] at hv
    have h4 := hv.1.2.2.2
    rw [hI.cap] at h4
    obtain ⟨p, q⟩ := hv
    refine ⟨by omega, by omega, h4, ?_⟩
    omega
  obtain ⟨r0, r1, hd, q0, q1, q2, q3, q4, q5, q6, q7⟩ := hr
  have hlc := hI.bd.2.1
  have hd' : d.size ≤ 2324 := by omega
  have HV : Hid (∀ w : World, Calls Try.prog 14 #[.agg #[.int .i64 l, .int .i64 m, .int .i64 f, .int .i64 c, .int .i64 s, .int .i64 k, .string d]] w fun e w' => e = .returned (.bool true) ∧ Below w.heap.size w w') := fun w => by
    have := refValid_any l m f c s k d hl (by omega) w
    rwa [hv] at this
  have HM : Hid (∀ w : World, Calls Try.prog 32 #[.int .i64 l] w fun e w' => e = .returned (.tuple #[.agg #[.int .i64 ((l + 150) / 75 / 60), .int .i64 ((l + 150) / 75 % 60), .int .i64 ((l + 150) % 75)], .int .i64 0]) ∧ Below w.heap.size w w') := fun w => refToMSF_ok l (l + 150) (by omega) r0 r1 w
  have HE := hid (fun w => refEncode_any ((l + 150) / 75 / 60) ((l + 150) / 75 % 60) ((l + 150) % 75) (by omega) (by omega) (by omega) w)
  have HH : Hid (buildS l m f c s k d = closeS (syncS ++ msfS ((l + 150) / 75 / 60) ((l + 150) / 75 % 60) ((l + 150) % 75) ++ { data := #[2] } ++ subS f c s k ++ subS f c s k ++ d) 16) := by
    unfold Hid buildS frontS headS bMode
    rw [if_neg hm0, if_neg hm0, hI.span, ← ByteArray.append_assoc (b := subS f c s k)]
    rfl
  have zm : (msfS ((l + 150) / 75 / 60) ((l + 150) / 75 % 60) ((l + 150) % 75)).size = 3 := strOfNums_size _
  generalize msfS ((l + 150) / 75 / 60) ((l + 150) / 75 % 60) ((l + 150) % 75) = M at *
  generalize (l + 150) / 75 / 60 = n1 at *
  generalize (l + 150) / 75 % 60 = n2 at *
  generalize (l + 150) % 75 = n3 at *
  have HY := hid refSync_any
  have zs : syncS.size = 12 := rfl
  generalize syncS = S at *
  have K4 := str4 f c s k
  have z4 : (subS f c s k).size = 4 := strOfNums_size _
  have HSub : strOfNums [f, c, s, k] = subS f c s k := rfl
  rw [HSub] at K4
  have KQ := hid K4
  clear K4 HSub
  generalize subS f c s k = U at *
  have d0 : (m == 0) = false := beq_eq_false_iff_ne.2 hm0
  have HIn := hid hI
  have HD := hid hd
  clear hv hd hl r0 r1 hlc hm0 hI
  go_enter Try.func12, Try.ntmps12
  go_wp2_with fail
  refine (HV.out _).mono ?_
  rintro e w1 ⟨rfl, hb1⟩
  obtain ⟨k0, k1, k2, k3, k4, k5, k6, kz⟩ := keep7 hb1
  have L1 : Below w.heap.size w w1 := by (repeat (first | exact Below.refl _ _ | assumption | refine balloc ?_ _ | refine bdrew ?_ | refine bdrN ?_ _ | refine bset _ (by first | omega | (simp; done) | (simp; omega)) ?_ | refine brow _ _ (by first | omega | (simp; done) | (simp; omega)) ?_ | (apply bthen; rotate_left; assumption)))
  clear hb1
  go_wp2_with fail
  refine (HM.out _).mono ?_
  rintro e w2 ⟨rfl, hb2⟩
  replace k0 := below_cell hb2 k0; replace k1 := below_cell hb2 k1; replace k2 := below_cell hb2 k2; replace k3 := below_cell hb2 k3; replace k4 := below_cell hb2 k4; replace k5 := below_cell hb2 k5; replace k6 := below_cell hb2 k6
  have L2 := bthen L1 hb2
  have kz2 := Nat.lt_of_lt_of_le kz hb2.size
  clear hb2 L1 kz
  go_wp2_with fail
  refine (HE.out _).mono ?_
  rintro e w3 ⟨rfl, hb3⟩
  replace k0 := below_cell hb3 (alloc_cell k0); replace k1 := below_cell hb3 (alloc_cell k1); replace k2 := below_cell hb3 (alloc_cell k2); replace k3 := below_cell hb3 (alloc_cell k3); replace k4 := below_cell hb3 (alloc_cell k4); replace k5 := below_cell hb3 (alloc_cell k5); replace k6 := below_cell hb3 (alloc_cell k6)
  have L3 : Below w.heap.size w w3 := by (repeat (first | exact Below.refl _ _ | assumption | refine balloc ?_ _ | refine bdrew ?_ | refine bdrN ?_ _ | refine bset _ (by first | omega | (simp; done) | (simp; omega)) ?_ | refine brow _ _ (by first | omega | (simp; done) | (simp; omega)) ?_ | (apply bthen; rotate_left; assumption)))
  have kz3 : w.heap.size < w3.heap.size := by have := hb3.size; simp at this; omega
  clear hb3 L2 kz2
  have K4 := KQ.out
  go_wp2_with fail
  have K5 := strOfNums_size [f, c, s, k]
  have zz1 : (S ++ M).size ≤ 4000 := by rw [ByteArray.size_append]; omega
  have zz2 : (S ++ M ++ { data := #[2] }).size ≤ 4000 := by rw [ByteArray.size_append, ByteArray.size_append, zm, zs]; decide
  have zz3 : (S ++ M ++ { data := #[2] } ++ U).size ≤ 4000 := by rw [ByteArray.size_append, ByteArray.size_append, ByteArray.size_append, zm, zs, z4]; decide
  have zz4 : (S ++ M ++ { data := #[2] } ++ U ++ U).size ≤ 1000 := by rw [ByteArray.size_append, ByteArray.size_append, ByteArray.size_append, ByteArray.size_append, zm, zs, z4]; decide
  have zz5 : (S ++ M ++ { data := #[2] } ++ U ++ U ++ d).size ≤ 4000 := by rw [ByteArray.size_append]; omega
  have zz6 : ¬ 9223372036854775807 < 24 + d.size := by omega
  go_region_held3 (fun w' => w'.cell? ⟨w.heap.size, 6, none⟩ = some (.string d) ∧ w'.cell? ⟨w.heap.size, 1, none⟩ = some (.int .i64 m) ∧ Below w.heap.size w w')
    (first | exact ⟨alloc_cell k6, alloc_cell k1, bdrew (balloc L3 _)⟩ | exact ref_keep (by assumption) (by assumption) | assumption)
    (first | (go_at_call 34; refine (HY.out _).mono ?_; rintro e w4 ⟨rfl, hb4⟩))
  rename_i hh
  obtain ⟨x6, x1, L4⟩ := hh
  clear k0 k1 k2 k3 k4 k5 k6 L3 zz1 zz2 zz3 zz4 zz5 zz6 K4 KQ K5
  have zx : (S ++ M ++ { data := #[2] } ++ U ++ U ++ d).size = 24 + d.size := by
    rw [ByteArray.size_append, ByteArray.size_append, ByteArray.size_append, ByteArray.size_append, ByteArray.size_append, zm, zs, z4]; rfl
  generalize S ++ M ++ { data := #[2] } ++ U ++ U ++ d = X at *
  have HC : Hid (∀ w : World, Calls Try.prog 35 #[.string X, .int .i64 m] w fun e w' => e = .returned (.string (codeS X 16 X.size)) ∧ Below w.heap.size w w') := fun w => by
    have hq : X.size = (24 + lc).toNat := by have := HD.out; have := HIn.out.bd.2.1; omega
    have := refcode_any X m 2 24 lc 16 HIn.out (by omega) (by omega) w
    rw [show codeS X 16 X.size = codeS X (16 : Int).toNat (24 + lc).toNat by rw [hq]; rfl]
    exact this
  obtain ⟨z, hz⟩ : ∃ z, 2352 - (X.size + 4) = z := ⟨_, rfl⟩
  have HR := hid (fun w => refRepeat_any 0 z (by omega) w)
  have HK : Hid (closeS X 16 = X ++ codeS X 16 X.size ++ rep 0 z) := by
    unfold Hid closeS
    rw [hz]; rfl
  have zc := codeS_size X 16 X.size
  have zr := rep_size 0 z
  generalize codeS X 16 X.size = C at *
  generalize rep 0 z = R at *
  have zxc : (X ++ C).size ≤ 4000 := by rw [ByteArray.size_append]; omega
  have zd : (2352 : Int) - ((X.size : Int) + 4) = (z : Int) := by omega
  have zz : z ≤ 2352 := by omega
  have zx' : X.size ≤ 4000 := by omega
  clear zx hz
  go_wp2_with fail
  refine (HC.out _).mono ?_
  rintro e w5 ⟨rfl, hb5⟩
  go_wp2_with fail
  refine (HR.out _).mono ?_
  rintro e w6 ⟨rfl, hb6⟩
  go_wp2_with fail
  go_ret2
  exact ⟨by rw [HH.out, HK.out]; rfl, by (repeat (first | exact Below.refl _ _ | assumption | refine balloc ?_ _ | refine bdrew ?_ | refine bdrN ?_ _ | refine bset _ (by first | omega | (simp; done) | (simp; omega)) ?_ | refine brow _ _ (by first | omega | (simp; done) | (simp; omega)) ?_ | (apply bthen; rotate_left; assumption)))⟩
end Go.Proofs.Ytieblfpdibpeeaa

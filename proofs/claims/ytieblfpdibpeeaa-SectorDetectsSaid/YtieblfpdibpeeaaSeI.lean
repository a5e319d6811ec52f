/-
  The contract of sector.Build, of the modes with a subheader.
-/
import Derived.Test.YtieblfpdibpeeaaSeH
namespace Go.Proofs.Ytieblfpdibpeeaa
open Go.RowKit Go.Lib
set_option linter.unusedVariables false
set_option linter.unusedSimpArgs false

set_option maxRecDepth 20000 in
set_option maxHeartbeats 1000000 in
theorem Build_ok1 (l m lc f c s k : Int) (d : ByteArray) (hI : IsLay m 2 24 lc 16) (hv : vB l m f c s k d.size = true) (hl : -9223372036854775808 ≤ l ∧ l ≤ 9223372036854775807) (w : World) :
    Calls Try.prog 11 #[.agg #[.int .i64 l, .int .i64 m, .int .i64 f, .int .i64 c, .int .i64 s, .int .i64 k, .string d]] w fun e w' => e = .returned (.tuple #[.string (buildS l m f c s k d), .int .i64 0]) ∧ Below w.heap.size w w' := by
  have hm0 : m ≠ 0 := by rcases hI.or with h | h | h <;> omega
  have hr : 0 ≤ l + 150 ∧ l + 150 ≤ 449999 ∧ (d.size : Int) = lc ∧ (0 ≤ f ∧ f ≤ 255 ∧ 0 ≤ c ∧ c ≤ 31 ∧ 0 ≤ s ∧ s ≤ 255 ∧ 0 ≤ k ∧ k ≤ 255) := by
    unfold vB subB at hv
    rw [Bool.and_eq_true, decide_eq_true_eq, if_neg hm0, decide_eq_true_eq] at hv
    have h4 := hv.1.2.2.2
    rw [hI.cap] at h4
    obtain ⟨p, q⟩ := hv
    refine ⟨by omega, by omega, h4, ?_⟩
    omega
  obtain ⟨r0, r1, hd, q0, q1, q2, q3, q4, q5, q6, q7⟩ := hr
  have hlc := hI.bd.2.1
  have hd' : d.size ≤ 2324 := by omega
  have HV : Hid (∀ w : World, Calls Try.prog 13 #[.agg #[.int .i64 l, .int .i64 m, .int .i64 f, .int .i64 c, .int .i64 s, .int .i64 k, .string d]] w fun e w' => e = .returned (.bool true) ∧ Below w.heap.size w w') := fun w => by
    have := Valid_any l m f c s k d hl (by omega) w
    rwa [hv] at this
  have HL := hid (fun w => layouts_ok m 2 24 lc 16 hI w)
  have HM : Hid (∀ w : World, Calls Try.prog 27 #[.int .i64 l] w fun e w' => e = .returned (.tuple #[.agg #[.int .i64 ((l + 150) / 75 / 60), .int .i64 ((l + 150) / 75 % 60), .int .i64 ((l + 150) % 75)], .int .i64 0]) ∧ Below w.heap.size w w') := fun w => ToMSF_ok l (l + 150) (by omega) r0 r1 w
  have HE := hid (fun w => Encode_any ((l + 150) / 75 / 60) ((l + 150) / 75 % 60) ((l + 150) % 75) (by omega) (by omega) (by omega) w)
  have HH : Hid (buildS l m f c s k d = closeS (syncS ++ msfS ((l + 150) / 75 / 60) ((l + 150) / 75 % 60) ((l + 150) % 75) ++ strOfNums [2] ++ (subS f c s k ++ subS f c s k) ++ d) 16) := by
    unfold Hid buildS frontS headS bMode
    rw [if_neg hm0, if_neg hm0, hI.span]
  have zm : (msfS ((l + 150) / 75 / 60) ((l + 150) / 75 % 60) ((l + 150) % 75)).size = 3 := strOfNums_size _
  generalize msfS ((l + 150) / 75 / 60) ((l + 150) / 75 % 60) ((l + 150) % 75) = M at *
  generalize (l + 150) / 75 / 60 = n1 at *
  generalize (l + 150) / 75 % 60 = n2 at *
  generalize (l + 150) % 75 = n3 at *
  have KS := hid str12
  have K1 := hid (str1 2)
  have zs : syncS.size = 12 := rfl
  have z1 : (strOfNums [2]).size = 1 := strOfNums_size _
  generalize syncS = S at *
  generalize strOfNums [2] = B at *
  have K4 := str4 f c s k
  have z4 : (subS f c s k).size = 4 := strOfNums_size _
  have HSub : strOfNums [f, c, s, k] = subS f c s k := rfl
  rw [HSub] at K4
  have KQ := hid K4
  clear K4 HSub
  generalize subS f c s k = U at *
  have d0 : (m != 0) = true := bne_iff_ne.2 hm0
  clear hv hd hl r0 r1 hlc hm0
  go_enter Try.func11, Try.ntmps11
  go_wp2_with fail
  refine (HV.out _).mono ?_
  rintro e w1 ⟨rfl, hb1⟩
  obtain ⟨k0, k1, k2, k3, k4, k5, k6, kz⟩ := keep7 hb1
  have L1 : Below w.heap.size w w1 := by (repeat (first | exact Below.refl _ _ | assumption | refine balloc ?_ _ | refine bdrew ?_ | refine bdrN ?_ _ | refine bset _ (by first | omega | (simp; done) | (simp; omega)) ?_ | refine brow _ _ (by first | omega | (simp; done) | (simp; omega)) ?_ | (apply bthen; rotate_left; assumption)))
  clear hb1
  go_wp2_with fail
  refine (HL.out _).mono ?_
  rintro e w2 ⟨rfl, hb2⟩
  replace k0 := below_cell hb2 k0; replace k1 := below_cell hb2 k1; replace k2 := below_cell hb2 k2; replace k3 := below_cell hb2 k3; replace k4 := below_cell hb2 k4; replace k5 := below_cell hb2 k5; replace k6 := below_cell hb2 k6
  have L2 := bthen L1 hb2
  have kz2 := Nat.lt_of_lt_of_le kz hb2.size
  clear hb2 L1 kz
  go_wp2_with fail
  refine (HM.out _).mono ?_
  rintro e w3 ⟨rfl, hb3⟩
  replace k0 := below_cell hb3 (alloc_cell k0); replace k1 := below_cell hb3 (alloc_cell k1); replace k2 := below_cell hb3 (alloc_cell k2); replace k3 := below_cell hb3 (alloc_cell k3); replace k4 := below_cell hb3 (alloc_cell k4); replace k5 := below_cell hb3 (alloc_cell k5); replace k6 := below_cell hb3 (alloc_cell k6)
  obtain ⟨j0, j1, j2, j3, jz⟩ := keep4 hb3
  have kz3 := Nat.lt_trans kz2 jz
  have L3 : Below w.heap.size w w3 := by (repeat (first | exact Below.refl _ _ | assumption | refine balloc ?_ _ | refine bdrew ?_ | refine bdrN ?_ _ | refine bset _ (by first | omega | (simp; done) | (simp; omega)) ?_ | refine brow _ _ (by first | omega | (simp; done) | (simp; omega)) ?_ | (apply bthen; rotate_left; assumption)))
  clear hb3 L2
  go_wp2_with fail
  refine (HE.out _).mono ?_
  rintro e w4 ⟨rfl, hb4⟩
  replace k0 := below_cell hb4 (alloc_cell k0); replace k1 := below_cell hb4 (alloc_cell k1); replace k2 := below_cell hb4 (alloc_cell k2); replace k3 := below_cell hb4 (alloc_cell k3); replace k4 := below_cell hb4 (alloc_cell k4); replace k5 := below_cell hb4 (alloc_cell k5); replace k6 := below_cell hb4 (alloc_cell k6); replace j0 := below_cell hb4 (alloc_cell j0); replace j1 := below_cell hb4 (alloc_cell j1); replace j2 := below_cell hb4 (alloc_cell j2); replace j3 := below_cell hb4 (alloc_cell j3)
  have L4 : Below w.heap.size w w4 := by (repeat (first | exact Below.refl _ _ | assumption | refine balloc ?_ _ | refine bdrew ?_ | refine bdrN ?_ _ | refine bset _ (by first | omega | (simp; done) | (simp; omega)) ?_ | refine brow _ _ (by first | omega | (simp; done) | (simp; omega)) ?_ | (apply bthen; rotate_left; assumption)))
  have kz4 : w.heap.size < w4.heap.size := by have := hb4.size; simp at this; omega
  have jz4 : w2.heap.size < w4.heap.size := by have := hb4.size; simp at this; omega
  clear hb4 L3 jz kz3
  go_wp2_with fail
  refine (sync_any _).mono ?_
  rintro e w5 ⟨rfl, hb5⟩
  replace k0 := below_cell hb5 k0; replace k1 := below_cell hb5 k1; replace k2 := below_cell hb5 k2; replace k3 := below_cell hb5 k3; replace k4 := below_cell hb5 k4; replace k5 := below_cell hb5 k5; replace k6 := below_cell hb5 k6; replace j0 := below_cell hb5 j0; replace j1 := below_cell hb5 j1; replace j2 := below_cell hb5 j2; replace j3 := below_cell hb5 j3
  have L5 : Below w.heap.size w w5 := bthen L4 hb5
  have kz5 := Nat.lt_of_lt_of_le kz4 hb5.size
  have jz5 := Nat.lt_of_lt_of_le jz4 hb5.size
  clear hb5 L4 kz4 jz4
  have K := KS.out
  unfold syncV
  go_wp2_with fail
  clear K KS
  have c0 : ((w5.alloc (Obj.cells #[Value.int IntKind.u8 0, Value.int IntKind.u8 255, Value.int IntKind.u8 255, Value.int IntKind.u8 255, Value.int IntKind.u8 255, Value.int IntKind.u8 255, Value.int IntKind.u8 255, Value.int IntKind.u8 255, Value.int IntKind.u8 255, Value.int IntKind.u8 255, Value.int IntKind.u8 255, Value.int IntKind.u8 0] 56)).alloc (Obj.cells #[Value.string S] 9)).cell? ⟨w5.heap.size + 1, 0, none⟩ = some (.string S) := by simp
  have f0 : ((w5.alloc (Obj.cells #[Value.int IntKind.u8 0, Value.int IntKind.u8 255, Value.int IntKind.u8 255, Value.int IntKind.u8 255, Value.int IntKind.u8 255, Value.int IntKind.u8 255, Value.int IntKind.u8 255, Value.int IntKind.u8 255, Value.int IntKind.u8 255, Value.int IntKind.u8 255, Value.int IntKind.u8 255, Value.int IntKind.u8 0] 56)).alloc (Obj.cells #[Value.string S] 9)).frozen? ⟨w5.heap.size + 1, 0, none⟩ = false := by simp
  have sz : ((w5.alloc (Obj.cells #[Value.int IntKind.u8 0, Value.int IntKind.u8 255, Value.int IntKind.u8 255, Value.int IntKind.u8 255, Value.int IntKind.u8 255, Value.int IntKind.u8 255, Value.int IntKind.u8 255, Value.int IntKind.u8 255, Value.int IntKind.u8 255, Value.int IntKind.u8 255, Value.int IntKind.u8 255, Value.int IntKind.u8 0] 56)).alloc (Obj.cells #[Value.string S] 9)).heap.size = w5.heap.size + 2 := by simp
  have L6 : Below w.heap.size w ((w5.alloc (Obj.cells #[Value.int IntKind.u8 0, Value.int IntKind.u8 255, Value.int IntKind.u8 255, Value.int IntKind.u8 255, Value.int IntKind.u8 255, Value.int IntKind.u8 255, Value.int IntKind.u8 255, Value.int IntKind.u8 255, Value.int IntKind.u8 255, Value.int IntKind.u8 255, Value.int IntKind.u8 255, Value.int IntKind.u8 0] 56)).alloc (Obj.cells #[Value.string S] 9)) := balloc (balloc L5 _) _
  replace k1 := alloc_cell (o := Obj.cells #[Value.string S] 9) (alloc_cell (o := Obj.cells #[Value.int IntKind.u8 0, Value.int IntKind.u8 255, Value.int IntKind.u8 255, Value.int IntKind.u8 255, Value.int IntKind.u8 255, Value.int IntKind.u8 255, Value.int IntKind.u8 255, Value.int IntKind.u8 255, Value.int IntKind.u8 255, Value.int IntKind.u8 255, Value.int IntKind.u8 255, Value.int IntKind.u8 0] 56) k1)
  replace k6 := alloc_cell (o := Obj.cells #[Value.string S] 9) (alloc_cell (o := Obj.cells #[Value.int IntKind.u8 0, Value.int IntKind.u8 255, Value.int IntKind.u8 255, Value.int IntKind.u8 255, Value.int IntKind.u8 255, Value.int IntKind.u8 255, Value.int IntKind.u8 255, Value.int IntKind.u8 255, Value.int IntKind.u8 255, Value.int IntKind.u8 255, Value.int IntKind.u8 255, Value.int IntKind.u8 0] 56) k6)
  replace k2 := alloc_cell (o := Obj.cells #[Value.string S] 9) (alloc_cell (o := Obj.cells #[Value.int IntKind.u8 0, Value.int IntKind.u8 255, Value.int IntKind.u8 255, Value.int IntKind.u8 255, Value.int IntKind.u8 255, Value.int IntKind.u8 255, Value.int IntKind.u8 255, Value.int IntKind.u8 255, Value.int IntKind.u8 255, Value.int IntKind.u8 255, Value.int IntKind.u8 255, Value.int IntKind.u8 0] 56) k2)
  replace k3 := alloc_cell (o := Obj.cells #[Value.string S] 9) (alloc_cell (o := Obj.cells #[Value.int IntKind.u8 0, Value.int IntKind.u8 255, Value.int IntKind.u8 255, Value.int IntKind.u8 255, Value.int IntKind.u8 255, Value.int IntKind.u8 255, Value.int IntKind.u8 255, Value.int IntKind.u8 255, Value.int IntKind.u8 255, Value.int IntKind.u8 255, Value.int IntKind.u8 255, Value.int IntKind.u8 0] 56) k3)
  replace k4 := alloc_cell (o := Obj.cells #[Value.string S] 9) (alloc_cell (o := Obj.cells #[Value.int IntKind.u8 0, Value.int IntKind.u8 255, Value.int IntKind.u8 255, Value.int IntKind.u8 255, Value.int IntKind.u8 255, Value.int IntKind.u8 255, Value.int IntKind.u8 255, Value.int IntKind.u8 255, Value.int IntKind.u8 255, Value.int IntKind.u8 255, Value.int IntKind.u8 255, Value.int IntKind.u8 0] 56) k4)
  replace k5 := alloc_cell (o := Obj.cells #[Value.string S] 9) (alloc_cell (o := Obj.cells #[Value.int IntKind.u8 0, Value.int IntKind.u8 255, Value.int IntKind.u8 255, Value.int IntKind.u8 255, Value.int IntKind.u8 255, Value.int IntKind.u8 255, Value.int IntKind.u8 255, Value.int IntKind.u8 255, Value.int IntKind.u8 255, Value.int IntKind.u8 255, Value.int IntKind.u8 255, Value.int IntKind.u8 0] 56) k5)
  replace j0 := alloc_cell (o := Obj.cells #[Value.string S] 9) (alloc_cell (o := Obj.cells #[Value.int IntKind.u8 0, Value.int IntKind.u8 255, Value.int IntKind.u8 255, Value.int IntKind.u8 255, Value.int IntKind.u8 255, Value.int IntKind.u8 255, Value.int IntKind.u8 255, Value.int IntKind.u8 255, Value.int IntKind.u8 255, Value.int IntKind.u8 255, Value.int IntKind.u8 255, Value.int IntKind.u8 0] 56) j0)
  replace j3 := alloc_cell (o := Obj.cells #[Value.string S] 9) (alloc_cell (o := Obj.cells #[Value.int IntKind.u8 0, Value.int IntKind.u8 255, Value.int IntKind.u8 255, Value.int IntKind.u8 255, Value.int IntKind.u8 255, Value.int IntKind.u8 255, Value.int IntKind.u8 255, Value.int IntKind.u8 255, Value.int IntKind.u8 255, Value.int IntKind.u8 255, Value.int IntKind.u8 255, Value.int IntKind.u8 0] 56) j3)
  clear k0 j1 j2 L5
  generalize (w5.alloc (Obj.cells #[Value.int IntKind.u8 0, Value.int IntKind.u8 255, Value.int IntKind.u8 255, Value.int IntKind.u8 255, Value.int IntKind.u8 255, Value.int IntKind.u8 255, Value.int IntKind.u8 255, Value.int IntKind.u8 255, Value.int IntKind.u8 255, Value.int IntKind.u8 255, Value.int IntKind.u8 255, Value.int IntKind.u8 0] 56)).alloc (Obj.cells #[Value.string S] 9) = W6 at *
  have G1 : w.heap.size ≠ w5.heap.size + 1 := by omega
  have G4 : w2.heap.size ≠ w5.heap.size + 1 := by omega
  have G0 : w.heap.size ≤ w5.heap.size + 1 := by omega
  have S6 : w5.heap.size + 1 < W6.heap.size := by omega
  clear sz kz2 kz5 jz5
  generalize w5.heap.size + 1 = G at *
  generalize w2.heap.size = g4 at *
  refine (add_held M S G (by omega) _ c0 f0).mono ?_
  rintro e W7 ⟨rfl, A7⟩
  replace k1 := A7.keep _ _ G1 k1; replace k2 := A7.keep _ _ G1 k2; replace k3 := A7.keep _ _ G1 k3; replace k4 := A7.keep _ _ G1 k4; replace k5 := A7.keep _ _ G1 k5; replace k6 := A7.keep _ _ G1 k6; replace j0 := A7.keep _ _ G4 j0; replace j3 := A7.keep _ _ G4 j3
  have L7 := A7.below _ G0 L6
  have S7 : G < W7.heap.size := by rw [A7.size]; exact S6
  clear L6 S6
  have c7 := A7.cell
  have f7 := A7.free
  clear A7 c0 f0
  have K := K1.out
  go_wp2_with fail
  refine (add_held B (S ++ M) G (by rw [ByteArray.size_append]; omega) _ (alloc_cell c7) (alloc_free S7 f7)).mono ?_
  rintro e W8 ⟨rfl, A8⟩
  replace k1 := A8.keep _ _ G1 (alloc_cell k1); replace k2 := A8.keep _ _ G1 (alloc_cell k2); replace k3 := A8.keep _ _ G1 (alloc_cell k3); replace k4 := A8.keep _ _ G1 (alloc_cell k4); replace k5 := A8.keep _ _ G1 (alloc_cell k5); replace k6 := A8.keep _ _ G1 (alloc_cell k6); replace j3 := A8.keep _ _ G4 (alloc_cell j3)
  have L8 := A8.below _ G0 (balloc L7 _)
  have S8 : G < W8.heap.size := by rw [A8.size]; simp; omega
  have c8 := A8.cell
  have f8 := A8.free
  clear L7 S7 A8 c7 f7 j0 K1 K
  have K4 := KQ.out
  go_wp2_with fail
  refine (add_held (U ++ U) (S ++ M ++ B) G (by rw [ByteArray.size_append, ByteArray.size_append, ByteArray.size_append]; omega) _ (alloc_cell c8) (alloc_free S8 f8)).mono ?_
  rintro e WA ⟨rfl, AA⟩
  replace k1 := AA.keep _ _ G1 (alloc_cell k1); replace k6 := AA.keep _ _ G1 (alloc_cell k6); replace j3 := AA.keep _ _ G4 (alloc_cell j3)
  have LA := AA.below _ G0 (balloc L8 _)
  have SA : G < WA.heap.size := by rw [AA.size]; simp; omega
  have cA := AA.cell
  have fA := AA.free
  clear L8 S8 AA c8 f8 k2 k3 k4 k5 KQ K4
  go_wp2_with fail
  refine (add_held d (S ++ M ++ B ++ (U ++ U)) G (by rw [ByteArray.size_append, ByteArray.size_append, ByteArray.size_append, ByteArray.size_append]; omega) _ cA fA).mono ?_
  rintro e W9 ⟨rfl, A9⟩
  replace j3 := A9.keep _ _ G4 j3
  have L9 := A9.below _ G0 LA
  have S9 : G < W9.heap.size := by rw [A9.size]; exact SA
  have c9 := A9.cell
  have f9 := A9.free
  clear LA SA A9 cA fA k1 k6
  have zx : (S ++ M ++ B ++ (U ++ U) ++ d).size = 24 + d.size := by rw [ByteArray.size_append, ByteArray.size_append, ByteArray.size_append, ByteArray.size_append, ByteArray.size_append]; omega
  generalize S ++ M ++ B ++ (U ++ U) ++ d = X at *
  have HC : Hid (∀ w : World, Calls Try.prog 31 #[.string X, .int .i64 16] w fun e w' => e = .returned (.string (codeS X 16 X.size)) ∧ Below w.heap.size w w') := fun w => code_any X 16 (by omega) (by omega) w
  have HK : Hid (closeS X 16 = X ++ codeS X 16 X.size ++ rep 0 (2352 - (X.size + 4))) := rfl
  have zc := codeS_size X 16 X.size
  generalize codeS X 16 X.size = C at *
  go_wp2_with fail
  refine (HC.out _).mono ?_
  rintro e W10 ⟨rfl, hb10⟩
  replace c9 := below_cell hb10 c9
  replace f9 := below_free hb10 S9 f9
  have L10 := bthen L9 hb10
  have S10 : G < W10.heap.size := Nat.lt_of_lt_of_le S9 hb10.size
  clear L9 S9 hb10 j3
  go_wp2_with fail
  refine (add_held C X G (by omega) _ c9 f9).mono ?_
  rintro e W11 ⟨rfl, A11⟩
  have L11 := A11.below _ G0 L10
  have S11 : G < W11.heap.size := by rw [A11.size]; exact S10
  have c11 := A11.cell
  have f11 := A11.free
  clear L10 S10 A11 c9 f9
  obtain ⟨z, hz⟩ : ∃ z, 2352 - (X.size + 4) = z := ⟨_, rfl⟩
  rw [hz] at HK
  have zy4 : (X ++ C).size ≤ 4000 := by rw [ByteArray.size_append]; omega
  have zd : (2352 : Int) - ((X ++ C).size : Int) = (z : Int) := by rw [ByteArray.size_append]; omega
  have zz : z ≤ 2352 := by omega
  clear hz zc zx hd' zm zs z1
  generalize X ++ C = Y at *
  have K := strZ z
  have hmk := mkZ z (by omega)
  have zr := rep_size 0 z
  generalize rep 0 z = R at *
  go_wp2_with fail
  refine (add_held R Y G (by omega) _ (alloc_cell c11) (alloc_free S11 f11)).mono ?_
  rintro e W12 ⟨rfl, A12⟩
  have L12 := A12.below _ G0 (balloc L11 _)
  have c12 := A12.cell
  clear L11 S11 A12 c11 f11 K hmk
  go_wp2_with fail
  go_ret2
  exact ⟨by rw [HH.out, HK.out]; rfl, L12⟩
end Go.Proofs.Ytieblfpdibpeeaa

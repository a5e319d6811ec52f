/-
  The contract of sector.Build.
-/
import Derived.Test.YtieblfpdibpeeaaSeG
import Derived.Laws.MakeOwn
namespace Go.Proofs.Ytieblfpdibpeeaa
open Go.RowKit Go.Lib
set_option linter.unusedVariables false
set_option linter.unusedSimpArgs false

/-- The raw sector of valid contents. -/
def subS (f c s k : Int) : ByteArray := strOfNums [f, c, s, k]
def headS (n b : Int) : ByteArray := syncS ++ msfS (n / 75 / 60) (n / 75 % 60) (n % 75) ++ strOfNums [b]
def frontS (n m b f c s k : Int) (d : ByteArray) : ByteArray := if m = 0 then headS n b ++ d else headS n b ++ (subS f c s k ++ subS f c s k) ++ d
def closeS (x : ByteArray) (o : Int) : ByteArray := x ++ codeS x o.toNat x.size ++ rep 0 (2352 - (x.size + 4))
def bMode (m : Int) : Int := if m = 0 then 1 else 2
def buildS (l m f c s k : Int) (d : ByteArray) : ByteArray := closeS (frontS (l + 150) m (bMode m) f c s k d) (spanE m).1

theorem str12 : ∀ w : World, (convert 42 9 (.slice (some ⟨w.heap.size, 0, none⟩) 12 12)).run Try.prog (w.alloc (.cells #[.int .u8 0, .int .u8 255, .int .u8 255, .int .u8 255, .int .u8 255, .int .u8 255, .int .u8 255, .int .u8 255, .int .u8 255, .int .u8 255, .int .u8 255, .int .u8 0] 56)) = .ok (.string syncS) (w.alloc (.cells #[.int .u8 0, .int .u8 255, .int .u8 255, .int .u8 255, .int .u8 255, .int .u8 255, .int .u8 255, .int .u8 255, .int .u8 255, .int .u8 255, .int .u8 255, .int .u8 0] 56)) := by
  intro w
  refine run_convert_bytes_arg _ 42 5 Try.underlying42 Try.underlying5 w.heap.size 0 12 12 [0, 255, 255, 255, 255, 255, 255, 255, 255, 255, 255, 0] rfl (fun i hi => ?_) 9 Try.underlying9
  have h4 : i = 0 ∨ i = 1 ∨ i = 2 ∨ i = 3 ∨ i = 4 ∨ i = 5 ∨ i = 6 ∨ i = 7 ∨ i = 8 ∨ i = 9 ∨ i = 10 ∨ i = 11 := by omega
  rcases h4 with rfl | rfl | rfl | rfl | rfl | rfl | rfl | rfl | rfl | rfl | rfl | rfl <;> simp
theorem strZ (z : Nat) : ∀ w : World, (convert 42 9 (.slice (some ⟨w.heap.size, 0, none⟩) z z)).run Try.prog (w.alloc (.cells (Array.replicate z (.int .u8 0)) 5)) = .ok (.string (rep 0 z)) (w.alloc (.cells (Array.replicate z (.int .u8 0)) 5)) := by
  intro w
  refine run_convert_bytes_arg _ 42 5 Try.underlying42 Try.underlying5 w.heap.size 0 z z (List.replicate z 0) List.length_replicate (fun i hi => ?_) 9 Try.underlying9
  simp [hi, List.getD_eq_getElem?_getD]

set_option maxRecDepth 20000 in
theorem mkZ (z : Nat) (h : z ≤ 4000) : ∀ w : World, (Instr.makeSlice 42 (.int .i64 (z : Int)) (.int .i64 (z : Int))).run Try.prog w = .ok (.slice (some ⟨w.heap.size, 0, none⟩) z z) (w.alloc (.cells (Array.replicate z (.int .u8 0)) 5)) := by
  intro w
  obtain ⟨i0, hi, hz0, hz1, hz2⟩ := info_B
  have k := run_make (P := Try.prog) (w := w) 42 5 i0 (.int .u8 0) Try.underlying42 hi hz0 .i64 .i64 (z : Int) (z : Int) (by omega) (by omega) (by rw [hz2]; omega) (by omega)
  have e : madeCells (Value.int .u8 0).cells z = Array.replicate z (.int .u8 0) := by
    apply Array.ext
    · simp [size_madeCells]
    · intro j h1 h2
      simp [madeCells, Value.cells]
      rw [Nat.mod_one]; rfl
  rw [k, hz1, Int.toNat_natCast, Nat.mul_one, e]

/-- What a part added to the captured string leaves. -/
structure Add (w w' : World) (g : Nat) (v : ByteArray) : Prop where
  cell : w'.cell? ⟨g, 0, none⟩ = some (.string v)
  free : w'.frozen? ⟨g, 0, none⟩ = false
  size : w'.heap.size = w.heap.size
  keep : ∀ (p : Addr) (u : Value), p.block ≠ g → w.cell? p = some u → w'.cell? p = some u
  below : ∀ (a : World), a.heap.size ≤ g → Below a.heap.size a w → Below a.heap.size a w'
theorem add_held (p s : ByteArray) (g : Nat) (hz : s.size ≤ 4000 ∧ p.size ≤ 4000) (w : World) (hc : w.cell? ⟨g, 0, none⟩ = some (.string s)) (hf : w.frozen? ⟨g, 0, none⟩ = false) :
    Calls Try.prog 30 #[.string p, .pointer (some ⟨g, 0, none⟩)] w fun e w' => e = .returned (.tuple #[]) ∧ Add w w' g (s ++ p) := by
  refine (add_any p s g hz w hc hf).mono ?_
  rintro e w' ⟨rfl, rfl⟩
  refine ⟨rfl, ⟨World.cell?_setCell_same _ _ _ hc, by rw [World.frozen?_setCell]; exact hf, by simp, fun q u hq hu => ?_, fun a ha hb => hb.setCell (p := ⟨g, 0, none⟩) ha _⟩⟩
  rw [World.cell?_setCell_other _ _ _ _ (fun h => hq (congrArg Addr.block h).symm)]
  exact hu

theorem alloc_free {w : World} {o : Obj} {g : Nat} (hg : g < w.heap.size) (h : w.frozen? ⟨g, 0, none⟩ = false) : (w.alloc o).frozen? ⟨g, 0, none⟩ = false := ((balloc (Below.refl _ _) o).frozen (p := ⟨g, 0, none⟩) hg).trans h
theorem below_free {w w1 : World} {g : Nat} (hb : Below w.heap.size w w1) (hg : g < w.heap.size) (h : w.frozen? ⟨g, 0, none⟩ = false) : w1.frozen? ⟨g, 0, none⟩ = false := (hb.frozen (p := ⟨g, 0, none⟩) hg).trans h

set_option maxRecDepth 20000 in
set_option maxHeartbeats 1000000 in
theorem Build_ok0 (l f c s k : Int) (d : ByteArray) (hv : vB l 0 f c s k d.size = true) (hl : -9223372036854775808 ≤ l ∧ l ≤ 9223372036854775807) (w : World) :
    Calls Try.prog 11 #[.agg #[.int .i64 l, .int .i64 0, .int .i64 f, .int .i64 c, .int .i64 s, .int .i64 k, .string d]] w fun e w' => e = .returned (.tuple #[.string (buildS l 0 f c s k d), .int .i64 0]) ∧ Below w.heap.size w w' := by
  have hr : 0 ≤ l + 150 ∧ l + 150 ≤ 449999 ∧ (d.size : Int) = 2048 := by
    unfold vB at hv
    rw [Bool.and_eq_true, decide_eq_true_eq] at hv
    have h4 := hv.1.2.2.2
    rw [show (capE 0).1 = 2048 from rfl] at h4
    omega
  obtain ⟨r0, r1, hd⟩ := hr
  have hd' : d.size = 2048 := by omega
  have HV : Hid (∀ w : World, Calls Try.prog 13 #[.agg #[.int .i64 l, .int .i64 0, .int .i64 f, .int .i64 c, .int .i64 s, .int .i64 k, .string d]] w fun e w' => e = .returned (.bool true) ∧ Below w.heap.size w w') := fun w => by
    have := Valid_any l 0 f c s k d hl (by omega) w
    rwa [hv] at this
  have HL := hid (fun w => layouts_ok 0 1 16 2048 0 ⟨.inl ⟨rfl, rfl, rfl, rfl, rfl⟩⟩ w)
  have HM : Hid (∀ w : World, Calls Try.prog 27 #[.int .i64 l] w fun e w' => e = .returned (.tuple #[.agg #[.int .i64 ((l + 150) / 75 / 60), .int .i64 ((l + 150) / 75 % 60), .int .i64 ((l + 150) % 75)], .int .i64 0]) ∧ Below w.heap.size w w') := fun w => ToMSF_ok l (l + 150) (by omega) r0 r1 w
  have HE := hid (fun w => Encode_any ((l + 150) / 75 / 60) ((l + 150) / 75 % 60) ((l + 150) % 75) (by omega) (by omega) (by omega) w)
  have HH : Hid (buildS l 0 f c s k d = closeS (syncS ++ msfS ((l + 150) / 75 / 60) ((l + 150) / 75 % 60) ((l + 150) % 75) ++ strOfNums [1] ++ d) 0) := rfl
  have zm : (msfS ((l + 150) / 75 / 60) ((l + 150) / 75 % 60) ((l + 150) % 75)).size = 3 := strOfNums_size _
  generalize msfS ((l + 150) / 75 / 60) ((l + 150) / 75 % 60) ((l + 150) % 75) = M at *
  generalize (l + 150) / 75 / 60 = n1 at *
  generalize (l + 150) / 75 % 60 = n2 at *
  generalize (l + 150) % 75 = n3 at *
  have KS := hid str12
  have K1 := hid (str1 1)
  have zs : syncS.size = 12 := rfl
  have z1 : (strOfNums [1]).size = 1 := strOfNums_size _
  generalize syncS = S at *
  generalize strOfNums [1] = B at *
  clear hv hd hl r0 r1
  go_enter Try.func11, Try.ntmps11
  go_wp2_with fail
  refine (HV.out _).mono ?_
  rintro e w1 ⟨rfl, hb1⟩
  obtain ⟨k0, k1, k2, k3, k4, k5, k6, kz⟩ := keep7 hb1
  have L1 : Below w.heap.size w w1 := by (repeat (first | exact Below.refl _ _ | assumption | refine balloc ?_ _ | refine bdrew ?_ | refine bdrN ?_ _ | refine bset _ (by first | omega | (simp; done) | (simp; omega)) ?_ | refine brow _ _ (by first | omega | (simp; done) | (simp; omega)) ?_ | (apply bthen; rotate_left; assumption)))
  clear hb1
  go_wp2_with fail
  refine (HL.out _).mono ?_
  rintro e w2 ⟨rfl, hb2⟩
  replace k0 := below_cell hb2 k0; replace k1 := below_cell hb2 k1; replace k2 := below_cell hb2 k2; replace k3 := below_cell hb2 k3; replace k4 := below_cell hb2 k4; replace k5 := below_cell hb2 k5; replace k6 := below_cell hb2 k6
  have L2 := bthen L1 hb2
  have kz2 := Nat.lt_of_lt_of_le kz hb2.size
  clear hb2 L1 kz
  go_wp2_with fail
  refine (HM.out _).mono ?_
  rintro e w3 ⟨rfl, hb3⟩
  replace k0 := below_cell hb3 (alloc_cell k0); replace k1 := below_cell hb3 (alloc_cell k1); replace k2 := below_cell hb3 (alloc_cell k2); replace k3 := below_cell hb3 (alloc_cell k3); replace k4 := below_cell hb3 (alloc_cell k4); replace k5 := below_cell hb3 (alloc_cell k5); replace k6 := below_cell hb3 (alloc_cell k6)
  obtain ⟨j0, j1, j2, j3, jz⟩ := keep4 hb3
  have kz3 := Nat.lt_trans kz2 jz
  have L3 : Below w.heap.size w w3 := by (repeat (first | exact Below.refl _ _ | assumption | refine balloc ?_ _ | refine bdrew ?_ | refine bdrN ?_ _ | refine bset _ (by first | omega | (simp; done) | (simp; omega)) ?_ | refine brow _ _ (by first | omega | (simp; done) | (simp; omega)) ?_ | (apply bthen; rotate_left; assumption)))
  clear hb3 L2
  go_wp2_with fail
  refine (HE.out _).mono ?_
  rintro e w4 ⟨rfl, hb4⟩
  replace k0 := below_cell hb4 (alloc_cell k0); replace k1 := below_cell hb4 (alloc_cell k1); replace k2 := below_cell hb4 (alloc_cell k2); replace k3 := below_cell hb4 (alloc_cell k3); replace k4 := below_cell hb4 (alloc_cell k4); replace k5 := below_cell hb4 (alloc_cell k5); replace k6 := below_cell hb4 (alloc_cell k6); replace j0 := below_cell hb4 (alloc_cell j0); replace j1 := below_cell hb4 (alloc_cell j1); replace j2 := below_cell hb4 (alloc_cell j2); replace j3 := below_cell hb4 (alloc_cell j3)
  have L4 : Below w.heap.size w w4 := by (repeat (first | exact Below.refl _ _ | assumption | refine balloc ?_ _ | refine bdrew ?_ | refine bdrN ?_ _ | refine bset _ (by first | omega | (simp; done) | (simp; omega)) ?_ | refine brow _ _ (by first | omega | (simp; done) | (simp; omega)) ?_ | (apply bthen; rotate_left; assumption)))
  have kz4 : w.heap.size < w4.heap.size := by have := hb4.size; simp at this; omega
  have jz4 : w2.heap.size < w4.heap.size := by have := hb4.size; simp at this; omega
  clear hb4 L3 jz kz3
  go_wp2_with fail
  refine (sync_any _).mono ?_
  rintro e w5 ⟨rfl, hb5⟩
  replace k0 := below_cell hb5 k0; replace k1 := below_cell hb5 k1; replace k2 := below_cell hb5 k2; replace k3 := below_cell hb5 k3; replace k4 := below_cell hb5 k4; replace k5 := below_cell hb5 k5; replace k6 := below_cell hb5 k6; replace j0 := below_cell hb5 j0; replace j1 := below_cell hb5 j1; replace j2 := below_cell hb5 j2; replace j3 := below_cell hb5 j3
  have L5 : Below w.heap.size w w5 := bthen L4 hb5
  have kz5 := Nat.lt_of_lt_of_le kz4 hb5.size
  have jz5 := Nat.lt_of_lt_of_le jz4 hb5.size
  clear hb5 L4 kz4 jz4
  have K := KS.out
  unfold syncV
  go_wp2_with fail
  clear K KS
  have c0 : ((w5.alloc (Obj.cells #[Value.int IntKind.u8 0, Value.int IntKind.u8 255, Value.int IntKind.u8 255, Value.int IntKind.u8 255, Value.int IntKind.u8 255, Value.int IntKind.u8 255, Value.int IntKind.u8 255, Value.int IntKind.u8 255, Value.int IntKind.u8 255, Value.int IntKind.u8 255, Value.int IntKind.u8 255, Value.int IntKind.u8 0] 56)).alloc (Obj.cells #[Value.string S] 9)).cell? ⟨w5.heap.size + 1, 0, none⟩ = some (.string S) := by simp
  have f0 : ((w5.alloc (Obj.cells #[Value.int IntKind.u8 0, Value.int IntKind.u8 255, Value.int IntKind.u8 255, Value.int IntKind.u8 255, Value.int IntKind.u8 255, Value.int IntKind.u8 255, Value.int IntKind.u8 255, Value.int IntKind.u8 255, Value.int IntKind.u8 255, Value.int IntKind.u8 255, Value.int IntKind.u8 255, Value.int IntKind.u8 0] 56)).alloc (Obj.cells #[Value.string S] 9)).frozen? ⟨w5.heap.size + 1, 0, none⟩ = false := by simp
  have sz : ((w5.alloc (Obj.cells #[Value.int IntKind.u8 0, Value.int IntKind.u8 255, Value.int IntKind.u8 255, Value.int IntKind.u8 255, Value.int IntKind.u8 255, Value.int IntKind.u8 255, Value.int IntKind.u8 255, Value.int IntKind.u8 255, Value.int IntKind.u8 255, Value.int IntKind.u8 255, Value.int IntKind.u8 255, Value.int IntKind.u8 0] 56)).alloc (Obj.cells #[Value.string S] 9)).heap.size = w5.heap.size + 2 := by simp
  have L6 : Below w.heap.size w ((w5.alloc (Obj.cells #[Value.int IntKind.u8 0, Value.int IntKind.u8 255, Value.int IntKind.u8 255, Value.int IntKind.u8 255, Value.int IntKind.u8 255, Value.int IntKind.u8 255, Value.int IntKind.u8 255, Value.int IntKind.u8 255, Value.int IntKind.u8 255, Value.int IntKind.u8 255, Value.int IntKind.u8 255, Value.int IntKind.u8 0] 56)).alloc (Obj.cells #[Value.string S] 9)) := balloc (balloc L5 _) _
  replace k1 := alloc_cell (o := Obj.cells #[Value.string S] 9) (alloc_cell (o := Obj.cells #[Value.int IntKind.u8 0, Value.int IntKind.u8 255, Value.int IntKind.u8 255, Value.int IntKind.u8 255, Value.int IntKind.u8 255, Value.int IntKind.u8 255, Value.int IntKind.u8 255, Value.int IntKind.u8 255, Value.int IntKind.u8 255, Value.int IntKind.u8 255, Value.int IntKind.u8 255, Value.int IntKind.u8 0] 56) k1)
  replace k6 := alloc_cell (o := Obj.cells #[Value.string S] 9) (alloc_cell (o := Obj.cells #[Value.int IntKind.u8 0, Value.int IntKind.u8 255, Value.int IntKind.u8 255, Value.int IntKind.u8 255, Value.int IntKind.u8 255, Value.int IntKind.u8 255, Value.int IntKind.u8 255, Value.int IntKind.u8 255, Value.int IntKind.u8 255, Value.int IntKind.u8 255, Value.int IntKind.u8 255, Value.int IntKind.u8 0] 56) k6)
  replace j0 := alloc_cell (o := Obj.cells #[Value.string S] 9) (alloc_cell (o := Obj.cells #[Value.int IntKind.u8 0, Value.int IntKind.u8 255, Value.int IntKind.u8 255, Value.int IntKind.u8 255, Value.int IntKind.u8 255, Value.int IntKind.u8 255, Value.int IntKind.u8 255, Value.int IntKind.u8 255, Value.int IntKind.u8 255, Value.int IntKind.u8 255, Value.int IntKind.u8 255, Value.int IntKind.u8 0] 56) j0)
  replace j3 := alloc_cell (o := Obj.cells #[Value.string S] 9) (alloc_cell (o := Obj.cells #[Value.int IntKind.u8 0, Value.int IntKind.u8 255, Value.int IntKind.u8 255, Value.int IntKind.u8 255, Value.int IntKind.u8 255, Value.int IntKind.u8 255, Value.int IntKind.u8 255, Value.int IntKind.u8 255, Value.int IntKind.u8 255, Value.int IntKind.u8 255, Value.int IntKind.u8 255, Value.int IntKind.u8 0] 56) j3)
  clear k0 k2 k3 k4 k5 j1 j2 L5
  generalize (w5.alloc (Obj.cells #[Value.int IntKind.u8 0, Value.int IntKind.u8 255, Value.int IntKind.u8 255, Value.int IntKind.u8 255, Value.int IntKind.u8 255, Value.int IntKind.u8 255, Value.int IntKind.u8 255, Value.int IntKind.u8 255, Value.int IntKind.u8 255, Value.int IntKind.u8 255, Value.int IntKind.u8 255, Value.int IntKind.u8 0] 56)).alloc (Obj.cells #[Value.string S] 9) = W6 at *
  have G1 : w.heap.size ≠ w5.heap.size + 1 := by omega
  have G4 : w2.heap.size ≠ w5.heap.size + 1 := by omega
  have G0 : w.heap.size ≤ w5.heap.size + 1 := by omega
  have S6 : w5.heap.size + 1 < W6.heap.size := by omega
  clear sz kz2 kz5 jz5
  generalize w5.heap.size + 1 = G at *
  generalize w2.heap.size = g4 at *
  refine (add_held M S G (by omega) _ c0 f0).mono ?_
  rintro e W7 ⟨rfl, A7⟩
  replace k1 := A7.keep _ _ G1 k1; replace k6 := A7.keep _ _ G1 k6; replace j0 := A7.keep _ _ G4 j0; replace j3 := A7.keep _ _ G4 j3
  have L7 := A7.below _ G0 L6
  have S7 : G < W7.heap.size := by rw [A7.size]; exact S6
  clear L6 S6
  have c7 := A7.cell
  have f7 := A7.free
  clear A7 c0 f0
  have K := K1.out
  go_wp2_with fail
  refine (add_held B (S ++ M) G (by rw [ByteArray.size_append]; omega) _ (alloc_cell c7) (alloc_free S7 f7)).mono ?_
  rintro e W8 ⟨rfl, A8⟩
  replace k1 := A8.keep _ _ G1 (alloc_cell k1); replace k6 := A8.keep _ _ G1 (alloc_cell k6); replace j3 := A8.keep _ _ G4 (alloc_cell j3)
  have L8 := A8.below _ G0 (balloc L7 _)
  have S8 : G < W8.heap.size := by rw [A8.size]; simp; omega
  have c8 := A8.cell
  have f8 := A8.free
  clear L7 S7 A8 c7 f7 j0 K1 K
  go_wp2_with fail
  refine (add_held d (S ++ M ++ B) G (by rw [ByteArray.size_append, ByteArray.size_append]; omega) _ c8 f8).mono ?_
  rintro e W9 ⟨rfl, A9⟩
  replace j3 := A9.keep _ _ G4 j3
  have L9 := A9.below _ G0 L8
  have S9 : G < W9.heap.size := by rw [A9.size]; exact S8
  have c9 := A9.cell
  have f9 := A9.free
  clear L8 S8 A9 c8 f8 k1 k6
  have zx : (S ++ M ++ B ++ d).size = 2064 := by rw [ByteArray.size_append, ByteArray.size_append, ByteArray.size_append]; omega
  generalize S ++ M ++ B ++ d = X at *
  have HC : Hid (∀ w : World, Calls Try.prog 31 #[.string X, .int .i64 0] w fun e w' => e = .returned (.string (codeS X 0 X.size)) ∧ Below w.heap.size w w') := fun w => code_any X 0 (by omega) (by omega) w
  have HK : Hid (closeS X 0 = X ++ codeS X 0 X.size ++ rep 0 (2352 - (X.size + 4))) := rfl
  have zc := codeS_size X 0 X.size
  generalize codeS X 0 X.size = C at *
  go_wp2_with fail
  refine (HC.out _).mono ?_
  rintro e W10 ⟨rfl, hb10⟩
  replace c9 := below_cell hb10 c9
  replace f9 := below_free hb10 S9 f9
  have L10 := bthen L9 hb10
  have S10 : G < W10.heap.size := Nat.lt_of_lt_of_le S9 hb10.size
  clear L9 S9 hb10 j3
  go_wp2_with fail
  refine (add_held C X G (by omega) _ c9 f9).mono ?_
  rintro e W11 ⟨rfl, A11⟩
  have L11 := A11.below _ G0 L10
  have S11 : G < W11.heap.size := by rw [A11.size]; exact S10
  have c11 := A11.cell
  have f11 := A11.free
  clear L10 S10 A11 c9 f9
  obtain ⟨z, hz⟩ : ∃ z, 2352 - (X.size + 4) = z := ⟨_, rfl⟩
  rw [hz] at HK
  have zy4 : (X ++ C).size ≤ 4000 := by rw [ByteArray.size_append]; omega
  have zd : (2352 : Int) - ((X ++ C).size : Int) = (z : Int) := by rw [ByteArray.size_append]; omega
  have zz : z ≤ 2352 := by omega
  clear hz zc zx hd' zm zs z1
  generalize X ++ C = Y at *
  have K := strZ z
  have hmk := mkZ z (by omega)
  have zr := rep_size 0 z
  generalize rep 0 z = R at *
  go_wp2_with fail
  refine (add_held R Y G (by omega) _ (alloc_cell c11) (alloc_free S11 f11)).mono ?_
  rintro e W12 ⟨rfl, A12⟩
  have L12 := A12.below _ G0 (balloc L11 _)
  have c12 := A12.cell
  clear L11 S11 A12 c11 f11 K hmk
  go_wp2_with fail
  go_ret2
  exact ⟨by rw [HH.out, HK.out]; rfl, L12⟩
end Go.Proofs.Ytieblfpdibpeeaa

/-
  The contract of Parse (package sector), modes 1 and 2.
-/
import Derived.Test.YtieblfpdibpeeaaSPx
import Derived.StillTailTactics
namespace Go.Proofs.Ytieblfpdibpeeaa
open Go.RowKit Go.Lib
set_option linter.unusedVariables false
set_option linter.unusedSimpArgs false

set_option maxRecDepth 20000 in
set_option maxHeartbeats 2000000 in
theorem Parse_m1 (r : ByteArray) (m : Int) (n z : Nat) (hm : m ≠ 0) (hI : IsLay m 2 24 n 16) (hz : 24 + n = z) (hz2 : z ≤ 2348) (hk : kindE r = (m, 0)) (hs : r.size = 2352) (w : World) :
    Calls Try.prog 21 #[.string r] w fun e w' => e = .returned (parseE r).val ∧ Below w.heap.size w w' := by
  have HK : Hid (∀ w : World, Calls Try.prog 19 #[.string r] w fun e w' => e = .returned (.tuple #[.int .i64 m, .int .i64 0]) ∧ w = w') := fun w => by
    have := Kind_any r (by omega) w
    rwa [hk] at this
  have HL := hid (fun w => layouts_ok m 2 24 n 16 hI w)
  have HE : Hid (∀ w : World, Calls Try.prog 39 #[.agg #[.int .u8 2, .int .i64 24, .int .i64 (n : Int), .int .i64 16]] w fun e w' => e = .returned (.int .i64 (z : Int)) ∧ Below w.heap.size w w') := fun w => by
    have := ledc_any 2 24 n 16 (.inr rfl) (by omega) w
    rwa [show (24 : Int) + (n : Int) = (z : Int) by omega] at this
  have HD := hid (fun w => Decode_any r hs w)
  have HC := hid (fun w => Check_any r (by omega) w)
  have i1 : (z : Int) ≤ (r.size : Int) := by omega
  have i2 : z ≤ r.size := by omega
  have i3 : (24 : Int) ≤ (z : Int) := by omega
  have j3 : 24 ≤ z := by omega
  have i4 : (12 : Int) ≤ (r.size : Int) := by omega
  have i5 : 12 ≤ r.size := by omega
  have i6 : (20 : Int) ≤ (r.size : Int) := by omega
  have i7 : (24 : Int) ≤ (r.size : Int) := by omega
  have i8 : 20 ≤ r.size := by omega
  have i9 : 24 ≤ r.size := by omega
  have KS : Hid (∀ w : World, (Instr.slice 9 (.string r) (some (.int .i64 24)) (some (.int .i64 (z : Int))) none).run Try.prog w = .ok (.string (r.extract 24 z)) w) := fun w => by
    have := run_slice_string (P := Try.prog) w 9 r .i64 .i64 24 (z : Int) Try.underlying9 (by omega) (by omega) (by omega)
    simpa using this
  have dm : (m == 0) = false := beq_eq_false_iff_ne.2 hm
  have HP := hid (parse1 hm hk)
  have HG := hid (getP1 hm hI hz (r := r))
  have hbd : Hid ((dE (at_ r 12) (at_ r 13) (at_ r 14)).2.2.2 = 0 → _) := hid (dE_bd (a := at_ r 12) (b := at_ r 13) (c := at_ r 14))
  have zz := sub_sz hs
  have s0 : 0 < (r.extract 16 20).size := by omega
  have s1 : 1 < (r.extract 16 20).size := by omega
  have s2 : 2 < (r.extract 16 20).size := by omega
  have s3 : 3 < (r.extract 16 20).size := by omega
  have w0 : (0 : Int) < ((r.extract 16 20).size : Int) := by omega
  have w1 : (1 : Int) < ((r.extract 16 20).size : Int) := by omega
  have w2 : (2 : Int) < ((r.extract 16 20).size : Int) := by omega
  have w3 : (3 : Int) < ((r.extract 16 20).size : Int) := by omega
  have v0 := sub_at r 0 16 (by omega) rfl s0
  have v1 := sub_at r 1 17 (by omega) rfl s1
  have v2 := sub_at r 2 18 (by omega) rfl s2
  have v3 := sub_at r 3 19 (by omega) rfl s3
  clear zz
  have t16 := at_lt r 16
  have t17 := at_lt r 17
  have t18 := at_lt r 18
  have t19 := at_lt r 19
  generalize hSB : r.extract 16 20 = SB at *
  generalize hSC : r.extract 20 24 = SC at *
  generalize hDD : r.extract 24 z = DD at *
  generalize at_ r 16 = a16 at *
  generalize at_ r 17 = a17 at *
  generalize at_ r 18 = a18 at *
  generalize at_ r 19 = a19 at *
  have p16 : IntKind.i64.wrap (a16 : Int) = (a16 : Int) := IntWalk.i64_in _ (by omega)
  have p17 : IntKind.i64.wrap (a17 : Int) = (a17 : Int) := IntWalk.i64_in _ (by omega)
  have p18 : IntKind.i64.wrap (a18 : Int) = (a18 : Int) := IntWalk.i64_in _ (by omega)
  have p19 : IntKind.i64.wrap (a19 : Int) = (a19 : Int) := IntWalk.i64_in _ (by omega)
  clear hI hm
  generalize hCC : chkB r = CC at *
  generalize hx : (dE (at_ r 12) (at_ r 13) (at_ r 14)).1 = x at *
  generalize hy : (dE (at_ r 12) (at_ r 13) (at_ r 14)).2.1 = y at *
  generalize hq : (dE (at_ r 12) (at_ r 13) (at_ r 14)).2.2.1 = q at *
  generalize hE : (dE (at_ r 12) (at_ r 13) (at_ r 14)).2.2.2 = E at *
  go_enter Try.func21, Try.ntmps21
  go_wp2_with fail
  refine (HK.out _).mono ?_
  rintro e w1 ⟨rfl, rfl⟩
  go_wp2_with fail
  refine (HL.out _).mono ?_
  rintro e w1 ⟨rfl, hb⟩
  have R := (Blk.made w zero7 25).below hb
  have L : Below w.heap.size w w1 := by (repeat (first | exact Below.refl _ _ | assumption | refine balloc ?_ _ | refine bdrew ?_ | refine bdrN ?_ _ | refine bset _ (by first | omega | (simp; done) | (simp; omega)) ?_ | refine brow _ _ (by first | omega | (simp; done) | (simp; omega)) ?_ | (apply bthen; rotate_left; assumption)))
  clear hb
  go_wp2_with fail
  have B := Blk.made w1 [.int .u8 2, .int .i64 24, .int .i64 (n : Int), .int .i64 16] 48
  replace R := R.alloc (.cells #[.int .u8 2, .int .i64 24, .int .i64 (n : Int), .int .i64 16] 48)
  replace L := balloc L (.cells #[.int .u8 2, .int .i64 24, .int .i64 (n : Int), .int .i64 16] 48)
  generalize w1.alloc (.cells #[.int .u8 2, .int .i64 24, .int .i64 (n : Int), .int .i64 16] 48) = W at *
  generalize w1.heap.size = g1 at *
  have k0 := B.cell 0 _ rfl; have k1 := B.cell 1 _ rfl; have k2 := B.cell 2 _ rfl; have k3 := B.cell 3 _ rfl
  have hS := And.intro k0 (And.intro k1 (And.intro k2 (And.intro k3 (And.intro B (And.intro R L)))))
  have hsz : w.heap.size ≤ W.heap.size := L.size
  have hlt : w.heap.size < W.heap.size := R.lt
  clear B R L k0 k1 k2 k3
  have ks := KS.out
  go_region_held3 (fun w' => w'.cell? ⟨g1, 0, none⟩ = some (.int .u8 2) ∧ w'.cell? ⟨g1, 1, none⟩ = some (.int .i64 24) ∧ w'.cell? ⟨g1, 2, none⟩ = some (.int .i64 (n : Int)) ∧ w'.cell? ⟨g1, 3, none⟩ = some (.int .i64 16) ∧ Blk w' g1 [.int .u8 2, .int .i64 24, .int .i64 (n : Int), .int .i64 16] ∧ Blk w' w.heap.size zero7 ∧ Below w.heap.size w w')
    (with_reducible first | exact par_keep hS (bset7 (Nat.le_refl _) hbW) | exact par_keep hS (balloc hbW _) | exact par_keep hS hbW | exact par_keep hS (bdrew (Below.refl _ _)) | exact par_keep hS (bdrew (balloc (Below.refl _ _) _)) | exact par_keep hS (balloc (bdrew (Below.refl _ _)) _))
    (first | (go_at_call 39; refine (HE.out _).mono ?_; rintro e w2 ⟨rfl, hb2⟩; have hbW := bthen (bdrew (balloc (Below.refl W.heap.size W) _)) hb2; have X2 := (Blk.made W zero7 25).drew.below hb2; have x0 := X2.cell 0 _ rfl; have x1 := X2.cell 1 _ rfl; have x2 := X2.cell 2 _ rfl; have x3 := X2.cell 3 _ rfl; have x4 := X2.cell 4 _ rfl; have x5 := X2.cell 5 _ rfl; have x6 := X2.cell 6 _ rfl; have f0 := X2.free 0 (by first | decide | simp); have f1 := X2.free 1 (by first | decide | simp); have f2 := X2.free 2 (by first | decide | simp); have f3 := X2.free 3 (by first | decide | simp); have f4 := X2.free 4 (by first | decide | simp); have f5 := X2.free 5 (by first | decide | simp); have f6 := X2.free 6 (by first | decide | simp)) | (go_at_call 39; refine (HE.out _).mono ?_; rintro e w2 ⟨rfl, hb2⟩; have hbW := bthen (bdrew (Below.refl W.heap.size W)) hb2))
  all_goals
    rename_i hh
    obtain ⟨-, -, -, -, B, R, L⟩ := hh
    have syn := hid (fun w => sync_any w)
    first
      | (have hne : ¬ (w.heap.size = W.heap.size) := by omega
         have hle : w.heap.size ≤ W.heap.size := hsz
         have X := blk7 (v0 := .int .i64 0) (v1 := .int .i64 m) (v2 := .int .i64 0) (v3 := .int .i64 0) (v4 := .int .i64 0) (v5 := .int .i64 0) (v6 := .string DD) X2
         clear X2 hbW hb2 hS hsz hlt x0 f0 x1 f1 x2 f2 x3 f3 x4 f4 x5 f5 x6 f6
         generalize (((((((w2.setCell ⟨W.heap.size, 0, none⟩ (Value.int IntKind.i64 0)).setCell ⟨W.heap.size, 1, none⟩ (Value.int IntKind.i64 m)).setCell ⟨W.heap.size, 2, none⟩ (Value.int IntKind.i64 0)).setCell ⟨W.heap.size, 3, none⟩ (Value.int IntKind.i64 0)).setCell ⟨W.heap.size, 4, none⟩ (Value.int IntKind.i64 0)).setCell ⟨W.heap.size, 5, none⟩ (Value.int IntKind.i64 0)).setCell ⟨W.heap.size, 6, none⟩ (Value.string DD)) = W5 at *
         generalize W.heap.size = gx at *)
      | (have hne : ¬ (w.heap.size = w2.heap.size) := by have := hbW.size; omega
         have hle : w.heap.size ≤ w2.heap.size := by have := hbW.size; omega
         have X := Blk.made w2 [.int .i64 0, .int .i64 m, .int .i64 0, .int .i64 0, .int .i64 0, .int .i64 0, .string DD] 25
         clear hbW hb2 hS hsz hlt
         generalize w2.alloc (Obj.cells #[Value.int IntKind.i64 0, Value.int IntKind.i64 m, Value.int IntKind.i64 0, Value.int IntKind.i64 0, Value.int IntKind.i64 0, Value.int IntKind.i64 0, Value.string DD] 25) = W5 at *
         generalize w2.heap.size = gx at *)
    go_wp2_with fail
    refine (HD.out _).mono ?_
    rintro e w6 ⟨rfl, hb⟩
    replace B := B.below hb; replace R := R.below hb; replace X := X.below hb; replace L := bthen L hb
    clear hb
    go_wp2_with fail
    have hnm : gx ≠ w6.heap.size := Nat.ne_of_lt X.lt
    have M := Blk.made w6 [.int .i64 x, .int .i64 y, .int .i64 q] 52
    replace B := B.alloc (.cells #[.int .i64 x, .int .i64 y, .int .i64 q] 52); replace R := R.alloc (.cells #[.int .i64 x, .int .i64 y, .int .i64 q] 52); replace X := X.alloc (.cells #[.int .i64 x, .int .i64 y, .int .i64 q] 52); replace L := balloc L (.cells #[.int .i64 x, .int .i64 y, .int .i64 q] 52)
    generalize w6.alloc (Obj.cells #[Value.int IntKind.i64 x, Value.int IntKind.i64 y, Value.int IntKind.i64 q] 52) = W6 at *
    generalize w6.heap.size = gm at *
    refine (syn.out _).mono ?_
    rintro e w7 ⟨rfl, hb⟩
    replace B := B.below hb; replace R := R.below hb; replace X := X.below hb; replace M := M.below hb; replace L := bthen L hb
    clear hb
    unfold syncV
    go_wp2_with fail
    have Y := Blk.made w7 syncL 56
    unfold syncL at Y
    replace B := B.alloc (.cells #[.int .u8 0, .int .u8 255, .int .u8 255, .int .u8 255, .int .u8 255, .int .u8 255, .int .u8 255, .int .u8 255, .int .u8 255, .int .u8 255, .int .u8 255, .int .u8 0] 56); replace R := R.alloc (.cells #[.int .u8 0, .int .u8 255, .int .u8 255, .int .u8 255, .int .u8 255, .int .u8 255, .int .u8 255, .int .u8 255, .int .u8 255, .int .u8 255, .int .u8 255, .int .u8 0] 56); replace X := X.alloc (.cells #[.int .u8 0, .int .u8 255, .int .u8 255, .int .u8 255, .int .u8 255, .int .u8 255, .int .u8 255, .int .u8 255, .int .u8 255, .int .u8 255, .int .u8 255, .int .u8 0] 56); replace M := M.alloc (.cells #[.int .u8 0, .int .u8 255, .int .u8 255, .int .u8 255, .int .u8 255, .int .u8 255, .int .u8 255, .int .u8 255, .int .u8 255, .int .u8 255, .int .u8 255, .int .u8 0] 56); replace L := balloc L (.cells #[.int .u8 0, .int .u8 255, .int .u8 255, .int .u8 255, .int .u8 255, .int .u8 255, .int .u8 255, .int .u8 255, .int .u8 255, .int .u8 255, .int .u8 255, .int .u8 0] 56)
    generalize w7.alloc (Obj.cells #[Value.int IntKind.u8 0, Value.int IntKind.u8 255, Value.int IntKind.u8 255, Value.int IntKind.u8 255, Value.int IntKind.u8 255, Value.int IntKind.u8 255, Value.int IntKind.u8 255, Value.int IntKind.u8 255, Value.int IntKind.u8 255, Value.int IntKind.u8 255, Value.int IntKind.u8 255, Value.int IntKind.u8 0] 56) = W8 at *
    generalize w7.heap.size = gy at *
    have K := fun n => conv12 (Y.drewN n)
    generalize hZ : syncS = Z at *
    have hne2 : gx ≠ w.heap.size := fun h => hne h.symm
    by_cases hE0 : E = 0
    · have e1 : (E == 0) = true := beq_iff_eq.2 hE0
      obtain ⟨b1, b2, b3⟩ := hbd.out hE0
      have HT := hid (fun w => ToLBA_ok x y q b1 b2 b3 w)
      by_cases hS0 : ((r.extract 0 12).toList == Z.toList) = true
      · go_quiet (fail)
        go_wp2_with fail
        replace R := R.drewN nq; replace L := bdrN L nq; replace X := X.drewN nq; replace M := M.drewN nq
        clear Y K B
        generalize W8.drewN nq = W9 at *
        go_still_tail 14, (by kernel_rfl)
        change wpList _ _ _ _ _ W9.drew
        replace X := X.drew; replace R := R.drew; replace M := M.drew; replace L := bdrew L
        generalize W9.drew = W10 at *
        by_cases hT0 : (SB.toList == SC.toList) = true
        · by_cases hU : a17 ≤ 31
          · have hU0 : decide (a17 ≤ 31) = true := decide_eq_true hU
            have hU1 : decide ((a17 : Int) ≤ 31) = true := decide_eq_true (by omega)
            clear hU
            have xc0 := X.cell 0 _ rfl; have xc1 := X.cell 1 _ rfl; have xc2 := X.cell 2 _ rfl; have xc3 := X.cell 3 _ rfl; have xc4 := X.cell 4 _ rfl; have xc5 := X.cell 5 _ rfl; have xc6 := X.cell 6 _ rfl; have xf0 := X.free 0 (by first | decide | simp); have xf1 := X.free 1 (by first | decide | simp); have xf2 := X.free 2 (by first | decide | simp); have xf3 := X.free 3 (by first | decide | simp); have xf4 := X.free 4 (by first | decide | simp); have xf5 := X.free 5 (by first | decide | simp); have xf6 := X.free 6 (by first | decide | simp)
            go_wp2_with fail
            clear xc0 xf0 xc1 xf1 xc2 xf2 xc3 xf3 xc4 xf4 xc5 xf5 xc6 xf6
            refine (HC.out _).mono ?_
            rintro e w11 ⟨rfl, hb⟩
            replace R := (R.set4 (v2 := .int .i64 (a16 : Int)) (v3 := .int .i64 (a17 : Int)) (v4 := .int .i64 (a18 : Int)) (v5 := .int .i64 (a19 : Int)) hne2).below hb; replace X := (blk4 (v2 := .int .i64 (a16 : Int)) (v3 := .int .i64 (a17 : Int)) (v4 := .int .i64 (a18 : Int)) (v5 := .int .i64 (a19 : Int)) X).below hb; replace M := (M.set4 (v2 := .int .i64 (a16 : Int)) (v3 := .int .i64 (a17 : Int)) (v4 := .int .i64 (a18 : Int)) (v5 := .int .i64 (a19 : Int)) hnm).below hb; replace L := bthen (bset4 (v2 := .int .i64 (a16 : Int)) (v3 := .int .i64 (a17 : Int)) (v4 := .int .i64 (a18 : Int)) (v5 := .int .i64 (a19 : Int)) hle L) hb
            clear hb
            by_cases hC0 : CC = true
            · subst hC0
              have mc0 := M.cell 0 _ rfl; have mc1 := M.cell 1 _ rfl; have mc2 := M.cell 2 _ rfl
              go_wp2_with fail
              refine (HT.out _).mono ?_
              rintro e w12 ⟨rfl, hb⟩
              replace R := R.below hb; replace X := X.below hb; replace L := bthen L hb
              clear hb M mc0 mc1 mc2
              have xc0 := X.cell 0 _ rfl; have xc1 := X.cell 1 _ rfl; have xc2 := X.cell 2 _ rfl; have xc3 := X.cell 3 _ rfl; have xc4 := X.cell 4 _ rfl; have xc5 := X.cell 5 _ rfl; have xc6 := X.cell 6 _ rfl; have xf0 := X.free 0 (by first | decide | simp); have xf1 := X.free 1 (by first | decide | simp); have xf2 := X.free 2 (by first | decide | simp); have xf3 := X.free 3 (by first | decide | simp); have xf4 := X.free 4 (by first | decide | simp); have xf5 := X.free 5 (by first | decide | simp); have xf6 := X.free 6 (by first | decide | simp); have rc0 := R.cell 0 _ rfl; have rc1 := R.cell 1 _ rfl; have rc2 := R.cell 2 _ rfl; have rc3 := R.cell 3 _ rfl; have rc4 := R.cell 4 _ rfl; have rc5 := R.cell 5 _ rfl; have rc6 := R.cell 6 _ rfl; have rf0 := R.free 0 (by first | decide | simp); have rf1 := R.free 1 (by first | decide | simp); have rf2 := R.free 2 (by first | decide | simp); have rf3 := R.free 3 (by first | decide | simp); have rf4 := R.free 4 (by first | decide | simp); have rf5 := R.free 5 (by first | decide | simp); have rf6 := R.free 6 (by first | decide | simp)
              clear X R
              go_wp2_with fail
              refine bodyPost_ret (v := (PR.mk ((60 * x + y) * 75 + q - 150) m a16 a17 a18 a19 DD 0).val) (by simp [results, Try.results21, go_sem, PR.no, PR.val, *]) rfl ⟨by rw [HP.out, decide_eq_true hE0, hS0, hT0, hU0, if_neg (by decide), if_neg (by decide), HG.out], ?_⟩
              (repeat (with_reducible first | exact Below.refl _ _ | assumption | refine balloc ?_ _ | refine bdrew ?_ | refine bdrN ?_ _ | refine bset _ (by first | omega | (simp; done) | (simp; omega)) ?_ | refine brow _ _ (by first | omega | (simp; done) | (simp; omega)) ?_))
            · replace hC0 : CC = false := by simpa using hC0
              subst hC0
              have rc0 := R.cell 0 _ rfl; have rc1 := R.cell 1 _ rfl; have rc2 := R.cell 2 _ rfl; have rc3 := R.cell 3 _ rfl; have rc4 := R.cell 4 _ rfl; have rc5 := R.cell 5 _ rfl; have rc6 := R.cell 6 _ rfl; have rf0 := R.free 0 (by first | decide | simp); have rf1 := R.free 1 (by first | decide | simp); have rf2 := R.free 2 (by first | decide | simp); have rf3 := R.free 3 (by first | decide | simp); have rf4 := R.free 4 (by first | decide | simp); have rf5 := R.free 5 (by first | decide | simp); have rf6 := R.free 6 (by first | decide | simp)
              clear X R
              go_wp2_with fail
              refine bodyPost_ret (v := (PR.no 9).val) (by simp [results, Try.results21, go_sem, PR.no, PR.val, *]) rfl ⟨by rw [HP.out, decide_eq_true hE0, hS0, hT0, hU0, if_neg (by decide)]; rfl, ?_⟩
              (repeat (with_reducible first | exact Below.refl _ _ | assumption | refine balloc ?_ _ | refine bdrew ?_ | refine bdrN ?_ _ | refine bset _ (by first | omega | (simp; done) | (simp; omega)) ?_ | refine brow _ _ (by first | omega | (simp; done) | (simp; omega)) ?_))
          · have hU0 : decide (a17 ≤ 31) = false := decide_eq_false hU
            have hU1 : decide ((a17 : Int) ≤ 31) = false := decide_eq_false (by omega)
            clear hU
            have xc0 := X.cell 0 _ rfl; have xc1 := X.cell 1 _ rfl; have xc2 := X.cell 2 _ rfl; have xc3 := X.cell 3 _ rfl; have xc4 := X.cell 4 _ rfl; have xc5 := X.cell 5 _ rfl; have xc6 := X.cell 6 _ rfl; have xf0 := X.free 0 (by first | decide | simp); have xf1 := X.free 1 (by first | decide | simp); have xf2 := X.free 2 (by first | decide | simp); have xf3 := X.free 3 (by first | decide | simp); have xf4 := X.free 4 (by first | decide | simp); have xf5 := X.free 5 (by first | decide | simp); have xf6 := X.free 6 (by first | decide | simp); have rc0 := R.cell 0 _ rfl; have rc1 := R.cell 1 _ rfl; have rc2 := R.cell 2 _ rfl; have rc3 := R.cell 3 _ rfl; have rc4 := R.cell 4 _ rfl; have rc5 := R.cell 5 _ rfl; have rc6 := R.cell 6 _ rfl; have rf0 := R.free 0 (by first | decide | simp); have rf1 := R.free 1 (by first | decide | simp); have rf2 := R.free 2 (by first | decide | simp); have rf3 := R.free 3 (by first | decide | simp); have rf4 := R.free 4 (by first | decide | simp); have rf5 := R.free 5 (by first | decide | simp); have rf6 := R.free 6 (by first | decide | simp)
            clear X R M
            go_wp2_with fail
            refine bodyPost_ret (v := (PR.no 10).val) (by simp [results, Try.results21, go_sem, PR.no, PR.val, *]) rfl ⟨by rw [HP.out, decide_eq_true hE0, hS0, hT0, hU0]; rfl, ?_⟩
            (repeat (with_reducible first | exact Below.refl _ _ | assumption | refine balloc ?_ _ | refine bdrew ?_ | refine bdrN ?_ _ | refine bset _ (by first | omega | (simp; done) | (simp; omega)) ?_ | refine brow _ _ (by first | omega | (simp; done) | (simp; omega)) ?_))
        · replace hT0 : (SB.toList == SC.toList) = false := by simpa using hT0
          have xc0 := X.cell 0 _ rfl; have xc1 := X.cell 1 _ rfl; have xc2 := X.cell 2 _ rfl; have xc3 := X.cell 3 _ rfl; have xc4 := X.cell 4 _ rfl; have xc5 := X.cell 5 _ rfl; have xc6 := X.cell 6 _ rfl; have xf0 := X.free 0 (by first | decide | simp); have xf1 := X.free 1 (by first | decide | simp); have xf2 := X.free 2 (by first | decide | simp); have xf3 := X.free 3 (by first | decide | simp); have xf4 := X.free 4 (by first | decide | simp); have xf5 := X.free 5 (by first | decide | simp); have xf6 := X.free 6 (by first | decide | simp); have rc0 := R.cell 0 _ rfl; have rc1 := R.cell 1 _ rfl; have rc2 := R.cell 2 _ rfl; have rc3 := R.cell 3 _ rfl; have rc4 := R.cell 4 _ rfl; have rc5 := R.cell 5 _ rfl; have rc6 := R.cell 6 _ rfl; have rf0 := R.free 0 (by first | decide | simp); have rf1 := R.free 1 (by first | decide | simp); have rf2 := R.free 2 (by first | decide | simp); have rf3 := R.free 3 (by first | decide | simp); have rf4 := R.free 4 (by first | decide | simp); have rf5 := R.free 5 (by first | decide | simp); have rf6 := R.free 6 (by first | decide | simp)
          clear X R M
          go_wp2_with fail
          refine bodyPost_ret (v := (PR.no 10).val) (by simp [results, Try.results21, go_sem, PR.no, PR.val, *]) rfl ⟨by rw [HP.out, decide_eq_true hE0, hS0, hT0]; rfl, ?_⟩
          (repeat (with_reducible first | exact Below.refl _ _ | assumption | refine balloc ?_ _ | refine bdrew ?_ | refine bdrN ?_ _ | refine bset _ (by first | omega | (simp; done) | (simp; omega)) ?_ | refine brow _ _ (by first | omega | (simp; done) | (simp; omega)) ?_))
      · replace hS0 : ((r.extract 0 12).toList == Z.toList) = false := by simpa using hS0
        go_quiet (fail)
        go_wp2_with fail
        replace R := R.drewN nq; replace L := bdrN L nq; replace X := X.drewN nq; replace M := M.drewN nq
        clear Y K B
        generalize W8.drewN nq = W9 at *
        go_still_tail 14, (by kernel_rfl)
        change wpList _ _ _ _ _ W9.drew
        replace X := X.drew; replace R := R.drew; replace M := M.drew; replace L := bdrew L
        generalize W9.drew = W10 at *
        have xc0 := X.cell 0 _ rfl; have xc1 := X.cell 1 _ rfl; have xc2 := X.cell 2 _ rfl; have xc3 := X.cell 3 _ rfl; have xc4 := X.cell 4 _ rfl; have xc5 := X.cell 5 _ rfl; have xc6 := X.cell 6 _ rfl; have xf0 := X.free 0 (by first | decide | simp); have xf1 := X.free 1 (by first | decide | simp); have xf2 := X.free 2 (by first | decide | simp); have xf3 := X.free 3 (by first | decide | simp); have xf4 := X.free 4 (by first | decide | simp); have xf5 := X.free 5 (by first | decide | simp); have xf6 := X.free 6 (by first | decide | simp); have rc0 := R.cell 0 _ rfl; have rc1 := R.cell 1 _ rfl; have rc2 := R.cell 2 _ rfl; have rc3 := R.cell 3 _ rfl; have rc4 := R.cell 4 _ rfl; have rc5 := R.cell 5 _ rfl; have rc6 := R.cell 6 _ rfl; have rf0 := R.free 0 (by first | decide | simp); have rf1 := R.free 1 (by first | decide | simp); have rf2 := R.free 2 (by first | decide | simp); have rf3 := R.free 3 (by first | decide | simp); have rf4 := R.free 4 (by first | decide | simp); have rf5 := R.free 5 (by first | decide | simp); have rf6 := R.free 6 (by first | decide | simp)
        clear X R M
        go_wp2_with fail
        refine bodyPost_ret (v := (PR.no 10).val) (by simp [results, Try.results21, go_sem, PR.no, PR.val, *]) rfl ⟨by rw [HP.out, decide_eq_true hE0, hS0]; rfl, ?_⟩
        (repeat (with_reducible first | exact Below.refl _ _ | assumption | refine balloc ?_ _ | refine bdrew ?_ | refine bdrN ?_ _ | refine bset _ (by first | omega | (simp; done) | (simp; omega)) ?_ | refine brow _ _ (by first | omega | (simp; done) | (simp; omega)) ?_))
    · have e1 : (E == 0) = false := beq_eq_false_iff_ne.2 hE0
      go_quiet (fail)
      go_wp2_with fail
      replace R := R.drewN nq; replace L := bdrN L nq; replace X := X.drewN nq; replace M := M.drewN nq
      clear Y K B
      generalize W8.drewN nq = W9 at *
      go_still_tail 14, (by kernel_rfl)
      change wpList _ _ _ _ _ W9.drew
      replace X := X.drew; replace R := R.drew; replace M := M.drew; replace L := bdrew L
      generalize W9.drew = W10 at *
      have xc0 := X.cell 0 _ rfl; have xc1 := X.cell 1 _ rfl; have xc2 := X.cell 2 _ rfl; have xc3 := X.cell 3 _ rfl; have xc4 := X.cell 4 _ rfl; have xc5 := X.cell 5 _ rfl; have xc6 := X.cell 6 _ rfl; have xf0 := X.free 0 (by first | decide | simp); have xf1 := X.free 1 (by first | decide | simp); have xf2 := X.free 2 (by first | decide | simp); have xf3 := X.free 3 (by first | decide | simp); have xf4 := X.free 4 (by first | decide | simp); have xf5 := X.free 5 (by first | decide | simp); have xf6 := X.free 6 (by first | decide | simp); have rc0 := R.cell 0 _ rfl; have rc1 := R.cell 1 _ rfl; have rc2 := R.cell 2 _ rfl; have rc3 := R.cell 3 _ rfl; have rc4 := R.cell 4 _ rfl; have rc5 := R.cell 5 _ rfl; have rc6 := R.cell 6 _ rfl; have rf0 := R.free 0 (by first | decide | simp); have rf1 := R.free 1 (by first | decide | simp); have rf2 := R.free 2 (by first | decide | simp); have rf3 := R.free 3 (by first | decide | simp); have rf4 := R.free 4 (by first | decide | simp); have rf5 := R.free 5 (by first | decide | simp); have rf6 := R.free 6 (by first | decide | simp)
      clear X R M
      go_wp2_with fail
      refine bodyPost_ret (v := (PR.no 10).val) (by simp [results, Try.results21, go_sem, PR.no, PR.val, *]) rfl ⟨by rw [HP.out, decide_eq_false hE0]; rfl, ?_⟩
      (repeat (with_reducible first | exact Below.refl _ _ | assumption | refine balloc ?_ _ | refine bdrew ?_ | refine bdrN ?_ _ | refine bset _ (by first | omega | (simp; done) | (simp; omega)) ?_ | refine brow _ _ (by first | omega | (simp; done) | (simp; omega)) ?_))
end Go.Proofs.Ytieblfpdibpeeaa

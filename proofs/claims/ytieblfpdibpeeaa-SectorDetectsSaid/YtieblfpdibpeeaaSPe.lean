/-
  The contract of the reference's Parse, modes 1 and 2.
-/
import Derived.Test.YtieblfpdibpeeaaSPx
import Derived.StillTailTactics
import Derived.BigQuiet
import Derived.Test.YtieblfpdibpeeaaSPd
namespace Go.Proofs.Ytieblfpdibpeeaa
open Go.RowKit Go.Lib
set_option linter.unusedVariables false
set_option linter.unusedSimpArgs false

set_option maxRecDepth 20000 in
set_option maxHeartbeats 2000000 in
theorem refParse_m1 (r : ByteArray) (m : Int) (n z : Nat) (hm : m ≠ 0) (hI : IsLay m 2 24 n 16) (hz : 24 + n = z) (hz2 : z ≤ 2348) (hk : kindE r = (m, 0)) (hs : r.size = 2352) (w : World) :
    Calls Try.prog 22 #[.string r] w fun e w' => e = .returned (parseE r).val ∧ Below w.heap.size w w' := by
  have HK : Hid (∀ w : World, Calls Try.prog 20 #[.string r] w fun e w' => e = .returned (.tuple #[.int .i64 m, .int .i64 0]) ∧ w = w') := fun w => by
    have := refKind_any r (by omega) w
    rwa [hk] at this
  have HD := hid (fun w => refDecode_any r hs w)
  have HY := hid (fun w => refSync_any w)
  have HC := hid (fun w => refCheck_any r (by omega) w)
  have i4 : (12 : Int) ≤ (r.size : Int) := by omega
  have i5 : 12 ≤ r.size := by omega
  have HN : Hid (∀ w : World, Calls Try.prog 16 #[.int .i64 m] w fun e w' => e = .returned (.tuple #[.int .i64 (n : Int), .int .i64 0]) ∧ w = w') := fun w => by
    have := refCapacity_any m w
    rwa [hI.cap] at this
  have KS : Hid (∀ w : World, (Instr.slice 9 (.string r) (some (.int .i64 24)) (some (.int .i64 (z : Int))) none).run Try.prog w = .ok (.string (r.extract 24 z)) w) := fun w => by
    have := run_slice_string (P := Try.prog) w 9 r .i64 .i64 24 (z : Int) Try.underlying9 (by omega) (by omega) (by omega)
    simpa using this
  have ks := KS.out
  have iw : IntKind.i64.wrap (24 + (n : Int)) = (z : Int) := by rw [show (24 : Int) + (n : Int) = (z : Int) by omega]; exact IntWalk.i64_in _ (by omega)
  have i6 : (20 : Int) ≤ (r.size : Int) := by omega
  have i7 : (24 : Int) ≤ (r.size : Int) := by omega
  have i8 : 20 ≤ r.size := by omega
  have i9 : 24 ≤ r.size := by omega
  have dm : (m == 0) = false := beq_eq_false_iff_ne.2 hm
  have HP := hid (parse1 hm hk)
  have HG := hid (getP1 hm hI hz (r := r))
  have s0 : 16 < r.size := by omega
  have s1 : 17 < r.size := by omega
  have s2 : 18 < r.size := by omega
  have s3 : 19 < r.size := by omega
  have w0 : (16 : Int) < (r.size : Int) := by omega
  have w1 : (17 : Int) < (r.size : Int) := by omega
  have w2 : (18 : Int) < (r.size : Int) := by omega
  have w3 : (19 : Int) < (r.size : Int) := by omega
  have v0 := at_get r 16 s0
  have v1 := at_get r 17 s1
  have v2 := at_get r 18 s2
  have v3 := at_get r 19 s3
  have t16 := at_lt r 16
  have t17 := at_lt r 17
  have t18 := at_lt r 18
  have t19 := at_lt r 19
  generalize hSB : r.extract 16 20 = SB at *
  generalize hSC : r.extract 20 24 = SC at *
  generalize hDD : r.extract 24 z = DD at *
  generalize at_ r 16 = a16 at *
  generalize at_ r 17 = a17 at *
  generalize at_ r 18 = a18 at *
  generalize at_ r 19 = a19 at *
  have p16 : IntKind.i64.wrap (a16 : Int) = (a16 : Int) := IntWalk.i64_in _ (by omega)
  have p17 : IntKind.i64.wrap (a17 : Int) = (a17 : Int) := IntWalk.i64_in _ (by omega)
  have p18 : IntKind.i64.wrap (a18 : Int) = (a18 : Int) := IntWalk.i64_in _ (by omega)
  have p19 : IntKind.i64.wrap (a19 : Int) = (a19 : Int) := IntWalk.i64_in _ (by omega)
  clear hI hm
  have hbd : Hid ((dE (at_ r 12) (at_ r 13) (at_ r 14)).2.2.2 = 0 → _) := hid (dE_bd (a := at_ r 12) (b := at_ r 13) (c := at_ r 14))
  generalize hCC : chkB r = CC at *
  generalize hx : (dE (at_ r 12) (at_ r 13) (at_ r 14)).1 = x at *
  generalize hy : (dE (at_ r 12) (at_ r 13) (at_ r 14)).2.1 = y at *
  generalize hq : (dE (at_ r 12) (at_ r 13) (at_ r 14)).2.2.1 = q at *
  generalize hE : (dE (at_ r 12) (at_ r 13) (at_ r 14)).2.2.2 = E at *
  generalize hZ : syncS = Z at *
  go_enter Try.func22, Try.ntmps22
  go_wp2_with fail
  refine (HK.out _).mono ?_
  rintro e w1 ⟨rfl, rfl⟩
  go_wp2_with fail
  refine (HD.out _).mono ?_
  rintro e w1 ⟨rfl, hb⟩
  have R := (Blk.made w zero7 25).below hb
  have L : Below w.heap.size w w1 := bthen (balloc (Below.refl _ _) _) hb
  clear hb
  go_wp2_with fail
  have M := Blk.made w1 [.int .i64 x, .int .i64 y, .int .i64 q] 52
  replace R := R.alloc (.cells #[.int .i64 x, .int .i64 y, .int .i64 q] 52)
  replace L := balloc L (.cells #[.int .i64 x, .int .i64 y, .int .i64 q] 52)
  generalize w1.alloc (Obj.cells #[Value.int IntKind.i64 x, Value.int IntKind.i64 y, Value.int IntKind.i64 q] 52) = W at *
  generalize w1.heap.size = gm at *
  by_cases hS : (r.extract 0 12).toList = Z.toList
  · have hS0 : ((r.extract 0 12).toList == Z.toList) = true := beq_iff_eq.2 hS
    have hS1 : ((r.extract 0 12).toList != Z.toList) = false := by rw [bne, hS0]; rfl
    clear hS
    by_cases hE0 : E = 0
    · have e1 : (E != 0) = false := by rw [hE0]; rfl
      obtain ⟨b1, b2, b3⟩ := hbd.out hE0
      have HT := hid (fun w => refToLBA_ok x y q b1 b2 b3 w)
      have hS := And.intro R (And.intro M L)
      clear R M L
      go_region_held3 (fun w' => Blk w' w.heap.size zero7 ∧ Blk w' gm [.int .i64 x, .int .i64 y, .int .i64 q] ∧ Below w.heap.size w w')
        (with_reducible first | exact par3_keep hS hbW | exact par3_keep hS (bdrew (Below.refl _ _)))
        (first | (go_at_call 34; refine (HY.out _).mono ?_; rintro e w5 ⟨rfl, hb⟩; have hbW := bthen (bdrew (Below.refl W.heap.size W)) hb))
      rename_i hh
      clear hS hbW hb
      obtain ⟨R, M, L⟩ := hh
      have mc0 := M.cell 0 _ rfl; have mc1 := M.cell 1 _ rfl; have mc2 := M.cell 2 _ rfl
      go_wp2_with fail
      refine (HT.out _).mono ?_
      rintro e w6 ⟨rfl, hb⟩
      replace R := R.below hb; replace L := bthen L hb
      clear hb M
      go_wp2_with fail
      have hne : w.heap.size ≠ w6.heap.size := Nat.ne_of_lt R.lt
      have hle : w.heap.size ≤ w6.heap.size := Nat.le_of_lt R.lt
      have X := Blk.made w6 [.int .i64 ((60 * x + y) * 75 + q - 150), .int .i64 m, .int .i64 0, .int .i64 0, .int .i64 0, .int .i64 0, .string { data := #[] }] 25
      replace R := R.alloc (Obj.cells #[Value.int IntKind.i64 ((60 * x + y) * 75 + q - 150), Value.int IntKind.i64 m, Value.int IntKind.i64 0, Value.int IntKind.i64 0, Value.int IntKind.i64 0, Value.int IntKind.i64 0, Value.string { data := #[] }] 25); replace L := balloc L (Obj.cells #[Value.int IntKind.i64 ((60 * x + y) * 75 + q - 150), Value.int IntKind.i64 m, Value.int IntKind.i64 0, Value.int IntKind.i64 0, Value.int IntKind.i64 0, Value.int IntKind.i64 0, Value.string { data := #[] }] 25)
      generalize w6.alloc (Obj.cells #[Value.int IntKind.i64 ((60 * x + y) * 75 + q - 150), Value.int IntKind.i64 m, Value.int IntKind.i64 0, Value.int IntKind.i64 0, Value.int IntKind.i64 0, Value.int IntKind.i64 0, Value.string { data := #[] }] 25) = W6 at *
      generalize w6.heap.size = gx at *
      have hne2 : gx ≠ w.heap.size := fun h => hne h.symm
      refine (HN.out _).mono ?_
      rintro e w7 ⟨rfl, rfl⟩
      go_wp2_with fail
      by_cases hT : SB.toList = SC.toList
      · have hT0 : (SB.toList == SC.toList) = true := beq_iff_eq.2 hT
        have hT1 : (SB.toList != SC.toList) = false := by rw [bne, hT0]; rfl
        clear hT
        by_cases hU : a17 ≤ 31
        · have hU0 : decide (a17 ≤ 31) = true := decide_eq_true hU
          have hU1 : decide (31 < (a17 : Int)) = false := decide_eq_false (by omega)
          clear hU
          go_quiet (fail)
          go_wp2_with fail
          replace R := R.drewN nq; replace L := bdrN L nq; replace X := X.drewN nq
          generalize W6.drewN nq = W9 at *
          go_still_tail 14, (by kernel_rfl)
          change wpList _ _ _ _ _ W9.drew
          replace X := X.drew; replace R := R.drew; replace L := bdrew L
          generalize W9.drew = W10 at *
          have xc0 := X.cell 0 _ rfl; have xc1 := X.cell 1 _ rfl; have xc2 := X.cell 2 _ rfl; have xc3 := X.cell 3 _ rfl; have xc4 := X.cell 4 _ rfl; have xc5 := X.cell 5 _ rfl; have xc6 := X.cell 6 _ rfl; have xf0 := X.free 0 (by first | decide | simp); have xf1 := X.free 1 (by first | decide | simp); have xf2 := X.free 2 (by first | decide | simp); have xf3 := X.free 3 (by first | decide | simp); have xf4 := X.free 4 (by first | decide | simp); have xf5 := X.free 5 (by first | decide | simp); have xf6 := X.free 6 (by first | decide | simp)
          go_wp2_with fail
          clear xc0 xf0 xc1 xf1 xc2 xf2 xc3 xf3 xc4 xf4 xc5 xf5 xc6 xf6
          refine (HC.out _).mono ?_
          rintro e w11 ⟨rfl, hb⟩
          replace R := ((R.set4 (v2 := .int .i64 (a16 : Int)) (v3 := .int .i64 (a17 : Int)) (v4 := .int .i64 (a18 : Int)) (v5 := .int .i64 (a19 : Int)) hne2).set ⟨gx, 6, none⟩ (.string DD) hne2).below hb; replace X := ((blk4 (v2 := .int .i64 (a16 : Int)) (v3 := .int .i64 (a17 : Int)) (v4 := .int .i64 (a18 : Int)) (v5 := .int .i64 (a19 : Int)) X).write 6 (.string DD) (by simp)).below hb; replace L := bthen (bset (p := ⟨gx, 6, none⟩) (.string DD) hle (bset4 (v2 := .int .i64 (a16 : Int)) (v3 := .int .i64 (a17 : Int)) (v4 := .int .i64 (a18 : Int)) (v5 := .int .i64 (a19 : Int)) hle L)) hb
          clear hb
          by_cases hC0 : CC = true
          · subst hC0
            have xc0 := X.cell 0 _ rfl; have xc1 := X.cell 1 _ rfl; have xc2 := X.cell 2 _ rfl; have xc3 := X.cell 3 _ rfl; have xc4 := X.cell 4 _ rfl; have xc5 := X.cell 5 _ rfl; have xc6 := X.cell 6 _ rfl; have xf0 := X.free 0 (by first | decide | simp); have xf1 := X.free 1 (by first | decide | simp); have xf2 := X.free 2 (by first | decide | simp); have xf3 := X.free 3 (by first | decide | simp); have xf4 := X.free 4 (by first | decide | simp); have xf5 := X.free 5 (by first | decide | simp); have xf6 := X.free 6 (by first | decide | simp); have rc0 := R.cell 0 _ rfl; have rc1 := R.cell 1 _ rfl; have rc2 := R.cell 2 _ rfl; have rc3 := R.cell 3 _ rfl; have rc4 := R.cell 4 _ rfl; have rc5 := R.cell 5 _ rfl; have rc6 := R.cell 6 _ rfl; have rf0 := R.free 0 (by first | decide | simp); have rf1 := R.free 1 (by first | decide | simp); have rf2 := R.free 2 (by first | decide | simp); have rf3 := R.free 3 (by first | decide | simp); have rf4 := R.free 4 (by first | decide | simp); have rf5 := R.free 5 (by first | decide | simp); have rf6 := R.free 6 (by first | decide | simp)
            clear X R
            go_wp2_with fail
            refine bodyPost_ret (v := (PR.mk ((60 * x + y) * 75 + q - 150) m a16 a17 a18 a19 DD 0).val) (by simp [results, Try.results22, go_sem, PR.no, PR.val, *]) rfl ⟨by rw [HP.out, decide_eq_true hE0, hS0, hT0, hU0, if_neg (by decide), if_neg (by decide), HG.out], ?_⟩
            (repeat (with_reducible first | exact Below.refl _ _ | assumption | refine balloc ?_ _ | refine bdrew ?_ | refine bdrN ?_ _ | refine bset _ (by first | omega | (simp; done) | (simp; omega)) ?_ | refine brow _ _ (by first | omega | (simp; done) | (simp; omega)) ?_))
          · replace hC0 : CC = false := by simpa using hC0
            subst hC0
            have rc0 := R.cell 0 _ rfl; have rc1 := R.cell 1 _ rfl; have rc2 := R.cell 2 _ rfl; have rc3 := R.cell 3 _ rfl; have rc4 := R.cell 4 _ rfl; have rc5 := R.cell 5 _ rfl; have rc6 := R.cell 6 _ rfl; have rf0 := R.free 0 (by first | decide | simp); have rf1 := R.free 1 (by first | decide | simp); have rf2 := R.free 2 (by first | decide | simp); have rf3 := R.free 3 (by first | decide | simp); have rf4 := R.free 4 (by first | decide | simp); have rf5 := R.free 5 (by first | decide | simp); have rf6 := R.free 6 (by first | decide | simp)
            clear X R
            go_wp2_with fail
            refine bodyPost_ret (v := (PR.no 9).val) (by simp [results, Try.results22, go_sem, PR.no, PR.val, *]) rfl ⟨by rw [HP.out, decide_eq_true hE0, hS0, hT0, hU0, if_neg (by decide)]; rfl, ?_⟩
            (repeat (with_reducible first | exact Below.refl _ _ | assumption | refine balloc ?_ _ | refine bdrew ?_ | refine bdrN ?_ _ | refine bset _ (by first | omega | (simp; done) | (simp; omega)) ?_ | refine brow _ _ (by first | omega | (simp; done) | (simp; omega)) ?_))
        · have hU0 : decide (a17 ≤ 31) = false := decide_eq_false hU
          have hU1 : decide (31 < (a17 : Int)) = true := decide_eq_true (by omega)
          clear hU
          clear X
          have rc0 := R.cell 0 _ rfl; have rc1 := R.cell 1 _ rfl; have rc2 := R.cell 2 _ rfl; have rc3 := R.cell 3 _ rfl; have rc4 := R.cell 4 _ rfl; have rc5 := R.cell 5 _ rfl; have rc6 := R.cell 6 _ rfl; have rf0 := R.free 0 (by first | decide | simp); have rf1 := R.free 1 (by first | decide | simp); have rf2 := R.free 2 (by first | decide | simp); have rf3 := R.free 3 (by first | decide | simp); have rf4 := R.free 4 (by first | decide | simp); have rf5 := R.free 5 (by first | decide | simp); have rf6 := R.free 6 (by first | decide | simp)
          go_quiet (fail)
          go_wp2_with fail
          refine bodyPost_ret (v := (PR.no 10).val) (by simp [results, Try.results22, go_sem, PR.no, PR.val, *]) rfl ⟨by rw [HP.out, decide_eq_true hE0, hS0, hT0, hU0]; rfl, ?_⟩
          (repeat (with_reducible first | exact Below.refl _ _ | assumption | refine balloc ?_ _ | refine bdrew ?_ | refine bdrN ?_ _ | refine bset _ (by first | omega | (simp; done) | (simp; omega)) ?_ | refine brow _ _ (by first | omega | (simp; done) | (simp; omega)) ?_))
      · have hT0 : (SB.toList == SC.toList) = false := beq_eq_false_iff_ne.2 hT
        have hT1 : (SB.toList != SC.toList) = true := by rw [bne, hT0]; rfl
        clear hT
        clear X
        have rc0 := R.cell 0 _ rfl; have rc1 := R.cell 1 _ rfl; have rc2 := R.cell 2 _ rfl; have rc3 := R.cell 3 _ rfl; have rc4 := R.cell 4 _ rfl; have rc5 := R.cell 5 _ rfl; have rc6 := R.cell 6 _ rfl; have rf0 := R.free 0 (by first | decide | simp); have rf1 := R.free 1 (by first | decide | simp); have rf2 := R.free 2 (by first | decide | simp); have rf3 := R.free 3 (by first | decide | simp); have rf4 := R.free 4 (by first | decide | simp); have rf5 := R.free 5 (by first | decide | simp); have rf6 := R.free 6 (by first | decide | simp)
        go_quiet (fail)
        go_wp2_with fail
        refine bodyPost_ret (v := (PR.no 10).val) (by simp [results, Try.results22, go_sem, PR.no, PR.val, *]) rfl ⟨by rw [HP.out, decide_eq_true hE0, hS0, hT0]; rfl, ?_⟩
        (repeat (with_reducible first | exact Below.refl _ _ | assumption | refine balloc ?_ _ | refine bdrew ?_ | refine bdrN ?_ _ | refine bset _ (by first | omega | (simp; done) | (simp; omega)) ?_ | refine brow _ _ (by first | omega | (simp; done) | (simp; omega)) ?_))
    · have e1 : (E != 0) = true := bne_iff_ne.2 hE0
      have hS := And.intro R (And.intro M L)
      clear R M L
      go_region_held3 (fun w' => Blk w' w.heap.size zero7 ∧ Blk w' gm [.int .i64 x, .int .i64 y, .int .i64 q] ∧ Below w.heap.size w w')
        (with_reducible first | exact par3_keep hS hbW | exact par3_keep hS (bdrew (Below.refl _ _)))
        (first | (go_at_call 34; refine (HY.out _).mono ?_; rintro e w5 ⟨rfl, hb⟩; have hbW := bthen (bdrew (Below.refl W.heap.size W)) hb))
      rename_i hh
      clear hS hbW hb
      obtain ⟨R, M, L⟩ := hh
      clear M
      have rc0 := R.cell 0 _ rfl; have rc1 := R.cell 1 _ rfl; have rc2 := R.cell 2 _ rfl; have rc3 := R.cell 3 _ rfl; have rc4 := R.cell 4 _ rfl; have rc5 := R.cell 5 _ rfl; have rc6 := R.cell 6 _ rfl; have rf0 := R.free 0 (by first | decide | simp); have rf1 := R.free 1 (by first | decide | simp); have rf2 := R.free 2 (by first | decide | simp); have rf3 := R.free 3 (by first | decide | simp); have rf4 := R.free 4 (by first | decide | simp); have rf5 := R.free 5 (by first | decide | simp); have rf6 := R.free 6 (by first | decide | simp)
      clear R
      go_wp2_with fail
      refine bodyPost_ret (v := (PR.no 10).val) (by simp [results, Try.results22, go_sem, PR.no, PR.val, *]) rfl ⟨by rw [HP.out, decide_eq_false hE0]; rfl, ?_⟩
      (repeat (with_reducible first | exact Below.refl _ _ | assumption | refine balloc ?_ _ | refine bdrew ?_ | refine bdrN ?_ _ | refine bset _ (by first | omega | (simp; done) | (simp; omega)) ?_ | refine brow _ _ (by first | omega | (simp; done) | (simp; omega)) ?_))
  · have hS0 : ((r.extract 0 12).toList == Z.toList) = false := beq_eq_false_iff_ne.2 hS
    have hS1 : ((r.extract 0 12).toList != Z.toList) = true := by rw [bne, hS0]; rfl
    clear hS
    first | (go_region_with (go_at_call 34; refine (HY.out _).mono ?_; rintro e w5 ⟨rfl, hb⟩; have hbW := bthen (bdrew (Below.refl W.heap.size W)) hb)) | fail
    replace R := R.below hbW; replace L := bthen L hbW
    clear hbW hb
    clear M
    have rc0 := R.cell 0 _ rfl; have rc1 := R.cell 1 _ rfl; have rc2 := R.cell 2 _ rfl; have rc3 := R.cell 3 _ rfl; have rc4 := R.cell 4 _ rfl; have rc5 := R.cell 5 _ rfl; have rc6 := R.cell 6 _ rfl; have rf0 := R.free 0 (by first | decide | simp); have rf1 := R.free 1 (by first | decide | simp); have rf2 := R.free 2 (by first | decide | simp); have rf3 := R.free 3 (by first | decide | simp); have rf4 := R.free 4 (by first | decide | simp); have rf5 := R.free 5 (by first | decide | simp); have rf6 := R.free 6 (by first | decide | simp)
    clear R
    go_wp2_with fail
    refine bodyPost_ret (v := (PR.no 10).val) (by simp [results, Try.results22, go_sem, PR.no, PR.val, *]) rfl ⟨by rw [HP.out, hS0, Bool.and_false, Bool.false_and]; rfl, ?_⟩
    (repeat (with_reducible first | exact Below.refl _ _ | assumption | refine balloc ?_ _ | refine bdrew ?_ | refine bdrN ?_ _ | refine bset _ (by first | omega | (simp; done) | (simp; omega)) ?_ | refine brow _ _ (by first | omega | (simp; done) | (simp; omega)) ?_))

end Go.Proofs.Ytieblfpdibpeeaa

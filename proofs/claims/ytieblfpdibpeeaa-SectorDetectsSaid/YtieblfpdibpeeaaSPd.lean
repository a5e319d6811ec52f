/-
  The contract of the reference's Parse.
-/
import Derived.Test.YtieblfpdibpeeaaSPb
import Derived.Deep.RegionWith
namespace Go.Proofs.Ytieblfpdibpeeaa
open Go.RowKit Go.Lib
set_option linter.unusedVariables false
set_option linter.unusedSimpArgs false

theorem par3_keep {w w' w2 : World} {ga gb : Nat} {la lb : List Value} (h : Blk w' ga la ∧ Blk w' gb lb ∧ Below w.heap.size w w') (hb : Below w'.heap.size w' w2) :
    Blk w2 ga la ∧ Blk w2 gb lb ∧ Below w.heap.size w w2 := ⟨h.1.below hb, h.2.1.below hb, bthen h.2.2 hb⟩

set_option maxRecDepth 20000 in
set_option maxHeartbeats 2000000 in
theorem refParse_m0 (r : ByteArray) (hk : kindE r = (0, 0)) (hs : r.size = 2352) (w : World) :
    Calls Try.prog 22 #[.string r] w fun e w' => e = .returned (parseE r).val ∧ Below w.heap.size w w' := by
  have HK : Hid (∀ w : World, Calls Try.prog 20 #[.string r] w fun e w' => e = .returned (.tuple #[.int .i64 0, .int .i64 0]) ∧ w = w') := fun w => by
    have := refKind_any r (by omega) w
    rwa [hk] at this
  have HD := hid (fun w => refDecode_any r hs w)
  have HY := hid (fun w => refSync_any w)
  have HC := hid (fun w => refCheck_any r (by omega) w)
  have i4 : (12 : Int) ≤ (r.size : Int) := by omega
  have i5 : 12 ≤ r.size := by omega
  have HN : Hid (∀ w : World, Calls Try.prog 16 #[.int .i64 0] w fun e w' => e = .returned (.tuple #[.int .i64 2048, .int .i64 0]) ∧ w = w') := fun w => refCapacity_any 0 w
  have HR : Hid (∀ w : World, Calls Try.prog 36 #[.int .u8 0, .int .i64 8] w fun e w' => e = .returned (.string (rep 0 8)) ∧ Below w.heap.size w w') := fun w => refRepeat_any 0 8 (by omega) w
  have i1 : (2064 : Int) ≤ (r.size : Int) := by omega
  have i2 : 2064 ≤ r.size := by omega
  have iw : IntKind.i64.wrap 2064 = 2064 := IntWalk.i64_in _ (by omega)
  have i6 : (2076 : Int) ≤ (r.size : Int) := by omega
  have i7 : 2076 ≤ r.size := by omega
  have HP := hid (parse0 hk)
  have HG : Hid (getP r 0 = ⟨(60 * (dE (at_ r 12) (at_ r 13) (at_ r 14)).1 + (dE (at_ r 12) (at_ r 13) (at_ r 14)).2.1) * 75 + (dE (at_ r 12) (at_ r 13) (at_ r 14)).2.2.1 - 150, 0, 0, 0, 0, 0, r.extract 16 2064, 0⟩) := if_pos rfl
  generalize rep 0 8 = Z8 at *
  have hbd : Hid ((dE (at_ r 12) (at_ r 13) (at_ r 14)).2.2.2 = 0 → _) := hid (dE_bd (a := at_ r 12) (b := at_ r 13) (c := at_ r 14))
  generalize hCC : chkB r = CC at *
  generalize hx : (dE (at_ r 12) (at_ r 13) (at_ r 14)).1 = x at *
  generalize hy : (dE (at_ r 12) (at_ r 13) (at_ r 14)).2.1 = y at *
  generalize hq : (dE (at_ r 12) (at_ r 13) (at_ r 14)).2.2.1 = q at *
  generalize hE : (dE (at_ r 12) (at_ r 13) (at_ r 14)).2.2.2 = E at *
  generalize hZ : syncS = Z at *
  go_enter Try.func22, Try.ntmps22
  go_wp2_with fail
  refine (HK.out _).mono ?_
  rintro e w1 ⟨rfl, rfl⟩
  go_wp2_with fail
  refine (HD.out _).mono ?_
  rintro e w1 ⟨rfl, hb⟩
  have R := (Blk.made w zero7 25).below hb
  have L : Below w.heap.size w w1 := bthen (balloc (Below.refl _ _) _) hb
  clear hb
  go_wp2_with fail
  have M := Blk.made w1 [.int .i64 x, .int .i64 y, .int .i64 q] 52
  replace R := R.alloc (.cells #[.int .i64 x, .int .i64 y, .int .i64 q] 52)
  replace L := balloc L (.cells #[.int .i64 x, .int .i64 y, .int .i64 q] 52)
  generalize w1.alloc (Obj.cells #[Value.int IntKind.i64 x, Value.int IntKind.i64 y, Value.int IntKind.i64 q] 52) = W at *
  generalize w1.heap.size = gm at *
  by_cases hS : (r.extract 0 12).toList = Z.toList
  · have hS0 : ((r.extract 0 12).toList == Z.toList) = true := beq_iff_eq.2 hS
    have hS1 : ((r.extract 0 12).toList != Z.toList) = false := by rw [bne, hS0]; rfl
    clear hS
    by_cases hE0 : E = 0
    · have e1 : (E != 0) = false := by rw [hE0]; rfl
      obtain ⟨b1, b2, b3⟩ := hbd.out hE0
      have HT := hid (fun w => refToLBA_ok x y q b1 b2 b3 w)
      have hS := And.intro R (And.intro M L)
      clear R M L
      go_region_held3 (fun w' => Blk w' w.heap.size zero7 ∧ Blk w' gm [.int .i64 x, .int .i64 y, .int .i64 q] ∧ Below w.heap.size w w')
        (with_reducible first | exact par3_keep hS hbW | exact par3_keep hS (bdrew (Below.refl _ _)))
        (first | (go_at_call 34; refine (HY.out _).mono ?_; rintro e w5 ⟨rfl, hb⟩; have hbW := bthen (bdrew (Below.refl W.heap.size W)) hb))
      rename_i hh
      clear hS hbW hb
      obtain ⟨R, M, L⟩ := hh
      have mc0 := M.cell 0 _ rfl; have mc1 := M.cell 1 _ rfl; have mc2 := M.cell 2 _ rfl
      go_wp2_with fail
      refine (HT.out _).mono ?_
      rintro e w6 ⟨rfl, hb⟩
      replace R := R.below hb; replace L := bthen L hb
      clear hb M
      go_wp2_with fail
      have hne : w.heap.size ≠ w6.heap.size := Nat.ne_of_lt R.lt
      have hle : w.heap.size ≤ w6.heap.size := Nat.le_of_lt R.lt
      have X := Blk.made w6 [.int .i64 ((60 * x + y) * 75 + q - 150), .int .i64 0, .int .i64 0, .int .i64 0, .int .i64 0, .int .i64 0, .string { data := #[] }] 25
      replace R := R.alloc (Obj.cells #[Value.int IntKind.i64 ((60 * x + y) * 75 + q - 150), Value.int IntKind.i64 0, Value.int IntKind.i64 0, Value.int IntKind.i64 0, Value.int IntKind.i64 0, Value.int IntKind.i64 0, Value.string { data := #[] }] 25); replace L := balloc L (Obj.cells #[Value.int IntKind.i64 ((60 * x + y) * 75 + q - 150), Value.int IntKind.i64 0, Value.int IntKind.i64 0, Value.int IntKind.i64 0, Value.int IntKind.i64 0, Value.int IntKind.i64 0, Value.string { data := #[] }] 25)
      generalize w6.alloc (Obj.cells #[Value.int IntKind.i64 ((60 * x + y) * 75 + q - 150), Value.int IntKind.i64 0, Value.int IntKind.i64 0, Value.int IntKind.i64 0, Value.int IntKind.i64 0, Value.int IntKind.i64 0, Value.string { data := #[] }] 25) = W6 at *
      generalize w6.heap.size = gx at *
      have hne2 : gx ≠ w.heap.size := fun h => hne h.symm
      refine (HN.out _).mono ?_
      rintro e w7 ⟨rfl, rfl⟩
      go_wp2_with fail
      by_cases hR : (r.extract 2068 2076).toList = Z8.toList
      · have hR0 : ((r.extract 2068 2076).toList == Z8.toList) = true := beq_iff_eq.2 hR
        have hR1 : ((r.extract 2068 2076).toList != Z8.toList) = false := by rw [bne, hR0]; rfl
        clear hR
        have hS := And.intro R (And.intro X L)
        clear R X L
        go_region_held3 (fun w' => Blk w' w.heap.size zero7 ∧ Blk w' gx [.int .i64 ((60 * x + y) * 75 + q - 150), .int .i64 0, .int .i64 0, .int .i64 0, .int .i64 0, .int .i64 0, .string { data := #[] }] ∧ Below w.heap.size w w')
          (with_reducible first | exact par3_keep hS hbW | exact par3_keep hS (bdrew (Below.refl _ _)))
          (first | (go_at_call 36; refine (HR.out _).mono ?_; rintro e w8 ⟨rfl, hb⟩; have hbW := bthen (bdrew (Below.refl W6.heap.size W6)) hb))
        rename_i hh
        clear hS hbW hb
        obtain ⟨R, X, L⟩ := hh
        have xc0 := X.cell 0 _ rfl; have xc1 := X.cell 1 _ rfl; have xc2 := X.cell 2 _ rfl; have xc3 := X.cell 3 _ rfl; have xc4 := X.cell 4 _ rfl; have xc5 := X.cell 5 _ rfl; have xc6 := X.cell 6 _ rfl; have xf0 := X.free 0 (by first | decide | simp); have xf1 := X.free 1 (by first | decide | simp); have xf2 := X.free 2 (by first | decide | simp); have xf3 := X.free 3 (by first | decide | simp); have xf4 := X.free 4 (by first | decide | simp); have xf5 := X.free 5 (by first | decide | simp); have xf6 := X.free 6 (by first | decide | simp)
        go_wp2_with fail
        clear xc0 xf0 xc1 xf1 xc2 xf2 xc3 xf3 xc4 xf4 xc5 xf5 xc6 xf6
        replace X := X.write 6 (.string (r.extract 16 2064)) (by simp); replace R := R.set ⟨gx, 6, none⟩ (.string (r.extract 16 2064)) hne2; replace L := bset (p := ⟨gx, 6, none⟩) (.string (r.extract 16 2064)) hle L
        generalize w8.setCell ⟨gx, 6, none⟩ (Value.string (r.extract 16 2064)) = W10 at *
        refine (HC.out _).mono ?_
        rintro e w11 ⟨rfl, hb⟩
        replace R := R.below hb; replace X := X.below hb; replace L := bthen L hb
        clear hb
        by_cases hC0 : CC = true
        · subst hC0
          have xc0 := X.cell 0 _ rfl; have xc1 := X.cell 1 _ rfl; have xc2 := X.cell 2 _ rfl; have xc3 := X.cell 3 _ rfl; have xc4 := X.cell 4 _ rfl; have xc5 := X.cell 5 _ rfl; have xc6 := X.cell 6 _ rfl; have xf0 := X.free 0 (by first | decide | simp); have xf1 := X.free 1 (by first | decide | simp); have xf2 := X.free 2 (by first | decide | simp); have xf3 := X.free 3 (by first | decide | simp); have xf4 := X.free 4 (by first | decide | simp); have xf5 := X.free 5 (by first | decide | simp); have xf6 := X.free 6 (by first | decide | simp); have rc0 := R.cell 0 _ rfl; have rc1 := R.cell 1 _ rfl; have rc2 := R.cell 2 _ rfl; have rc3 := R.cell 3 _ rfl; have rc4 := R.cell 4 _ rfl; have rc5 := R.cell 5 _ rfl; have rc6 := R.cell 6 _ rfl; have rf0 := R.free 0 (by first | decide | simp); have rf1 := R.free 1 (by first | decide | simp); have rf2 := R.free 2 (by first | decide | simp); have rf3 := R.free 3 (by first | decide | simp); have rf4 := R.free 4 (by first | decide | simp); have rf5 := R.free 5 (by first | decide | simp); have rf6 := R.free 6 (by first | decide | simp)
          clear X R
          go_wp2_with fail
          refine bodyPost_ret (v := (PR.mk ((60 * x + y) * 75 + q - 150) 0 0 0 0 0 (r.extract 16 2064) 0).val) (by simp [results, Try.results22, go_sem, PR.no, PR.val, *]) rfl ⟨by rw [HP.out, decide_eq_true hE0, hS0, hR0, if_neg (by decide), if_neg (by decide), HG.out], ?_⟩
          (repeat (with_reducible first | exact Below.refl _ _ | assumption | refine balloc ?_ _ | refine bdrew ?_ | refine bdrN ?_ _ | refine bset _ (by first | omega | (simp; done) | (simp; omega)) ?_ | refine brow _ _ (by first | omega | (simp; done) | (simp; omega)) ?_))
        · replace hC0 : CC = false := by simpa using hC0
          subst hC0
          have rc0 := R.cell 0 _ rfl; have rc1 := R.cell 1 _ rfl; have rc2 := R.cell 2 _ rfl; have rc3 := R.cell 3 _ rfl; have rc4 := R.cell 4 _ rfl; have rc5 := R.cell 5 _ rfl; have rc6 := R.cell 6 _ rfl; have rf0 := R.free 0 (by first | decide | simp); have rf1 := R.free 1 (by first | decide | simp); have rf2 := R.free 2 (by first | decide | simp); have rf3 := R.free 3 (by first | decide | simp); have rf4 := R.free 4 (by first | decide | simp); have rf5 := R.free 5 (by first | decide | simp); have rf6 := R.free 6 (by first | decide | simp)
          clear X R
          go_wp2_with fail
          refine bodyPost_ret (v := (PR.no 9).val) (by simp [results, Try.results22, go_sem, PR.no, PR.val, *]) rfl ⟨by rw [HP.out, decide_eq_true hE0, hS0, hR0, if_neg (by decide)]; rfl, ?_⟩
          (repeat (with_reducible first | exact Below.refl _ _ | assumption | refine balloc ?_ _ | refine bdrew ?_ | refine bdrN ?_ _ | refine bset _ (by first | omega | (simp; done) | (simp; omega)) ?_ | refine brow _ _ (by first | omega | (simp; done) | (simp; omega)) ?_))
      · have hR0 : ((r.extract 2068 2076).toList == Z8.toList) = false := beq_eq_false_iff_ne.2 hR
        have hR1 : ((r.extract 2068 2076).toList != Z8.toList) = true := by rw [bne, hR0]; rfl
        clear hR
        have hS := And.intro R (And.intro X L)
        clear R X L
        go_region_held3 (fun w' => Blk w' w.heap.size zero7 ∧ Blk w' gx [.int .i64 ((60 * x + y) * 75 + q - 150), .int .i64 0, .int .i64 0, .int .i64 0, .int .i64 0, .int .i64 0, .string { data := #[] }] ∧ Below w.heap.size w w')
          (with_reducible first | exact par3_keep hS hbW | exact par3_keep hS (bdrew (Below.refl _ _)))
          (first | (go_at_call 36; refine (HR.out _).mono ?_; rintro e w8 ⟨rfl, hb⟩; have hbW := bthen (bdrew (Below.refl W6.heap.size W6)) hb))
        rename_i hh
        clear hS hbW hb
        obtain ⟨R, X, L⟩ := hh
        clear X
        have rc0 := R.cell 0 _ rfl; have rc1 := R.cell 1 _ rfl; have rc2 := R.cell 2 _ rfl; have rc3 := R.cell 3 _ rfl; have rc4 := R.cell 4 _ rfl; have rc5 := R.cell 5 _ rfl; have rc6 := R.cell 6 _ rfl; have rf0 := R.free 0 (by first | decide | simp); have rf1 := R.free 1 (by first | decide | simp); have rf2 := R.free 2 (by first | decide | simp); have rf3 := R.free 3 (by first | decide | simp); have rf4 := R.free 4 (by first | decide | simp); have rf5 := R.free 5 (by first | decide | simp); have rf6 := R.free 6 (by first | decide | simp)
        clear R
        go_wp2_with fail
        refine bodyPost_ret (v := (PR.no 10).val) (by simp [results, Try.results22, go_sem, PR.no, PR.val, *]) rfl ⟨by rw [HP.out, decide_eq_true hE0, hS0, hR0]; rfl, ?_⟩
        (repeat (with_reducible first | exact Below.refl _ _ | assumption | refine balloc ?_ _ | refine bdrew ?_ | refine bdrN ?_ _ | refine bset _ (by first | omega | (simp; done) | (simp; omega)) ?_ | refine brow _ _ (by first | omega | (simp; done) | (simp; omega)) ?_))
    · have e1 : (E != 0) = true := bne_iff_ne.2 hE0
      have hS := And.intro R (And.intro M L)
      clear R M L
      go_region_held3 (fun w' => Blk w' w.heap.size zero7 ∧ Blk w' gm [.int .i64 x, .int .i64 y, .int .i64 q] ∧ Below w.heap.size w w')
        (with_reducible first | exact par3_keep hS hbW | exact par3_keep hS (bdrew (Below.refl _ _)))
        (first | (go_at_call 34; refine (HY.out _).mono ?_; rintro e w5 ⟨rfl, hb⟩; have hbW := bthen (bdrew (Below.refl W.heap.size W)) hb))
      rename_i hh
      clear hS hbW hb
      obtain ⟨R, M, L⟩ := hh
      clear M
      have rc0 := R.cell 0 _ rfl; have rc1 := R.cell 1 _ rfl; have rc2 := R.cell 2 _ rfl; have rc3 := R.cell 3 _ rfl; have rc4 := R.cell 4 _ rfl; have rc5 := R.cell 5 _ rfl; have rc6 := R.cell 6 _ rfl; have rf0 := R.free 0 (by first | decide | simp); have rf1 := R.free 1 (by first | decide | simp); have rf2 := R.free 2 (by first | decide | simp); have rf3 := R.free 3 (by first | decide | simp); have rf4 := R.free 4 (by first | decide | simp); have rf5 := R.free 5 (by first | decide | simp); have rf6 := R.free 6 (by first | decide | simp)
      clear R
      go_wp2_with fail
      refine bodyPost_ret (v := (PR.no 10).val) (by simp [results, Try.results22, go_sem, PR.no, PR.val, *]) rfl ⟨by rw [HP.out, decide_eq_false hE0]; rfl, ?_⟩
      (repeat (with_reducible first | exact Below.refl _ _ | assumption | refine balloc ?_ _ | refine bdrew ?_ | refine bdrN ?_ _ | refine bset _ (by first | omega | (simp; done) | (simp; omega)) ?_ | refine brow _ _ (by first | omega | (simp; done) | (simp; omega)) ?_))
  · have hS0 : ((r.extract 0 12).toList == Z.toList) = false := beq_eq_false_iff_ne.2 hS
    have hS1 : ((r.extract 0 12).toList != Z.toList) = true := by rw [bne, hS0]; rfl
    clear hS
    first | (go_region_with (go_at_call 34; refine (HY.out _).mono ?_; rintro e w5 ⟨rfl, hb⟩; have hbW := bthen (bdrew (Below.refl W.heap.size W)) hb)) | fail
    replace R := R.below hbW; replace L := bthen L hbW
    clear hbW hb
    clear M
    have rc0 := R.cell 0 _ rfl; have rc1 := R.cell 1 _ rfl; have rc2 := R.cell 2 _ rfl; have rc3 := R.cell 3 _ rfl; have rc4 := R.cell 4 _ rfl; have rc5 := R.cell 5 _ rfl; have rc6 := R.cell 6 _ rfl; have rf0 := R.free 0 (by first | decide | simp); have rf1 := R.free 1 (by first | decide | simp); have rf2 := R.free 2 (by first | decide | simp); have rf3 := R.free 3 (by first | decide | simp); have rf4 := R.free 4 (by first | decide | simp); have rf5 := R.free 5 (by first | decide | simp); have rf6 := R.free 6 (by first | decide | simp)
    clear R
    go_wp2_with fail
    refine bodyPost_ret (v := (PR.no 10).val) (by simp [results, Try.results22, go_sem, PR.no, PR.val, *]) rfl ⟨by rw [HP.out, hS0, Bool.and_false, Bool.false_and]; rfl, ?_⟩
    (repeat (with_reducible first | exact Below.refl _ _ | assumption | refine balloc ?_ _ | refine bdrew ?_ | refine bdrN ?_ _ | refine bset _ (by first | omega | (simp; done) | (simp; omega)) ?_ | refine brow _ _ (by first | omega | (simp; done) | (simp; omega)) ?_))

end Go.Proofs.Ytieblfpdibpeeaa

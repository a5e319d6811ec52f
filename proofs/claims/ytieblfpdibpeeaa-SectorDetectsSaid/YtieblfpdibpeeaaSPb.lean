/-
  The contract of Parse (package sector), mode 0.
-/
import Derived.Test.YtieblfpdibpeeaaSPa
import Derived.BigQuiet
import Derived.Deep.RegionHeld
namespace Go.Proofs.Ytieblfpdibpeeaa
open Go.RowKit Go.Lib
set_option linter.unusedVariables false
set_option linter.unusedSimpArgs false

theorem par_keep {w w' w2 : World} {g1 : Nat} {a b c d : Value} (h : w'.cell? ⟨g1, 0, none⟩ = some a ∧ w'.cell? ⟨g1, 1, none⟩ = some b ∧ w'.cell? ⟨g1, 2, none⟩ = some c ∧ w'.cell? ⟨g1, 3, none⟩ = some d ∧ Blk w' g1 [a, b, c, d] ∧ Blk w' w.heap.size zero7 ∧ Below w.heap.size w w') (hb : Below w'.heap.size w' w2) :
    w2.cell? ⟨g1, 0, none⟩ = some a ∧ w2.cell? ⟨g1, 1, none⟩ = some b ∧ w2.cell? ⟨g1, 2, none⟩ = some c ∧ w2.cell? ⟨g1, 3, none⟩ = some d ∧ Blk w2 g1 [a, b, c, d] ∧ Blk w2 w.heap.size zero7 ∧ Below w.heap.size w w2 := by
  obtain ⟨h0, h1, h2, h3, h4, h5, h6⟩ := h
  exact ⟨below_cell hb h0, below_cell hb h1, below_cell hb h2, below_cell hb h3, h4.below hb, h5.below hb, bthen h6 hb⟩
theorem bset7 {a w : World} {g : Nat} {v0 v1 v2 v3 v4 v5 v6 : Value} (hg : a.heap.size ≤ g) (h : Below a.heap.size a w) :
    Below a.heap.size a (((((((w.setCell ⟨g, 0, none⟩ v0).setCell ⟨g, 1, none⟩ v1).setCell ⟨g, 2, none⟩ v2).setCell ⟨g, 3, none⟩ v3).setCell ⟨g, 4, none⟩ v4).setCell ⟨g, 5, none⟩ v5).setCell ⟨g, 6, none⟩ v6) :=
  bset _ hg (bset _ hg (bset _ hg (bset _ hg (bset _ hg (bset _ hg (bset _ hg h))))))
theorem blk7 {w : World} {g : Nat} {u0 u1 u2 u3 u4 u5 u6 v0 v1 v2 v3 v4 v5 v6 : Value} (h : Blk w g [u0, u1, u2, u3, u4, u5, u6]) :
    Blk (((((((w.setCell ⟨g, 0, none⟩ v0).setCell ⟨g, 1, none⟩ v1).setCell ⟨g, 2, none⟩ v2).setCell ⟨g, 3, none⟩ v3).setCell ⟨g, 4, none⟩ v4).setCell ⟨g, 5, none⟩ v5).setCell ⟨g, 6, none⟩ v6) g [v0, v1, v2, v3, v4, v5, v6] :=
  ((((((h.write 0 v0 (by simp)).write 1 v1 (by simp)).write 2 v2 (by simp)).write 3 v3 (by simp)).write 4 v4 (by simp)).write 5 v5 (by simp)).write 6 v6 (by simp)

def syncL : List Value := [.int .u8 0, .int .u8 255, .int .u8 255, .int .u8 255, .int .u8 255, .int .u8 255, .int .u8 255, .int .u8 255, .int .u8 255, .int .u8 255, .int .u8 255, .int .u8 0]
theorem conv12 {W : World} {g : Nat} (h : Blk W g syncL) : (convert 42 9 (.slice (some ⟨g, 0, none⟩) 12 12)).run Try.prog W = .ok (.string syncS) W := by
  refine run_convert_bytes_arg _ 42 5 Try.underlying42 Try.underlying5 g 0 12 12 [0, 255, 255, 255, 255, 255, 255, 255, 255, 255, 255, 0] rfl (fun i hi => ?_) 9 Try.underlying9
  have h4 : i = 0 ∨ i = 1 ∨ i = 2 ∨ i = 3 ∨ i = 4 ∨ i = 5 ∨ i = 6 ∨ i = 7 ∨ i = 8 ∨ i = 9 ∨ i = 10 ∨ i = 11 := by omega
  rcases h4 with rfl | rfl | rfl | rfl | rfl | rfl | rfl | rfl | rfl | rfl | rfl | rfl <;> exact h.cell _ _ rfl

theorem convZ {W : World} {g : Nat} (h : Blk W g (List.replicate 8 (.int .u8 0))) : (convert 42 9 (.slice (some ⟨g, 0, none⟩) 8 8)).run Try.prog W = .ok (.string (rep 0 8)) W := by
  refine run_convert_bytes_arg _ 42 5 Try.underlying42 Try.underlying5 g 0 8 8 (List.replicate 8 0) rfl (fun i hi => ?_) 9 Try.underlying9
  have h4 : i = 0 ∨ i = 1 ∨ i = 2 ∨ i = 3 ∨ i = 4 ∨ i = 5 ∨ i = 6 ∨ i = 7 := by omega
  rcases h4 with rfl | rfl | rfl | rfl | rfl | rfl | rfl | rfl <;> exact h.cell _ _ rfl
theorem par2_keep {w w' w2 : World} {g1 ga gb gc : Nat} {la lb lc : List Value} {a b c d : Value} (h : w'.cell? ⟨g1, 0, none⟩ = some a ∧ w'.cell? ⟨g1, 1, none⟩ = some b ∧ w'.cell? ⟨g1, 2, none⟩ = some c ∧ w'.cell? ⟨g1, 3, none⟩ = some d ∧ Blk w' ga la ∧ Blk w' gb lb ∧ Blk w' gc lc ∧ Below w.heap.size w w') (hb : Below w'.heap.size w' w2) :
    w2.cell? ⟨g1, 0, none⟩ = some a ∧ w2.cell? ⟨g1, 1, none⟩ = some b ∧ w2.cell? ⟨g1, 2, none⟩ = some c ∧ w2.cell? ⟨g1, 3, none⟩ = some d ∧ Blk w2 ga la ∧ Blk w2 gb lb ∧ Blk w2 gc lc ∧ Below w.heap.size w w2 := by
  obtain ⟨h0, h1, h2, h3, h4, h5, h6, h7⟩ := h
  exact ⟨below_cell hb h0, below_cell hb h1, below_cell hb h2, below_cell hb h3, h4.below hb, h5.below hb, h6.below hb, bthen h7 hb⟩
theorem dE_bd {a b c : Nat} (h : (dE a b c).2.2.2 = 0) : (0 ≤ (dE a b c).1 ∧ (dE a b c).1 ≤ 99) ∧ (0 ≤ (dE a b c).2.1 ∧ (dE a b c).2.1 ≤ 59) ∧ 0 ≤ (dE a b c).2.2.1 ∧ (dE a b c).2.2.1 ≤ 74 := by
  unfold dE at h ⊢
  by_cases q : (fb a).2 = 0 ∧ (fb b).2 = 0 ∧ (fb c).2 = 0 ∧ okM (fb a).1 (fb b).1 (fb c).1 = true
  · rw [if_pos q]
    have := q.2.2.2
    unfold okM at this
    have := of_decide_eq_true this
    exact ⟨⟨this.1, this.2.1⟩, ⟨this.2.2.1, this.2.2.2.1⟩, this.2.2.2.2.1, this.2.2.2.2.2⟩
  · rw [if_neg q] at h; exact absurd h (by decide)
theorem parse0 {r : ByteArray} (hk : kindE r = (0, 0)) : parseE r = if (decide ((dE (at_ r 12) (at_ r 13) (at_ r 14)).2.2.2 = 0) && ((r.extract 0 12).toList == syncS.toList) && ((r.extract 2068 2076).toList == (rep 0 8).toList)) = false then PR.no 10 else if chkB r = false then PR.no 9 else getP r 0 := by
  unfold parseE frontB restB adr
  rw [hk, if_neg (fun q => q rfl), if_pos rfl]

set_option maxRecDepth 20000 in
set_option maxHeartbeats 2000000 in
theorem Parse_m0 (r : ByteArray) (hk : kindE r = (0, 0)) (hs : r.size = 2352) (w : World) :
    Calls Try.prog 21 #[.string r] w fun e w' => e = .returned (parseE r).val ∧ Below w.heap.size w w' := by
  have HK : Hid (∀ w : World, Calls Try.prog 19 #[.string r] w fun e w' => e = .returned (.tuple #[.int .i64 0, .int .i64 0]) ∧ w = w') := fun w => by
    have := Kind_any r (by omega) w
    rwa [hk] at this
  have HL := hid (fun w => layouts_ok 0 1 16 2048 0 ⟨.inl ⟨rfl, rfl, rfl, rfl, rfl⟩⟩ w)
  have HE := hid (fun w => ledc_any 1 16 2048 0 (.inl rfl) (by omega) w)
  have HD := hid (fun w => Decode_any r hs w)
  have HC := hid (fun w => Check_any r (by omega) w)
  have i1 : (2064 : Int) ≤ (r.size : Int) := by omega
  have i2 : 2064 ≤ r.size := by omega
  have i3 : 16 ≤ r.size := by omega
  have i4 : (12 : Int) ≤ (r.size : Int) := by omega
  have i5 : 12 ≤ r.size := by omega
  have HP := hid (parse0 hk)
  have HG : Hid (getP r 0 = ⟨(60 * (dE (at_ r 12) (at_ r 13) (at_ r 14)).1 + (dE (at_ r 12) (at_ r 13) (at_ r 14)).2.1) * 75 + (dE (at_ r 12) (at_ r 13) (at_ r 14)).2.2.1 - 150, 0, 0, 0, 0, 0, r.extract 16 2064, 0⟩) := if_pos rfl
  have hbd : Hid ((dE (at_ r 12) (at_ r 13) (at_ r 14)).2.2.2 = 0 → _) := hid (dE_bd (a := at_ r 12) (b := at_ r 13) (c := at_ r 14))
  have HM : Hid (∀ w : World, (Instr.makeSlice 42 (.int .i64 8) (.int .i64 8)).run Try.prog w = .ok (.slice (some ⟨w.heap.size, 0, none⟩) 8 8) (w.alloc (.cells (Array.replicate 8 (.int .u8 0)) 5))) := fun w => mkZ 8 (by decide) w
  have HZ := hid (fun w => strZ 8 w)
  have HZ2 := hid (fun (W : World) (g : Nat) (h : Blk W g (List.replicate 8 (.int .u8 0))) => convZ h)
  have i6 : (2068 : Int) ≤ 2076 := by omega
  have iw : IntKind.i64.wrap 2068 = 2068 := IntWalk.i64_in _ (by omega)
  have i7 : (2076 : Int) ≤ (r.size : Int) := by omega
  have i8 : 2068 ≤ 2076 := by omega
  have i9 : 2076 ≤ r.size := by omega
  generalize rep 0 8 = Z8 at *
  generalize hCC : chkB r = CC at *
  generalize hx : (dE (at_ r 12) (at_ r 13) (at_ r 14)).1 = x at *
  generalize hy : (dE (at_ r 12) (at_ r 13) (at_ r 14)).2.1 = y at *
  generalize hq : (dE (at_ r 12) (at_ r 13) (at_ r 14)).2.2.1 = q at *
  generalize hE : (dE (at_ r 12) (at_ r 13) (at_ r 14)).2.2.2 = E at *
  go_enter Try.func21, Try.ntmps21
  go_wp2_with fail
  refine (HK.out _).mono ?_
  rintro e w1 ⟨rfl, rfl⟩
  go_wp2_with fail
  refine (HL.out _).mono ?_
  rintro e w1 ⟨rfl, hb⟩
  have R := (Blk.made w zero7 25).below hb
  have L : Below w.heap.size w w1 := by (repeat (first | exact Below.refl _ _ | assumption | refine balloc ?_ _ | refine bdrew ?_ | refine bdrN ?_ _ | refine bset _ (by first | omega | (simp; done) | (simp; omega)) ?_ | refine brow _ _ (by first | omega | (simp; done) | (simp; omega)) ?_ | (apply bthen; rotate_left; assumption)))
  clear hb
  go_wp2_with fail
  have B := Blk.made w1 [.int .u8 1, .int .i64 16, .int .i64 2048, .int .i64 0] 48
  replace R := R.alloc (.cells #[.int .u8 1, .int .i64 16, .int .i64 2048, .int .i64 0] 48)
  replace L := balloc L (.cells #[.int .u8 1, .int .i64 16, .int .i64 2048, .int .i64 0] 48)
  generalize w1.alloc (.cells #[.int .u8 1, .int .i64 16, .int .i64 2048, .int .i64 0] 48) = W at *
  generalize w1.heap.size = g1 at *
  have k0 := B.cell 0 _ rfl; have k1 := B.cell 1 _ rfl; have k2 := B.cell 2 _ rfl; have k3 := B.cell 3 _ rfl
  have hS := And.intro k0 (And.intro k1 (And.intro k2 (And.intro k3 (And.intro B (And.intro R L)))))
  have hsz : w.heap.size ≤ W.heap.size := L.size
  have hlt : w.heap.size < W.heap.size := R.lt
  clear B R L k0 k1 k2 k3
  go_region_held3 (fun w' => w'.cell? ⟨g1, 0, none⟩ = some (.int .u8 1) ∧ w'.cell? ⟨g1, 1, none⟩ = some (.int .i64 16) ∧ w'.cell? ⟨g1, 2, none⟩ = some (.int .i64 2048) ∧ w'.cell? ⟨g1, 3, none⟩ = some (.int .i64 0) ∧ Blk w' g1 [.int .u8 1, .int .i64 16, .int .i64 2048, .int .i64 0] ∧ Blk w' w.heap.size zero7 ∧ Below w.heap.size w w')
    (with_reducible first | exact par_keep hS (bset7 (Nat.le_refl _) hbW) | exact par_keep hS (balloc hbW _) | exact par_keep hS hbW | exact par_keep hS (bdrew (Below.refl _ _)) | exact par_keep hS (bdrew (balloc (Below.refl _ _) _)) | exact par_keep hS (balloc (bdrew (Below.refl _ _)) _))
    (first | (go_at_call 39; refine (HE.out _).mono ?_; rintro e w2 ⟨rfl, hb2⟩; have hbW := bthen (bdrew (balloc (Below.refl W.heap.size W) _)) hb2; have X2 := (Blk.made W zero7 25).drew.below hb2; have x0 := X2.cell 0 _ rfl; have x1 := X2.cell 1 _ rfl; have x2 := X2.cell 2 _ rfl; have x3 := X2.cell 3 _ rfl; have x4 := X2.cell 4 _ rfl; have x5 := X2.cell 5 _ rfl; have x6 := X2.cell 6 _ rfl; have f0 := X2.free 0 (by first | decide | simp); have f1 := X2.free 1 (by first | decide | simp); have f2 := X2.free 2 (by first | decide | simp); have f3 := X2.free 3 (by first | decide | simp); have f4 := X2.free 4 (by first | decide | simp); have f5 := X2.free 5 (by first | decide | simp); have f6 := X2.free 6 (by first | decide | simp)) | (go_at_call 39; refine (HE.out _).mono ?_; rintro e w2 ⟨rfl, hb2⟩; have hbW := bthen (bdrew (Below.refl W.heap.size W)) hb2))
  all_goals
    rename_i hh
    obtain ⟨-, -, -, -, B, R, L⟩ := hh
    have syn := hid (fun w => sync_any w)
    first
      | (have hne : ¬ (w.heap.size = W.heap.size) := by omega
         have hle : w.heap.size ≤ W.heap.size := hsz
         have X := blk7 (v0 := .int .i64 0) (v1 := .int .i64 0) (v2 := .int .i64 0) (v3 := .int .i64 0) (v4 := .int .i64 0) (v5 := .int .i64 0) (v6 := .string (r.extract 16 2064)) X2
         clear X2 hbW hb2 hS hsz hlt x0 f0 x1 f1 x2 f2 x3 f3 x4 f4 x5 f5 x6 f6
         generalize (((((((w2.setCell ⟨W.heap.size, 0, none⟩ (Value.int IntKind.i64 0)).setCell ⟨W.heap.size, 1, none⟩ (Value.int IntKind.i64 0)).setCell ⟨W.heap.size, 2, none⟩ (Value.int IntKind.i64 0)).setCell ⟨W.heap.size, 3, none⟩ (Value.int IntKind.i64 0)).setCell ⟨W.heap.size, 4, none⟩ (Value.int IntKind.i64 0)).setCell ⟨W.heap.size, 5, none⟩ (Value.int IntKind.i64 0)).setCell ⟨W.heap.size, 6, none⟩ (Value.string (r.extract 16 2064))) = W5 at *
         generalize W.heap.size = gx at *)
      | (have hne : ¬ (w.heap.size = w2.heap.size) := by have := hbW.size; omega
         have hle : w.heap.size ≤ w2.heap.size := by have := hbW.size; omega
         have X := Blk.made w2 [.int .i64 0, .int .i64 0, .int .i64 0, .int .i64 0, .int .i64 0, .int .i64 0, .string (r.extract 16 2064)] 25
         clear hbW hb2 hS hsz hlt
         generalize w2.alloc (Obj.cells #[Value.int IntKind.i64 0, Value.int IntKind.i64 0, Value.int IntKind.i64 0, Value.int IntKind.i64 0, Value.int IntKind.i64 0, Value.int IntKind.i64 0, Value.string (r.extract 16 2064)] 25) = W5 at *
         generalize w2.heap.size = gx at *)
    go_wp2_with fail
    refine (HD.out _).mono ?_
    rintro e w6 ⟨rfl, hb⟩
    replace B := B.below hb; replace R := R.below hb; replace X := X.below hb; replace L := bthen L hb
    clear hb
    go_wp2_with fail
    have M := Blk.made w6 [.int .i64 x, .int .i64 y, .int .i64 q] 52
    replace B := B.alloc (.cells #[.int .i64 x, .int .i64 y, .int .i64 q] 52); replace R := R.alloc (.cells #[.int .i64 x, .int .i64 y, .int .i64 q] 52); replace X := X.alloc (.cells #[.int .i64 x, .int .i64 y, .int .i64 q] 52); replace L := balloc L (.cells #[.int .i64 x, .int .i64 y, .int .i64 q] 52)
    generalize w6.alloc (Obj.cells #[Value.int IntKind.i64 x, Value.int IntKind.i64 y, Value.int IntKind.i64 q] 52) = W6 at *
    generalize w6.heap.size = gm at *
    refine (syn.out _).mono ?_
    rintro e w7 ⟨rfl, hb⟩
    replace B := B.below hb; replace R := R.below hb; replace X := X.below hb; replace M := M.below hb; replace L := bthen L hb
    clear hb
    unfold syncV
    go_wp2_with fail
    have Y := Blk.made w7 syncL 56
    unfold syncL at Y
    replace B := B.alloc (.cells #[.int .u8 0, .int .u8 255, .int .u8 255, .int .u8 255, .int .u8 255, .int .u8 255, .int .u8 255, .int .u8 255, .int .u8 255, .int .u8 255, .int .u8 255, .int .u8 0] 56); replace R := R.alloc (.cells #[.int .u8 0, .int .u8 255, .int .u8 255, .int .u8 255, .int .u8 255, .int .u8 255, .int .u8 255, .int .u8 255, .int .u8 255, .int .u8 255, .int .u8 255, .int .u8 0] 56); replace X := X.alloc (.cells #[.int .u8 0, .int .u8 255, .int .u8 255, .int .u8 255, .int .u8 255, .int .u8 255, .int .u8 255, .int .u8 255, .int .u8 255, .int .u8 255, .int .u8 255, .int .u8 0] 56); replace M := M.alloc (.cells #[.int .u8 0, .int .u8 255, .int .u8 255, .int .u8 255, .int .u8 255, .int .u8 255, .int .u8 255, .int .u8 255, .int .u8 255, .int .u8 255, .int .u8 255, .int .u8 0] 56); replace L := balloc L (.cells #[.int .u8 0, .int .u8 255, .int .u8 255, .int .u8 255, .int .u8 255, .int .u8 255, .int .u8 255, .int .u8 255, .int .u8 255, .int .u8 255, .int .u8 255, .int .u8 0] 56)
    generalize w7.alloc (Obj.cells #[Value.int IntKind.u8 0, Value.int IntKind.u8 255, Value.int IntKind.u8 255, Value.int IntKind.u8 255, Value.int IntKind.u8 255, Value.int IntKind.u8 255, Value.int IntKind.u8 255, Value.int IntKind.u8 255, Value.int IntKind.u8 255, Value.int IntKind.u8 255, Value.int IntKind.u8 255, Value.int IntKind.u8 0] 56) = W8 at *
    generalize w7.heap.size = gy at *
    have K := fun n => conv12 (Y.drewN n)
    generalize hZ : syncS = Z at *
    by_cases hE0 : E = 0
    · have e1 : (E == 0) = true := beq_iff_eq.2 hE0
      obtain ⟨b1, b2, b3⟩ := hbd.out hE0
      have HT := hid (fun w => ToLBA_ok x y q b1 b2 b3 w)
      have hne2 : ¬ (gx = w.heap.size) := fun h => hne h.symm
      by_cases hS0 : ((r.extract 0 12).toList == Z.toList) = true
      · go_quiet (fail)
        go_wp2_with fail
        replace R := R.drewN nq; replace L := bdrN L nq; replace B := B.drewN nq; replace X := X.drewN nq; replace M := M.drewN nq
        clear Y K
        generalize W8.drewN nq = W9 at *
        have k0 := B.cell 0 _ rfl; have k1 := B.cell 1 _ rfl; have k2 := B.cell 2 _ rfl; have k3 := B.cell 3 _ rfl
        clear B
        by_cases hR0 : ((r.extract 2068 2076).toList == Z8.toList) = true
        · have hS := And.intro k0 (And.intro k1 (And.intro k2 (And.intro k3 (And.intro R (And.intro X (And.intro M L))))))
          have hM := HM.out
          have hZ0 := HZ.out
          have hZ1 : (convert 42 9 (.slice (some ⟨W9.heap.size, 0, none⟩) 8 8)).run Try.prog ((W9.alloc (.cells (Array.replicate 8 (.int .u8 0)) 5)).drew) = .ok (.string Z8) ((W9.alloc (.cells (Array.replicate 8 (.int .u8 0)) 5)).drew) := HZ2.out _ _ (Blk.made W9 (List.replicate 8 (.int .u8 0)) 5).drew
          clear k0 k1 k2 k3 R X M L
          go_region_held (fun w' => w'.cell? ⟨g1, 0, none⟩ = some (.int .u8 1) ∧ w'.cell? ⟨g1, 1, none⟩ = some (.int .i64 16) ∧ w'.cell? ⟨g1, 2, none⟩ = some (.int .i64 2048) ∧ w'.cell? ⟨g1, 3, none⟩ = some (.int .i64 0) ∧ Blk w' w.heap.size zero7 ∧ Blk w' gx [.int .i64 0, .int .i64 0, .int .i64 0, .int .i64 0, .int .i64 0, .int .i64 0, .string (r.extract 16 2064)] ∧ Blk w' gm [.int .i64 x, .int .i64 y, .int .i64 q] ∧ Below w.heap.size w w')
            (with_reducible first | exact par2_keep hS (balloc hbW _) | exact par2_keep hS hbW | exact par2_keep hS (bdrew (Below.refl _ _)) | exact par2_keep hS (bdrew (balloc (Below.refl _ _) _)) | exact par2_keep hS (balloc (bdrew (Below.refl _ _)) _))
            (first | (go_at_call 39; refine (HE.out _).mono ?_; rintro e w2 ⟨rfl, hb2⟩; have hbW := bthen (bdrew (balloc (Below.refl W9.heap.size W9) _)) hb2; have Z2 := HZ2.out _ _ ((Blk.made W9 (List.replicate 8 (.int .u8 0)) 5).drew.below hb2)) | (go_at_call 39; refine (HE.out _).mono ?_; rintro e w2 ⟨rfl, hb2⟩; have hbW := bthen (bdrew (Below.refl W9.heap.size W9)) hb2))
          all_goals
            rename_i hh
            obtain ⟨-, -, -, -, R, X, M, L⟩ := hh
            first
              | (clear Z2 hbW hb2 hS hM hZ0 hZ1
                 generalize w2 = W10 at *)
              | (clear hbW hb2 hS hM hZ0 hZ1
                 generalize w2.alloc (Obj.cells (Array.replicate 8 (Value.int IntKind.u8 0)) 5) = W10 at *)
            go_wp2_with fail
            refine (HC.out _).mono ?_
            rintro e w11 ⟨rfl, hb⟩
            replace R := R.below hb; replace X := X.below hb; replace M := M.below hb; replace L := bthen L hb
            clear hb
            by_cases hC0 : CC = true
            · subst hC0
              have mc0 := M.cell 0 _ rfl; have mc1 := M.cell 1 _ rfl; have mc2 := M.cell 2 _ rfl
              go_wp2_with fail
              refine (HT.out _).mono ?_
              rintro e w12 ⟨rfl, hb⟩
              replace R := R.below hb; replace X := X.below hb; replace L := bthen L hb
              clear hb M mc0 mc1 mc2
              have xc0 := X.cell 0 _ rfl; have xc1 := X.cell 1 _ rfl; have xc2 := X.cell 2 _ rfl; have xc3 := X.cell 3 _ rfl; have xc4 := X.cell 4 _ rfl; have xc5 := X.cell 5 _ rfl; have xc6 := X.cell 6 _ rfl; have xf0 := X.free 0 (by first | decide | simp); have xf1 := X.free 1 (by first | decide | simp); have xf2 := X.free 2 (by first | decide | simp); have xf3 := X.free 3 (by first | decide | simp); have xf4 := X.free 4 (by first | decide | simp); have xf5 := X.free 5 (by first | decide | simp); have xf6 := X.free 6 (by first | decide | simp); have rc0 := R.cell 0 _ rfl; have rc1 := R.cell 1 _ rfl; have rc2 := R.cell 2 _ rfl; have rc3 := R.cell 3 _ rfl; have rc4 := R.cell 4 _ rfl; have rc5 := R.cell 5 _ rfl; have rc6 := R.cell 6 _ rfl; have rf0 := R.free 0 (by first | decide | simp); have rf1 := R.free 1 (by first | decide | simp); have rf2 := R.free 2 (by first | decide | simp); have rf3 := R.free 3 (by first | decide | simp); have rf4 := R.free 4 (by first | decide | simp); have rf5 := R.free 5 (by first | decide | simp); have rf6 := R.free 6 (by first | decide | simp)
              clear X R
              go_wp2_with fail
              refine bodyPost_ret (v := (PR.mk ((60 * x + y) * 75 + q - 150) 0 0 0 0 0 (r.extract 16 2064) 0).val) (by simp [results, Try.results21, go_sem, PR.no, PR.val, *]) rfl ⟨by rw [HP.out, decide_eq_true hE0, hS0, hR0, if_neg (by decide), if_neg (by decide), HG.out], ?_⟩
              (repeat (with_reducible first | exact Below.refl _ _ | assumption | refine balloc ?_ _ | refine bdrew ?_ | refine bdrN ?_ _ | refine bset _ (by first | omega | (simp; done) | (simp; omega)) ?_ | refine brow _ _ (by first | omega | (simp; done) | (simp; omega)) ?_))
            · replace hC0 : CC = false := by simpa using hC0
              subst hC0
              have rc0 := R.cell 0 _ rfl; have rc1 := R.cell 1 _ rfl; have rc2 := R.cell 2 _ rfl; have rc3 := R.cell 3 _ rfl; have rc4 := R.cell 4 _ rfl; have rc5 := R.cell 5 _ rfl; have rc6 := R.cell 6 _ rfl; have rf0 := R.free 0 (by first | decide | simp); have rf1 := R.free 1 (by first | decide | simp); have rf2 := R.free 2 (by first | decide | simp); have rf3 := R.free 3 (by first | decide | simp); have rf4 := R.free 4 (by first | decide | simp); have rf5 := R.free 5 (by first | decide | simp); have rf6 := R.free 6 (by first | decide | simp)
              clear X R
              go_wp2_with fail
              refine bodyPost_ret (v := (PR.no 9).val) (by simp [results, Try.results21, go_sem, PR.no, PR.val, *]) rfl ⟨by rw [HP.out, decide_eq_true hE0, hS0, hR0, if_neg (by decide)]; rfl, ?_⟩
              (repeat (with_reducible first | exact Below.refl _ _ | assumption | refine balloc ?_ _ | refine bdrew ?_ | refine bdrN ?_ _ | refine bset _ (by first | omega | (simp; done) | (simp; omega)) ?_ | refine brow _ _ (by first | omega | (simp; done) | (simp; omega)) ?_))
        · replace hR0 : ((r.extract 2068 2076).toList == Z8.toList) = false := by simpa using hR0
          have hS := And.intro k0 (And.intro k1 (And.intro k2 (And.intro k3 (And.intro R (And.intro X (And.intro M L))))))
          have hM := HM.out
          have hZ0 := HZ.out
          have hZ1 : (convert 42 9 (.slice (some ⟨W9.heap.size, 0, none⟩) 8 8)).run Try.prog ((W9.alloc (.cells (Array.replicate 8 (.int .u8 0)) 5)).drew) = .ok (.string Z8) ((W9.alloc (.cells (Array.replicate 8 (.int .u8 0)) 5)).drew) := HZ2.out _ _ (Blk.made W9 (List.replicate 8 (.int .u8 0)) 5).drew
          clear k0 k1 k2 k3 R X M L
          go_region_held (fun w' => w'.cell? ⟨g1, 0, none⟩ = some (.int .u8 1) ∧ w'.cell? ⟨g1, 1, none⟩ = some (.int .i64 16) ∧ w'.cell? ⟨g1, 2, none⟩ = some (.int .i64 2048) ∧ w'.cell? ⟨g1, 3, none⟩ = some (.int .i64 0) ∧ Blk w' w.heap.size zero7 ∧ Blk w' gx [.int .i64 0, .int .i64 0, .int .i64 0, .int .i64 0, .int .i64 0, .int .i64 0, .string (r.extract 16 2064)] ∧ Blk w' gm [.int .i64 x, .int .i64 y, .int .i64 q] ∧ Below w.heap.size w w')
            (with_reducible first | exact par2_keep hS (balloc hbW _) | exact par2_keep hS hbW | exact par2_keep hS (bdrew (Below.refl _ _)) | exact par2_keep hS (bdrew (balloc (Below.refl _ _) _)) | exact par2_keep hS (balloc (bdrew (Below.refl _ _)) _))
            (first | (go_at_call 39; refine (HE.out _).mono ?_; rintro e w2 ⟨rfl, hb2⟩; have hbW := bthen (bdrew (balloc (Below.refl W9.heap.size W9) _)) hb2; have Z2 := HZ2.out _ _ ((Blk.made W9 (List.replicate 8 (.int .u8 0)) 5).drew.below hb2)) | (go_at_call 39; refine (HE.out _).mono ?_; rintro e w2 ⟨rfl, hb2⟩; have hbW := bthen (bdrew (Below.refl W9.heap.size W9)) hb2))
          all_goals
            rename_i hh
            obtain ⟨-, -, -, -, R, X, M, L⟩ := hh
            first
              | (clear Z2 hbW hb2 hS hM hZ0 hZ1
                 generalize w2 = W10 at *)
              | (clear hbW hb2 hS hM hZ0 hZ1
                 generalize w2.alloc (Obj.cells (Array.replicate 8 (Value.int IntKind.u8 0)) 5) = W10 at *)
            have rc0 := R.cell 0 _ rfl; have rc1 := R.cell 1 _ rfl; have rc2 := R.cell 2 _ rfl; have rc3 := R.cell 3 _ rfl; have rc4 := R.cell 4 _ rfl; have rc5 := R.cell 5 _ rfl; have rc6 := R.cell 6 _ rfl; have rf0 := R.free 0 (by first | decide | simp); have rf1 := R.free 1 (by first | decide | simp); have rf2 := R.free 2 (by first | decide | simp); have rf3 := R.free 3 (by first | decide | simp); have rf4 := R.free 4 (by first | decide | simp); have rf5 := R.free 5 (by first | decide | simp); have rf6 := R.free 6 (by first | decide | simp)
            clear X R
            go_wp2_with fail
            refine bodyPost_ret (v := (PR.no 10).val) (by simp [results, Try.results21, go_sem, PR.no, PR.val, *]) rfl ⟨by rw [HP.out, decide_eq_true hE0, hS0, hR0]; rfl, ?_⟩
            (repeat (with_reducible first | exact Below.refl _ _ | assumption | refine balloc ?_ _ | refine bdrew ?_ | refine bdrN ?_ _ | refine bset _ (by first | omega | (simp; done) | (simp; omega)) ?_ | refine brow _ _ (by first | omega | (simp; done) | (simp; omega)) ?_))
      · replace hS0 : ((r.extract 0 12).toList == Z.toList) = false := by simpa using hS0
        go_quiet (fail)
        go_wp2_with fail
        replace R := R.drewN nq; replace L := bdrN L nq
        clear B X M Y K
        generalize W8.drewN nq = W9 at *
        have rc0 := R.cell 0 _ rfl; have rc1 := R.cell 1 _ rfl; have rc2 := R.cell 2 _ rfl; have rc3 := R.cell 3 _ rfl; have rc4 := R.cell 4 _ rfl; have rc5 := R.cell 5 _ rfl; have rc6 := R.cell 6 _ rfl; have rf0 := R.free 0 (by first | decide | simp); have rf1 := R.free 1 (by first | decide | simp); have rf2 := R.free 2 (by first | decide | simp); have rf3 := R.free 3 (by first | decide | simp); have rf4 := R.free 4 (by first | decide | simp); have rf5 := R.free 5 (by first | decide | simp); have rf6 := R.free 6 (by first | decide | simp)
        go_quiet (fail)
        go_wp2_with fail
        refine bodyPost_ret (v := (PR.no 10).val) (by simp [results, Try.results21, go_sem, PR.no, PR.val, *]) rfl ⟨by rw [HP.out, decide_eq_true hE0, hS0]; rfl, ?_⟩
        (repeat (with_reducible first | exact Below.refl _ _ | assumption | refine balloc ?_ _ | refine bdrew ?_ | refine bdrN ?_ _ | refine bset _ (by first | omega | (simp; done) | (simp; omega)) ?_ | refine brow _ _ (by first | omega | (simp; done) | (simp; omega)) ?_))
    · have e1 : (E == 0) = false := beq_eq_false_iff_ne.2 hE0
      go_quiet (fail)
      go_wp2_with fail
      replace R := R.drewN nq; replace L := bdrN L nq
      clear B X M Y K
      generalize W8.drewN nq = W9 at *
      have rc0 := R.cell 0 _ rfl; have rc1 := R.cell 1 _ rfl; have rc2 := R.cell 2 _ rfl; have rc3 := R.cell 3 _ rfl; have rc4 := R.cell 4 _ rfl; have rc5 := R.cell 5 _ rfl; have rc6 := R.cell 6 _ rfl; have rf0 := R.free 0 (by first | decide | simp); have rf1 := R.free 1 (by first | decide | simp); have rf2 := R.free 2 (by first | decide | simp); have rf3 := R.free 3 (by first | decide | simp); have rf4 := R.free 4 (by first | decide | simp); have rf5 := R.free 5 (by first | decide | simp); have rf6 := R.free 6 (by first | decide | simp)
      go_quiet (fail)
      go_wp2_with fail
      refine bodyPost_ret (v := (PR.no 10).val) (by simp [results, Try.results21, go_sem, PR.no, PR.val, *]) rfl ⟨by rw [HP.out, decide_eq_false hE0]; rfl, ?_⟩
      (repeat (with_reducible first | exact Below.refl _ _ | assumption | refine balloc ?_ _ | refine bdrew ?_ | refine bdrN ?_ _ | refine bset _ (by first | omega | (simp; done) | (simp; omega)) ?_ | refine brow _ _ (by first | omega | (simp; done) | (simp; omega)) ?_))
end Go.Proofs.Ytieblfpdibpeeaa

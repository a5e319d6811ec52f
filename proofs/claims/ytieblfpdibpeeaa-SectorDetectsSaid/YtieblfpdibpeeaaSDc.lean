/-
  The walk of the law SectorDetects.
-/
import Derived.Test.YtieblfpdibpeeaaSDb
namespace Go.Proofs.Ytieblfpdibpeeaa
open Go.RowKit Go.Lib
set_option linter.unusedVariables false
set_option linter.unusedSimpArgs false

set_option maxRecDepth 20000 in
set_option maxHeartbeats 1000000 in
theorem detects_no (l m f c s k : Int) (x : ByteArray) (p q : Int) (hl : -9223372036854775808 ≤ l ∧ l ≤ 9223372036854775807) (h : vB l m f c s k x.size = false ∨ q = 0) (w : World) :
    Calls Try.prog 9 #[.agg #[.int .i64 l, .int .i64 m, .int .i64 f, .int .i64 c, .int .i64 s, .int .i64 k, .string x], .int .u16 p, .int .u32 q] w fun e w' => e = .returned (.bool true) ∧ Below w.heap.size w w' := by
  have HA := hid (fun w => Build_wide l m f c s k x hl w)
  by_cases hv : vB l m f c s k x.size = true
  · rw [show buildE l m f c s k x = (buildS l m f c s k x, 0) from if_pos hv] at HA
    have h0 : q = 0 := by rcases h with h | h
                          · rw [h] at hv; exact absurd hv (by decide)
                          · exact h
    subst h0
    generalize buildS l m f c s k x = S at *
    clear hv hl h
    go_enter Try.func9, Try.ntmps9
    go_wp2_with fail
    refine (awake_any _).mono ?_
    rintro e w1 ⟨rfl, hb⟩
    have X := (Blk.made w [.int .i64 l, .int .i64 m, .int .i64 f, .int .i64 c, .int .i64 s, .int .i64 k, .string x] 25).below hb
    have L : Below w.heap.size w w1 := bthen (balloc (Below.refl _ _) _) hb
    clear hb
    have x0 := X.cell 0 _ rfl; have x1 := X.cell 1 _ rfl; have x2 := X.cell 2 _ rfl; have x3 := X.cell 3 _ rfl; have x4 := X.cell 4 _ rfl; have x5 := X.cell 5 _ rfl; have x6 := X.cell 6 _ rfl
    go_wp2_with fail
    refine (HA.out _).mono ?_
    rintro e w2 ⟨rfl, hb⟩
    go_wp2_with fail
    go_ret
    exact ⟨rfl, bthen L hb⟩
  · rw [show buildE l m f c s k x = ({ data := #[] }, 1) from if_neg hv] at HA
    clear hv hl h
    go_enter Try.func9, Try.ntmps9
    go_wp2_with fail
    refine (awake_any _).mono ?_
    rintro e w1 ⟨rfl, hb⟩
    have X := (Blk.made w [.int .i64 l, .int .i64 m, .int .i64 f, .int .i64 c, .int .i64 s, .int .i64 k, .string x] 25).below hb
    have L : Below w.heap.size w w1 := bthen (balloc (Below.refl _ _) _) hb
    clear hb
    have x0 := X.cell 0 _ rfl; have x1 := X.cell 1 _ rfl; have x2 := X.cell 2 _ rfl; have x3 := X.cell 3 _ rfl; have x4 := X.cell 4 _ rfl; have x5 := X.cell 5 _ rfl; have x6 := X.cell 6 _ rfl
    go_wp2_with fail
    refine (HA.out _).mono ?_
    rintro e w2 ⟨rfl, hb⟩
    go_wp2_with fail
    go_ret
    exact ⟨rfl, bthen L hb⟩

set_option maxRecDepth 100000 in
set_option maxHeartbeats 2000000 in
theorem detects_yes (l m ff cc ss kk : Int) (xx : ByteArray) (a1 : Int) (c o N e : Nat) (S : ByteArray) (b1 : 0 ≤ a1 ∧ a1 ≤ 65535) (b2 : c < 4294967296) (c0 : 0 < c)
    (HA : Hid (∀ w : World, Calls Try.prog 11 #[.agg #[.int .i64 l, .int .i64 m, .int .i64 ff, .int .i64 cc, .int .i64 ss, .int .i64 kk, .string xx]] w fun e w' => e = .returned (.tuple #[.string S, .int .i64 0]) ∧ Below w.heap.size w w'))
    (HS : Hid (∀ w : World, Calls Try.prog 17 #[.int .i64 m] w fun e w' => e = .returned (.tuple #[.int .i64 (o : Int), .int .i64 (N : Int), .int .i64 0]) ∧ Below w.heap.size w w'))
    (hs : S.size = 2352) (hN : 4 ≤ N) (he : o + N = e) (he2 : e + 4 ≤ 2352) (hr : rightB S o e = true)
    (hk9 : ∀ R : ByteArray, kindE R = (m, 0) → chkB R = rightB R o e) (w : World) :
    Calls Try.prog 9 #[.agg #[.int .i64 l, .int .i64 m, .int .i64 ff, .int .i64 cc, .int .i64 ss, .int .i64 kk, .string xx], .int .u16 a1, .int .u32 (c : Int)] w fun e w' => e = .returned (.bool true) ∧ Below w.heap.size w w' := by
  have d1 : ((c : Int) == 0) = false := by rw [beq_eq_false_iff_ne]; omega
  have z1 : ((S.size : Int) != 2352) = false := by rw [hs]; rfl
  have d2 : decide ((N : Int) < 4) = false := decide_eq_false (by omega)
  have d3 : decide ((o : Int) < 0) = false := decide_eq_false (by omega)
  have i1 : IntKind.i64.wrap ((o : Int) + (N : Int)) = (e : Int) := by rw [show (o : Int) + (N : Int) = (e : Int) by omega]; exact IntWalk.i64_in _ (by omega)
  have d4 : ¬ (S.size < e) := by omega
  obtain ⟨k1, hk1⟩ : ∃ k1 : Nat, (k1 : Int) = a1 % ((N : Int) - 3) := ⟨(a1 % ((N : Int) - 3)).toNat, by have := Int.emod_nonneg a1 (show ((N : Int) - 3) ≠ 0 by omega); omega⟩
  have kl1 : k1 + 3 < N := by have := Int.emod_lt_of_pos a1 (show 0 < ((N : Int) - 3) by omega); omega
  obtain ⟨k, hk⟩ : ∃ k : Nat, o + k1 = k := ⟨_, rfl⟩
  have i2 : IntKind.i64.wrap ((N : Int) - 3) = (N : Int) - 3 := IntWalk.i64_in _ (by omega)
  have i3 : IntKind.i64.wrap ((o : Int) + (k1 : Int)) = (k : Int) := by rw [show (o : Int) + (k1 : Int) = (k : Int) by omega]; exact IntWalk.i64_in _ (by omega)
  have kl : k + 3 < S.size := by omega
  have kb : k ≤ 2352 := by omega
  obtain ⟨v0, v1, v2, v3, I⟩ := det_in S k c o e b2 c0 (by omega) (by omega) (by omega) hr
  have J := hid I
  have hz5 : (chg S k c v0 v1 v2 v3).size = 2352 := I.size.trans hs
  have HKi := hid (fun w => Kind_any (chg S k c v0 v1 v2 v3) (by omega) w)
  have HPa := hid (fun w => Parse_any (chg S k c v0 v1 v2 v3) (by omega) w)
  have HCh := hid (fun w => Check_any (chg S k c v0 v1 v2 v3) (by omega) w)
  have hbad : kindE (chg S k c v0 v1 v2 v3) = (m, 0) → chkB (chg S k c v0 v1 v2 v3) = false := fun h => by rw [hk9 _ h]; exact I.bad
  have hno : chkB (chg S k c v0 v1 v2 v3) = false → (parseE (chg S k c v0 v1 v2 v3)).e ≠ 0 := fun h h2 => by
    have := (parse_ok h2).2.2.2.1
    rw [h] at this; exact absurd this (by decide)
  have HBad := hid hbad
  have HNo := hid hno
  have KS := hid (Try.conv_sb S)
  have K := Try.conv_sb S
  have hs2 := hid hs
  clear I hbad hno hr hk9 hs hN he hz5
  go_enter Try.func9, Try.ntmps9
  go_wp2_with fail
  refine (awake_any _).mono ?_
  rintro e w1 ⟨rfl, hb⟩
  have X := (Blk.made w [.int .i64 l, .int .i64 m, .int .i64 ff, .int .i64 cc, .int .i64 ss, .int .i64 kk, .string xx] 25).below hb
  have L : Below w.heap.size w w1 := bthen (balloc (Below.refl _ _) _) hb
  clear hb
  have x0 := X.cell 0 _ rfl; have x1 := X.cell 1 _ rfl; have x2 := X.cell 2 _ rfl; have x3 := X.cell 3 _ rfl; have x4 := X.cell 4 _ rfl; have x5 := X.cell 5 _ rfl; have x6 := X.cell 6 _ rfl
  go_wp2_with fail
  refine (HA.out _).mono ?_
  rintro e w2 ⟨rfl, hb⟩
  replace X := X.below hb
  replace L := bthen L hb
  clear hb x0 x1 x2 x3 x4 x5 x6
  have x0 := X.cell 0 _ rfl; have x1 := X.cell 1 _ rfl; have x2 := X.cell 2 _ rfl; have x3 := X.cell 3 _ rfl; have x4 := X.cell 4 _ rfl; have x5 := X.cell 5 _ rfl; have x6 := X.cell 6 _ rfl
  go_wp2_with fail
  refine (HS.out _).mono ?_
  clear x0 x1 x2 x3 x4 x5 x6
  rintro e w2 ⟨rfl, hb⟩
  replace X := X.below hb
  replace L := bthen L hb
  clear hb
  go_wp2_with fail
  rw [← hk1, show (o : Int) + (k1 : Int) = (k : Int) by omega]
  obtain ⟨M0, B0, M3⟩ := isB_made w2 S
  generalize grownCap w2 S.size 0 5 = cap
  generalize bytesWorld w2 5 S = W0 at M0 B0 M3 ⊢
  have M3' : w2.heap.size < W0.heap.size := by omega
  clear hk1 kl1 hk i1 i2 i3 K d1 d2 d3 d4 z1 M3 b1 he2
  refine wp_loop_rounds 5 ?_
  have x0 : W0.cell? ⟨w2.heap.size, k, none⟩ = some (.int .u8 (v0 : Int)) := by
    rw [M0.cell (k) (by omega)]
    have : ((bys S)).getD (k) 0 = (v0 : Int) := by rw [← J.out.g0]
    rw [this]
  have y0 := M0.free (k) (by omega)
  rw [rounds_succ]
  go_wp2_with fail
  go_region
  have M1 := (M0.set (k) (by omega) (bits BinOp.xor IntKind.u8 (v0 : Int) ((c : Int) % 256))).drew
  have B1 : Below w2.heap.size w2 ((W0.setCell ⟨w2.heap.size, k, none⟩ (.int .u8 (bits BinOp.xor IntKind.u8 (v0 : Int) ((c : Int) % 256)))).drew) := (B0.setCell (Nat.le_refl _) _).drew
  clear x0 y0 M0 B0
  generalize (W0.setCell ⟨w2.heap.size, k, none⟩ (.int .u8 (bits BinOp.xor IntKind.u8 (v0 : Int) ((c : Int) % 256)))).drew = W1 at M1 B1 ⊢
  go_wp2_with fail
  have x1 : W1.cell? ⟨w2.heap.size, k + 1, none⟩ = some (.int .u8 (v1 : Int)) := by
    rw [M1.cell (k + 1) (by omega)]
    have : (((bys S).set (k) (bits BinOp.xor IntKind.u8 (v0 : Int) ((c : Int) % 256)))).getD (k + 1) 0 = (v1 : Int) := by rw [← J.out.g1]; simp [List.getD_eq_getElem?_getD, List.getElem?_set]
    rw [this]
  have y1 := M1.free (k + 1) (by omega)
  rw [rounds_succ]
  go_wp2_with fail
  go_region
  have M2 := (M1.set (k + 1) (by omega) (bits BinOp.xor IntKind.u8 (v1 : Int) ((c : Int) / 256 % 256))).drew
  have B2 : Below w2.heap.size w2 ((W1.setCell ⟨w2.heap.size, k + 1, none⟩ (.int .u8 (bits BinOp.xor IntKind.u8 (v1 : Int) ((c : Int) / 256 % 256)))).drew) := (B1.setCell (Nat.le_refl _) _).drew
  clear x1 y1 M1 B1
  generalize (W1.setCell ⟨w2.heap.size, k + 1, none⟩ (.int .u8 (bits BinOp.xor IntKind.u8 (v1 : Int) ((c : Int) / 256 % 256)))).drew = W2 at M2 B2 ⊢
  go_wp2_with fail
  have x2 : W2.cell? ⟨w2.heap.size, k + 2, none⟩ = some (.int .u8 (v2 : Int)) := by
    rw [M2.cell (k + 2) (by omega)]
    have : ((((bys S).set (k) (bits BinOp.xor IntKind.u8 (v0 : Int) ((c : Int) % 256))).set (k + 1) (bits BinOp.xor IntKind.u8 (v1 : Int) ((c : Int) / 256 % 256)))).getD (k + 2) 0 = (v2 : Int) := by rw [← J.out.g2]; simp [List.getD_eq_getElem?_getD, List.getElem?_set]
    rw [this]
  have y2 := M2.free (k + 2) (by omega)
  rw [rounds_succ]
  go_wp2_with fail
  go_region
  have M3 := (M2.set (k + 2) (by omega) (bits BinOp.xor IntKind.u8 (v2 : Int) ((c : Int) / 65536 % 256))).drew
  have B3 : Below w2.heap.size w2 ((W2.setCell ⟨w2.heap.size, k + 2, none⟩ (.int .u8 (bits BinOp.xor IntKind.u8 (v2 : Int) ((c : Int) / 65536 % 256)))).drew) := (B2.setCell (Nat.le_refl _) _).drew
  clear x2 y2 M2 B2
  generalize (W2.setCell ⟨w2.heap.size, k + 2, none⟩ (.int .u8 (bits BinOp.xor IntKind.u8 (v2 : Int) ((c : Int) / 65536 % 256)))).drew = W3 at M3 B3 ⊢
  go_wp2_with fail
  have x3 : W3.cell? ⟨w2.heap.size, k + 3, none⟩ = some (.int .u8 (v3 : Int)) := by
    rw [M3.cell (k + 3) (by omega)]
    have : (((((bys S).set (k) (bits BinOp.xor IntKind.u8 (v0 : Int) ((c : Int) % 256))).set (k + 1) (bits BinOp.xor IntKind.u8 (v1 : Int) ((c : Int) / 256 % 256))).set (k + 2) (bits BinOp.xor IntKind.u8 (v2 : Int) ((c : Int) / 65536 % 256)))).getD (k + 3) 0 = (v3 : Int) := by rw [← J.out.g3]; simp [List.getD_eq_getElem?_getD, List.getElem?_set]
    rw [this]
  have y3 := M3.free (k + 3) (by omega)
  rw [rounds_succ]
  go_wp2_with fail
  go_region
  have M4 := (M3.set (k + 3) (by omega) (bits BinOp.xor IntKind.u8 (v3 : Int) ((c : Int) / 16777216))).drew
  have B4 : Below w2.heap.size w2 ((W3.setCell ⟨w2.heap.size, k + 3, none⟩ (.int .u8 (bits BinOp.xor IntKind.u8 (v3 : Int) ((c : Int) / 16777216)))).drew) := (B3.setCell (Nat.le_refl _) _).drew
  clear x3 y3 M3 B3
  generalize (W3.setCell ⟨w2.heap.size, k + 3, none⟩ (.int .u8 (bits BinOp.xor IntKind.u8 (v3 : Int) ((c : Int) / 16777216)))).drew = W4 at M4 B4 ⊢
  go_wp2_with fail
  have K2 : (convert 42 9 (.slice (some ⟨w2.heap.size, 0, none⟩) S.size cap)).run Try.prog W4 = .ok (.string (chg S k c v0 v1 v2 v3)) W4 := Try.conv_bs (cap := cap) M4
  replace X := X.below B4
  replace L := bthen L B4
  have H4 : w2.heap.size < W4.heap.size := World.block_lt_of_cell? _ _ (M4.cell k (by omega))
  generalize hRR : chg S k c v0 v1 v2 v3 = R at *
  have HR := hid hRR
  clear hRR
  by_cases h1 : (kindE R).2 = 0
  · have e1 : ((kindE R).2 != 0) = false := by rw [h1]; rfl
    by_cases h2 : (kindE R).1 = m
    · have e2 : ((kindE R).1 != m) = false := by rw [h2]; exact bne_self_eq_false m
      have cB := HBad.out (Prod.ext h2 h1)
      have eP := HNo.out cB
      have HC2 : Hid (∀ w : World, Calls Try.prog 23 #[.string R] w fun e w' => e = .returned (.bool false) ∧ Below w.heap.size w w') := fun w => by
        have := HCh.out w
        rwa [cB] at this
      obtain ⟨l2, m2, f2, c2, s2, k2, d2, E, hP⟩ : ∃ l m f c s k d E, parseE R = ⟨l, m, f, c, s, k, d, E⟩ := ⟨_, _, _, _, _, _, _, _, rfl⟩
      have H3 : Hid (∀ w : World, Calls Try.prog 21 #[.string R] w fun e w' => e = .returned (.tuple #[.agg #[.int .i64 l2, .int .i64 m2, .int .i64 f2, .int .i64 c2, .int .i64 s2, .int .i64 k2, .string d2], .int .i64 E]) ∧ Below w.heap.size w w') := fun w => by
        have := HPa.out w
        rw [hP] at this
        exact this
      have eE : (E != 0) = true := by rw [hP] at eP; exact bne_iff_ne.2 eP
      clear HPa HCh HBad HNo cB eP hP
      generalize (kindE R).1 = A at *
      generalize (kindE R).2 = D at *
      clear h1 h2
      have x0 := X.cell 0 _ rfl; have x1 := X.cell 1 _ rfl; have x2 := X.cell 2 _ rfl; have x3 := X.cell 3 _ rfl; have x4 := X.cell 4 _ rfl; have x5 := X.cell 5 _ rfl; have x6 := X.cell 6 _ rfl
      rw [rounds_succ]
      go_wp2_with fail
      refine (HKi.out _).mono ?_
      rintro e w3 ⟨rfl, rfl⟩
      go_wp2_with fail
      refine (H3.out _).mono ?_
      rintro e w5 ⟨rfl, hb⟩
      have M5 := (M4.below hb H4).below (balloc (Below.refl _ _) (.cells #[.int .i64 l2, .int .i64 m2, .int .i64 f2, .int .i64 c2, .int .i64 s2, .int .i64 k2, .string d2] 25)) (Nat.lt_of_lt_of_le H4 hb.size)
      have K3 : (convert 42 9 (.slice (some ⟨w2.heap.size, 0, none⟩) S.size cap)).run Try.prog (w5.alloc (.cells #[.int .i64 l2, .int .i64 m2, .int .i64 f2, .int .i64 c2, .int .i64 s2, .int .i64 k2, .string d2] 25)) = .ok (.string R) (w5.alloc (.cells #[.int .i64 l2, .int .i64 m2, .int .i64 f2, .int .i64 c2, .int .i64 s2, .int .i64 k2, .string d2] 25)) := by
        rw [← HR.out]; exact Try.conv_bs (cap := cap) M5
      replace L := bthen L hb
      clear hb K2 x0 x1 x2 x3 x4 x5 x6 M5
      go_wp2_with fail
      refine (HC2.out _).mono ?_
      rintro e w6 ⟨rfl, hb⟩
      go_wp2_with fail
      go_ret
      exact ⟨rfl, bthen (balloc L _) hb⟩
    · have e2 : ((kindE R).1 != m) = true := bne_iff_ne.2 h2
      clear HPa HCh HBad HNo
      generalize (kindE R).1 = A at *
      generalize (kindE R).2 = D at *
      clear h1 h2
      have x0 := X.cell 0 _ rfl; have x1 := X.cell 1 _ rfl; have x2 := X.cell 2 _ rfl; have x3 := X.cell 3 _ rfl; have x4 := X.cell 4 _ rfl; have x5 := X.cell 5 _ rfl; have x6 := X.cell 6 _ rfl
      rw [rounds_succ]
      go_wp2_with fail
      refine (HKi.out _).mono ?_
      rintro e w3 ⟨rfl, rfl⟩
      go_wp2_with fail
      go_ret
      exact ⟨rfl, L⟩
  · have e1 : ((kindE R).2 != 0) = true := bne_iff_ne.2 h1
    clear HPa HCh HBad HNo
    generalize (kindE R).1 = A at *
    generalize (kindE R).2 = D at *
    clear h1
    rw [rounds_succ]
    go_wp2_with fail
    refine (HKi.out _).mono ?_
    rintro e w3 ⟨rfl, rfl⟩
    go_wp2_with fail
    go_ret
    exact ⟨rfl, L⟩

theorem SectorDetects_law (l m f c s k : Int) (x : ByteArray) (a1 a2 : Int) (w0 : (Lit.int .i64 l).wf = true) (w1 : (Lit.int .i64 m).wf = true) (w2 : (Lit.int .i64 f).wf = true) (w3 : (Lit.int .i64 c).wf = true) (w4 : (Lit.int .i64 s).wf = true) (w5 : (Lit.int .i64 k).wf = true) (w6 : x.size ≤ maxLen) (u1 : (Lit.int .u16 a1).wf = true) (u2 : (Lit.int .u32 a2).wf = true) (w : World) :
    Calls Try.prog 9 #[.agg #[.int .i64 l, .int .i64 m, .int .i64 f, .int .i64 c, .int .i64 s, .int .i64 k, .string x], .int .u16 a1, .int .u32 a2] w fun e w' => e = .returned (.bool true) ∧ Below w.heap.size w w' := by
  have hl := bounds_i64 w0
  have b1 := bounds_u16 u1
  have b2 := bounds_u32 u2
  by_cases hv : vB l m f c s k x.size = true
  · by_cases h0 : a2 = 0
    · exact detects_no l m f c s k x a1 a2 hl (.inr h0) w
    · obtain ⟨q, rfl⟩ := Int.eq_ofNat_of_zero_le b2.1
      obtain ⟨y, z, o, hI, _, _, h4, _⟩ := vB_lay hv
      have hbd := hI.or
      have hr := build_right hv hI
      obtain ⟨o', rfl⟩ : ∃ o' : Nat, o = o' := ⟨o.toNat, by omega⟩
      obtain ⟨N, hN⟩ : ∃ N : Nat, y + z - (o' : Int) = N := ⟨(y + z - o').toNat, by omega⟩
      rw [Int.toNat_natCast] at hr
      refine detects_yes l m f c s k x a1 q o' N (y + z).toNat (buildS l m f c s k x) b1 (by omega) (by omega) (hid fun w => ?_) (hid fun w => ?_) (build_size hv) (by omega) (by omega) h4 hr (fun R hR => ?_) w
      · have := Build_wide l m f c s k x hl w
        rwa [show buildE l m f c s k x = (buildS l m f c s k x, 0) from if_pos hv] at this
      · have := Span_any m w
        rwa [hI.span, hN] at this
      · rw [chkB_ok (by rw [hR]) (by rw [hR]; exact hI), Int.toNat_natCast]
  · exact detects_no l m f c s k x a1 a2 hl (.inl (by simpa using hv)) w
end Go.Proofs.Ytieblfpdibpeeaa

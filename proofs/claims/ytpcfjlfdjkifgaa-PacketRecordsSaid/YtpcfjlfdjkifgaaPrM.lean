/-
  The walk of the law PacketReturns where Record returns sectors.
-/
import Derived.Test.YtpcfjlfdjkifgaaPrL
namespace Go.Proofs.Ytpcfjlfdjkifgaa
open Go.RowKit Go.Lib
set_option linter.unusedVariables false
set_option linter.unusedSimpArgs false

theorem rt_keep {w w' w2 : World} {gx gl : Nat} {u0 u1 u6 c1 : Value} (h : w'.cell? ⟨gx, 0, none⟩ = some u0 ∧ w'.cell? ⟨gx, 1, none⟩ = some u1 ∧ w'.cell? ⟨gx, 6, none⟩ = some u6 ∧ w'.cell? ⟨gl, 1, none⟩ = some c1 ∧ Below w.heap.size w w') (hb : Below w'.heap.size w' w2) :
    w2.cell? ⟨gx, 0, none⟩ = some u0 ∧ w2.cell? ⟨gx, 1, none⟩ = some u1 ∧ w2.cell? ⟨gx, 6, none⟩ = some u6 ∧ w2.cell? ⟨gl, 1, none⟩ = some c1 ∧ Below w.heap.size w w2 :=
  ⟨below_cell hb h.1, below_cell hb h.2.1, below_cell hb h.2.2.1, below_cell hb h.2.2.2.1, bthen h.2.2.2.2 hb⟩

set_option maxRecDepth 20000 in
set_option maxHeartbeats 3000000 in
theorem returns_ok (s : Nat) (hs : 1 ≤ s ∧ s ≤ 40) (st : Int) (v : Value) (bs : List ByteArray) (hl : okL bs = true) (hn : bs.length ≤ 20) (hst : 0 ≤ st ∧ st + ((npk s bs.length * (s + 7) : Nat) : Int) - 1 ≤ 449849) (hst2 : st ≤ 449849) (w : World) (hv : SR w v bs) :
    Calls Try.prog 9 #[.int .i64 (s : Int), .int .i64 st, v] w fun e w' => e = .returned (.bool true) ∧ Below w.heap.size w w' := by
  have HR := hid (fun w hv => Record_ok s hs st v bs hl hn hst hst2 w hv)
  have hnp : npk s bs.length ≤ 20 := Nat.le_trans (npk_le s _ hs.1) hn
  have hT0 : npk s bs.length * (s + 7) ≤ 940 := by have := Nat.mul_le_mul hnp (show s + 7 ≤ 47 by omega); omega
  have hq : (((bs.length : Nat) : Int) + (s : Int) - 1) / (s : Int) * ((s : Int) + 7) = ((npk s bs.length * (s + 7) : Nat) : Int) := by
    rw [Int.natCast_mul, show ((s + 7 : Nat) : Int) = (s : Int) + 7 by omega]
    unfold npk
    rw [Int.natCast_ediv, show ((bs.length + s - 1 : Nat) : Int) = (bs.length : Int) + (s : Int) - 1 by omega]
  have HSe : Hid (∀ w : World, Calls Try.prog 11 #[.int .i64 (s : Int), .int .i64 ((bs.length : Nat) : Int)] w fun e w' => e = .returned (.tuple #[.int .i64 ((npk s bs.length * (s + 7) : Nat) : Int), .int .i64 0]) ∧ w = w') := fun w => by
    have := Sectors_any (s : Int) ((bs.length : Nat) : Int) w
    have hz : nmI (s : Int) ((bs.length : Nat) : Int) = 0 := by
      unfold nmI
      rw [if_pos (show szB (s : Int) = true from decide_eq_true (by omega)), if_pos (by omega)]
    have hb : secP (s : Int) ((bs.length : Nat) : Int) = (((npk s bs.length * (s + 7) : Nat) : Int), 0) := by
      unfold secP bdP
      rw [if_pos hz, hq, if_pos (by omega)]
    rwa [hb] at this
  have hdl := dsP_len s bs (npk s bs.length)
  have hdo := ds_ok s bs hl (npk s bs.length)
  have hcl := colL_dsP s bs (npk s bs.length) (npk s bs.length) (Nat.le_refl _)
  have HCo := hid (fun (B : Nat) (v : Value) (w : World) ho => Collect_ok s ⟨hs.1, by omega⟩ st hst.1 (dsP s bs (npk s bs.length)) (by rw [hdl]; exact Nat.mul_mod_left _ _) (by omega) (by rw [hdl]; omega) hdo B v w ho)
  rw [hdl] at HCo
  rw [hcl, userL_len] at HCo
  have HZ := hid (fun w => refZero_any w)
  have HV := hid hv
  have hni : npk s bs.length * s ≥ bs.length := by
    by_cases q : bs.length ≤ npk s bs.length * s
    · exact q
    · exact absurd ((npk_iff s bs.length (npk s bs.length) hs.1).2 (by omega)) (by omega)
  have hus : npk s bs.length * s ≤ npk s bs.length * (s + 7) := Nat.mul_le_mul_left _ (by omega)
  have hQ1 : ((npk s bs.length * (s + 7) : Nat) : Int) / ((s : Int) + 7) = ((npk s bs.length : Nat) : Int) := by
    rw [Int.natCast_mul, show ((s + 7 : Nat) : Int) = (s : Int) + 7 by omega, Int.mul_ediv_cancel _ (by omega)]
  have hQ2 : ((npk s bs.length : Nat) : Int) * (s : Int) = ((npk s bs.length * s : Nat) : Int) := by rw [Int.natCast_mul]
  have hget : ∀ i, i < npk s bs.length * (s + 7) → ∃ d, (dsP s bs (npk s bs.length))[i]? = some d := fun i hi => ⟨(dsP s bs (npk s bs.length))[i]'(by omega), List.getElem?_eq_getElem _⟩
  have hsc := secsC_at st
  rw [hdl] at HR
  obtain ⟨p, cap, rfl⟩ := hv.len
  clear hv hq
  generalize hds : dsP s bs (npk s bs.length) = ds at *
  have hN8 : npk s bs.length * s ≤ 940 := by omega
  generalize hT : npk s bs.length * (s + 7) = T at *
  generalize hU : npk s bs.length * s = U at *
  generalize hQQ : npk s bs.length = Q at *
  generalize hN : bs.length = n at *
  have Hdo := hid hdo
  have Hget := hid hget
  have Hsc := hid hsc
  have hs7 : ((s : Int) + 7 == 0) = false := by rw [beq_eq_false_iff_ne]; omega
  have d1 : decide (20 < (n : Int)) = false := decide_eq_false (by omega)
  have d1n : ¬ (20 < n) := by omega
  have d2 : decide (40 < (s : Int)) = false := decide_eq_false (by omega)
  have d2n : ¬ (40 < s) := by omega
  have d5 : decide ((s : Int) < 1) = false := decide_eq_false (by omega)
  have d5n : ¬ (s = 0) := by omega
  have d7 : decide ((U : Int) < (n : Int)) = false := decide_eq_false (by omega)
  have d7n : ¬ (U < n) := by omega
  have w1 : IntKind.i64.wrap ((s : Int) + 7) = (s : Int) + 7 := IntWalk.i64_in _ (by omega)
  have w2 : IntKind.i64.wrap (Q : Int) = (Q : Int) := IntWalk.i64_in _ (by omega)
  have w3 : IntKind.i64.wrap (U : Int) = (U : Int) := IntWalk.i64_in _ (by omega)
  clear hdo hget hsc hl
  go_enter Try.func9, Try.ntmps9
  go_wp2_with fail
  refine (awake_any _).mono ?_
  rintro e w1 ⟨rfl, hb⟩
  have hV1 := HV.out.below hb
  go_wp2_with fail
  refine (HR.out _ hV1).mono ?_
  rintro e W1 ⟨⟨vr, rfl, hor⟩, hb1⟩
  have L1 := bthen hb hb1
  obtain ⟨pr, cr, rfl⟩ := own_len hor
  have HOr := hid hor
  clear hor hb hb1 hV1
  go_wp2_with fail
  refine (HSe.out _).mono ?_
  rintro e w3 ⟨rfl, rfl⟩
  go_wp2_with fail
  go_loopw [63] (fun c wr => ∃ i : Nat, i ≤ T ∧ c = .int .i64 i ∧ Below W1.heap.size W1 wr) (fun c _ => T - (RowKit.intOf c).toNat)
  case atStart => exact ⟨0, Nat.zero_le _, rfl, Below.refl _ _⟩
  case round =>
    obtain ⟨i, hi, rfl, hbel⟩ := hrel
    by_cases hlt : i < T
    · have d3 : decide ((i : Int) < (T : Int)) = true := decide_eq_true (by omega)
      have l1 : (i : Int) < (T : Int) := by omega
      obtain ⟨g, cap2, he, hg1, hg2, hg3⟩ := own_form HOr.out (by omega)
      injection he with he1 he2 he3
      subst he1 he3
      clear he2
      obtain ⟨d, hd⟩ := Hget.out i hlt
      obtain ⟨hdz, hdk⟩ := Hdo.out i d hd
      have hcx : ∀ (j : Nat) (u : Value), j < 7 → (secC (st + (i : Int)) d)[j]? = some u → wr.cell? ⟨g, i * 7 + j, none⟩ = some u := fun j u hj hu => by
        refine below_cell hbel ?_
        rw [HOr.out.cellAt (i * 7 + j) (by omega), Hsc.out j hj ds 0 i d hd, Nat.zero_add]; exact hu
      have x0 : wr.cell? ⟨g, i * 7, none⟩ = _ := hcx 0 _ (by decide) rfl
      have x1 := hcx 1 _ (by decide) rfl
      have x2 := hcx 2 _ (by decide) rfl
      have x3 := hcx 3 _ (by decide) rfl
      have x4 := hcx 4 _ (by decide) rfl
      have x5 := hcx 5 _ (by decide) rfl
      have x6 := hcx 6 _ (by decide) rfl
      obtain ⟨kL, kK⟩ := loc_kind s i ⟨hs.1, by omega⟩ (by omega)
      have HLo := hid (fun w => Locate_tup (s : Int) (i : Int) w)
      have HK := hid kK
      generalize (locP (s : Int) (i : Int)).1 = L0 at *
      generalize (locP (s : Int) (i : Int)).2.1 = L1' at *
      generalize (locP (s : Int) (i : Int)).2.2.1 = L2 at *
      generalize (locP (s : Int) (i : Int)).2.2.2 = L3 at *
      have hti : i < 940 := by omega
      have w4 : IntKind.i64.wrap (st + (i : Int)) = st + (i : Int) := IntWalk.i64_in _ (by omega)
      clear hcx hd kK
      go_wp2_with fail
      refine (HLo.out _).mono ?_
      rintro e w3 ⟨rfl, hb3⟩
      have X := (Blk.made wr [.int .i64 (st + (i : Int)), .int .i64 0, .int .i64 0, .int .i64 0, .int .i64 0, .int .i64 0, .string d] 53).below hb3
      have L3' := bthen (balloc hbel _) hb3
      clear hb3 x0 x1 x2 x3 x4 x5 x6
      go_wp2_with fail
      have y0 := alloc_cell (o := .cells #[.int .i64 L0, .int .i64 L1', .int .i64 L2] 27) (X.cell 0 _ rfl)
      have y1 := alloc_cell (o := .cells #[.int .i64 L0, .int .i64 L1', .int .i64 L2] 27) (X.cell 1 _ rfl)
      have y6 := alloc_cell (o := .cells #[.int .i64 L0, .int .i64 L1', .int .i64 L2] 27) (X.cell 6 _ rfl)
      have z1 : (w3.alloc (.cells #[.int .i64 L0, .int .i64 L1', .int .i64 L2] 27)).cell? ⟨w3.heap.size, 1, none⟩ = some (.int .i64 L1') := by simp
      have L4 := balloc L3' (.cells #[.int .i64 L0, .int .i64 L1', .int .i64 L2] 27)
      clear X L3'
      generalize w3.alloc (Obj.cells #[Value.int IntKind.i64 L0, Value.int IntKind.i64 L1', Value.int IntKind.i64 L2] 27) = W4 at *
      generalize w3.heap.size = gl at *
      generalize wr.heap.size = gx at *
      by_cases hu : usr s i = true
      · have q4 : (L1' != 2) = false := by rw [bne, HK.out, hu]; rfl
        clear hu HK hdk
        go_quiet (fail)
        go_wp2_with fail
        go_roundw
        case rel => exact ⟨i + 1, by omega, by go_num, bdrN L4 _⟩
        case measure => simp [RowKit.intOf]; omega
      · have q4 : (L1' != 2) = true := by rw [bne, HK.out, show usr s i = false by simpa using hu]; rfl
        have hdz2 := hdk (by simpa using hu)
        subst hdz2
        clear hu HK hdk
        have q9 : (zeroS.toList != zeroS.toList) = false := bne_self_eq_false _
        generalize hZz : zeroS = Zz at *
        have hS := And.intro y0 (And.intro y1 (And.intro y6 (And.intro z1 L4)))
        clear y0 y1 y6 z1 L4
        go_region_held3 (fun w' => w'.cell? ⟨gx, 0, none⟩ = some (.int .i64 (st + (i : Int))) ∧ w'.cell? ⟨gx, 1, none⟩ = some (.int .i64 0) ∧ w'.cell? ⟨gx, 6, none⟩ = some (.string Zz) ∧ w'.cell? ⟨gl, 1, none⟩ = some (.int .i64 L1') ∧ Below W1.heap.size W1 w')
          (with_reducible first | exact rt_keep hS hbW | exact rt_keep hS (bdrew (Below.refl _ _)))
          (first | (go_at_call 28; refine (HZ.out _).mono ?_; rintro e w5 ⟨rfl, hb⟩; have hbW := bthen (bdrew (Below.refl W4.heap.size W4)) hb))
        rename_i hh
        have L5 := hh.2.2.2.2
        clear hh
        go_wp2_with fail
        go_roundw
        case rel => exact ⟨i + 1, by omega, by go_num, L5⟩
        case measure => simp [RowKit.intOf]; omega
    · have d3 : decide ((i : Int) < (T : Int)) = false := decide_eq_false (by omega)
      have hO2 := own_below HOr.out hbel
      go_wp2_with fail
      refine (HCo.out _ _ _ hO2).mono ?_
      rintro e W5 ⟨⟨vo, rfl, hoo⟩, hb5⟩
      have L5 := bthen (bthen L1 hbel) hb5
      obtain ⟨po, co, rfl⟩ := own_len hoo
      have HOo := hid hoo
      have hV5 := HV.out.below L5
      have HV5 := hid hV5
      clear hoo hb5 hO2 hV5 d3 hlt
      go_wp2_with fail
      clear d2 d2n d5 d5n d1 d1n
      go_loopw [130] (fun c wr => ∃ i : Nat, i ≤ U ∧ c = .int .i64 i ∧ Below W5.heap.size W5 wr) (fun c _ => U - (RowKit.intOf c).toNat)
      case atStart => exact ⟨0, Nat.zero_le _, rfl, Below.refl _ _⟩
      case round =>
        obtain ⟨i, hi, rfl, hbel⟩ := hrel
        by_cases hlt : i < U
        · have d3 : decide ((i : Int) < (U : Int)) = true := decide_eq_true (by omega)
          have l1 : (i : Int) < (U : Int) := by omega
          obtain ⟨g, cap2, he, hg1, hg2, hg3⟩ := own_form HOo.out (by omega)
          injection he with he1 he2 he3
          subst he1 he3
          clear he2
          have c0 : wr.cell? ⟨g, i, none⟩ = some (.string (bs.getD i zeroS)) := by
            refine below_cell hbel ?_
            rw [HOo.out.cellAt i (by omega)]
            unfold strV
            rw [List.getElem?_map, userL_get s bs U i hlt]; rfl
          by_cases hin : i < n
          · have d4 : decide ((i : Int) < (n : Int)) = true := decide_eq_true (by omega)
            have d6 : decide ((n : Int) ≤ (i : Int)) = false := decide_eq_false (by omega)
            have d6n : ¬ (n ≤ i) := by omega
            have l2 : (i : Int) < (n : Int) := by omega
            obtain ⟨g2, o2, cap3, he, hc1, hc2, hc3⟩ := HV5.out.form (by omega)
            injection he with he1 he2 he3
            subst he1 he3
            clear he2
            obtain ⟨c, hc⟩ : ∃ c, bs[i]? = some c := ⟨bs[i]'(by omega), List.getElem?_eq_getElem (by omega)⟩
            have hgd : bs.getD i zeroS = c := by rw [List.getD_eq_getElem?_getD, hc]; rfl
            rw [hgd] at c0
            have c1 : wr.cell? ⟨g2, o2 + i, none⟩ = some (.string c) := below_cell hbel (hc3 i c hc)
            have q9 : (c.toList != c.toList) = false := bne_self_eq_false _
            clear hc hc3 hgd
            go_wp2_with fail
            go_roundw
            case rel => exact ⟨i + 1, by omega, by go_num, hbel⟩
            case measure => simp [RowKit.intOf]; omega
          · have d4 : decide ((i : Int) < (n : Int)) = false := decide_eq_false (by omega)
            have d6 : decide ((n : Int) ≤ (i : Int)) = true := decide_eq_true (by omega)
            have d6n : n ≤ i := by omega
            have hgd : bs.getD i zeroS = zeroS := by rw [List.getD_eq_getElem?_getD, List.getElem?_eq_none (by omega)]; rfl
            rw [hgd] at c0
            have q9 : (zeroS.toList != zeroS.toList) = false := bne_self_eq_false _
            clear hgd
            generalize hZz : zeroS = Zz at *
            go_wp2_with fail
            refine (HZ.out _).mono ?_
            rintro e w7 ⟨rfl, hb7⟩
            have hb8 := bthen hbel hb7
            go_wp2_with fail
            go_roundw
            case rel => exact ⟨i + 1, by omega, by go_num, hb8⟩
            case measure => simp [RowKit.intOf]; omega
        · have d3 : decide ((i : Int) < (U : Int)) = false := decide_eq_false (by omega)
          go_wp2_with fail
          go_ret
          exact ⟨rfl, bthen L5 hbel⟩
end Go.Proofs.Ytpcfjlfdjkifgaa

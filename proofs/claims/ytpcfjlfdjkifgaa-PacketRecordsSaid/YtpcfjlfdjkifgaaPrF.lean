/-
  The contract of Record at blocks of the right length.
-/
import Derived.Test.YtpcfjlfdjkifgaaPrE
namespace Go.Proofs.Ytpcfjlfdjkifgaa
open Go.RowKit Go.Lib
set_option linter.unusedVariables false
set_option linter.unusedSimpArgs false

/-- The cells of sectors with these data, numbered from a start on. -/
def secsC (st : Int) : Nat → List ByteArray → List Value
  | _, [] => []
  | k, d :: r => secC (st + k) d ++ secsC st (k + 1) r
theorem secsC_snoc (st : Int) (d : ByteArray) : ∀ (ds : List ByteArray) (k : Nat), secsC st k (ds ++ [d]) = secsC st k ds ++ secC (st + ((k + ds.length : Nat) : Int)) d
  | [], k => by simp [secsC]
  | x :: r, k => by
    show secC (st + k) x ++ secsC st (k + 1) (r ++ [d]) = secC (st + k) x ++ secsC st (k + 1) r ++ _
    rw [secsC_snoc st d r (k + 1), List.append_assoc, List.length_cons, show k + 1 + r.length = k + (r.length + 1) by omega]
/-- The parts of a packet. -/
def part (b : List ByteArray) : Nat → List ByteArray
  | 0 => List.replicate 1 zeroS
  | 1 => List.replicate 4 zeroS
  | 2 => b
  | _ => List.replicate 2 zeroS
def kp (b : List ByteArray) (q : Nat) : List ByteArray := (List.range q).flatMap (part b)
theorem kp_succ (b : List ByteArray) (q : Nat) : kp b (q + 1) = kp b q ++ part b q := by
  unfold kp; rw [List.range_succ, List.flatMap_append, List.flatMap_singleton]
/-- The data of the sectors of the first packets. -/
def dsP (s : Nat) (bs : List ByteArray) (k : Nat) : List ByteArray := (List.range k).flatMap fun p => kp (pkt s (bs.drop (p * s))) 4
theorem dsP_succ (s : Nat) (bs : List ByteArray) (k : Nat) : dsP s bs (k + 1) = dsP s bs k ++ kp (pkt s (bs.drop (k * s))) 4 := by
  unfold dsP; rw [List.range_succ, List.flatMap_append, List.flatMap_singleton]
theorem kp_len (b : List ByteArray) : (kp b 4).length = b.length + 7 := by
  rw [kp_succ, kp_succ, kp_succ, kp_succ]
  simp [kp, part]
theorem dsP_len (s : Nat) (bs : List ByteArray) (k : Nat) : (dsP s bs k).length = k * (s + 7) := by
  induction k with
  | zero => simp [dsP]
  | succ k ih => rw [dsP_succ, List.length_append, ih, kp_len, pkt_len, Nat.add_mul, Nat.one_mul]
theorem kp_le (b : List ByteArray) (q : Nat) (hq : q < 4) : (kp b q).length + (part b q).length ≤ b.length + 7 := by
  have h : q = 0 ∨ q = 1 ∨ q = 2 ∨ q = 3 := by omega
  rcases h with rfl | rfl | rfl | rfl <;> simp [kp, part, List.range_succ] <;> omega
theorem npk_le (s n : Nat) (hs : 1 ≤ s) : npk s n ≤ n := by
  unfold npk
  rw [← Nat.lt_succ_iff, Nat.div_lt_iff_lt_mul (by omega)]
  have := Nat.mul_le_mul_left (n + 1) hs
  cases n with
  | zero => omega
  | succ n =>
    have h2 : (n + 1 + 1) * s = (n + 1) * s + s := by rw [Nat.add_mul (n + 1), Nat.one_mul]
    have h3 := Nat.le_mul_of_pos_right (n + 1) (show 0 < s by omega)
    show n + 1 + s - 1 < (n + 1 + 1) * s
    omega

theorem AddP.snoc {gO : Nat} {W1 w : World} {st : Int} {ds : List ByteArray} {d : ByteArray} (h : AddP gO W1 w (ds.length + 1) (secsC st 0 ds ++ secC (st + (ds.length : Int)) d)) : AddP gO W1 w (ds ++ [d]).length (secsC st 0 (ds ++ [d])) := by
  rw [List.length_append, secsC_snoc, Nat.zero_add]; exact h
theorem part_zero (b : List ByteArray) (q j : Nat) (d : ByteArray) (hq : q ≠ 2) (h : (part b q)[j]? = some d) : d = zeroS := by
  have hm := List.mem_of_getElem? h
  match q, hq, hm with
  | 0, _, hm => exact List.eq_of_mem_replicate hm
  | 1, _, hm => exact List.eq_of_mem_replicate hm
  | (q + 3), _, hm => exact List.eq_of_mem_replicate hm
theorem take_snoc' (l : List ByteArray) (j : Nat) (d : ByteArray) (h : l[j]? = some d) : l.take (j + 1) = l.take j ++ [d] := by
  rw [List.take_add_one, h]; rfl

set_option maxRecDepth 20000 in
set_option maxHeartbeats 2000000 in
theorem Record_ok (s : Nat) (hs : 1 ≤ s ∧ s ≤ 40) (st : Int) (v : Value) (bs : List ByteArray) (hl : okL bs = true) (hn : bs.length ≤ 20) (hst : 0 ≤ st ∧ st + ((npk s bs.length * (s + 7) : Nat) : Int) - 1 ≤ 449849) (hst2 : st ≤ 449849) (w : World) (hv : SR w v bs) :
    Calls Try.prog 21 #[.int .i64 (s : Int), .int .i64 st, v] w fun e w' => (∃ vr, e = .returned (.tuple #[vr, .int .i64 0]) ∧ w'.ownsRow w.heap.size 53 7 vr (dsP s bs (npk s bs.length)).length (secsC st 0 (dsP s bs (npk s bs.length)))) ∧ Below w.heap.size w w' := by
  have HS : Hid (∀ w : World, Calls Try.prog 34 #[.int .i64 (s : Int)] w fun e w' => e = .returned (.bool true) ∧ w = w') := fun w => by
    have := sized_any (s : Int) w
    rwa [show szB (s : Int) = true from decide_eq_true (by omega)] at this
  have HO := hid (okL_get hl)
  have HZ := hid (fun w => zeros_any w)
  have HSp := hid (fun w hv => Split_ok s ⟨hs.1, by omega⟩ v bs hl (by omega) w hv)
  have HV := hid hv
  have HCn := hid (fun w => counts_any (s : Int) w)
  have hnp : npk s bs.length ≤ 20 := Nat.le_trans (npk_le s _ hs.1) hn
  have hT : npk s bs.length * (s + 7) ≤ 940 := by have := Nat.mul_le_mul hnp (show s + 7 ≤ 47 by omega); omega
  obtain ⟨p, cap, rfl⟩ := hv.len
  clear hl hv
  generalize hN : bs.length = n at *
  have q3 : ((n : Int) + (s : Int) - 1) / (s : Int) = ((npk s n : Nat) : Int) := by unfold npk; rw [Int.natCast_ediv, show ((n + s - 1 : Nat) : Int) = (n : Int) + (s : Int) - 1 by omega]
  have q5 : IntKind.i64.wrap (((n : Int) + (s : Int) - 1) / (s : Int) * ((s : Int) + 7)) = ((npk s n * (s + 7) : Nat) : Int) := by
    rw [q3, show (s : Int) + 7 = ((s + 7 : Nat) : Int) by omega, ← Int.natCast_mul]; exact IntWalk.i64_in _ (by omega)
  clear q3
  go_enter Try.func21, Try.ntmps21
  go_wp2_with fail
  refine (HS.out _).mono ?_
  rintro e w1 ⟨rfl, rfl⟩
  go_wp2_with fail
  go_loop [25] (fun c => ∃ k : Nat, k ≤ n ∧ c = .int .i64 k) (fun c => n - (RowKit.intOf c).toNat)
  case atStart => exact ⟨0, by omega, rfl⟩
  case round =>
    obtain ⟨k, hk, rfl⟩ := hrel
    by_cases hlt : k < n
    · have d1 : decide ((k : Int) < (n : Int)) = true := decide_eq_true (by omega)
      have l1 : (k : Int) < (n : Int) := by omega
      obtain ⟨g, o, cap2, he, hc1, hc2, hc3⟩ := HV.out.form (by omega)
      obtain ⟨c, hc⟩ : ∃ c, bs[k]? = some c := ⟨bs[k]'(by omega), List.getElem?_eq_getElem (by omega)⟩
      injection he with he1 he2 he3
      subst he1 he3
      have hgl := World.block_lt_of_cell? w _ (hc3 k c hc)
      have hgl2 : g < w.heap.size := hgl
      have hcell := alloc_cell (o := .cells #[.int .i64 st] 3) (hc3 k c hc)
      have hcell0 := hc3 k c hc
      have d2 : ((c.size : Int) != 2048) = false := by rw [HO.out k c hc]; rfl
      clear hc hc3 he2
      go_wp2_with fail
      go_round
      case rel => exact ⟨k + 1, by omega, by go_num⟩
      case measure => simp [RowKit.intOf]; omega
    · have d1 : decide ((k : Int) < (n : Int)) = false := decide_eq_false (by omega)
      generalize hTT : npk s n * (s + 7) = T at *
      have e1 : decide (st < 0) = false := decide_eq_false (by omega)
      have e2 : decide (449849 < st) = false := decide_eq_false (by omega)
      have e5 : IntKind.i64.wrap (st + (T : Int)) = st + (T : Int) := IntWalk.i64_in _ (by omega)
      have e6 : IntKind.i64.wrap (st + (T : Int) - 1) = st + (T : Int) - 1 := IntWalk.i64_in _ (by omega)
      have e3 : decide (449849 < st + (T : Int) - 1) = false := decide_eq_false (by omega)
      have e4 : decide (4096 < (n : Int)) = false := decide_eq_false (by omega)
      go_wp2_with fail
      clear d1 hlt hk
      refine (HSp.out _ ((HV.out.below (balloc (Below.refl _ _) _)).below (balloc (Below.refl _ _) _))).mono ?_
      rintro e W1 ⟨⟨vo, vs, rfl, hPK⟩, hb1⟩
      have hA : AddP (w.heap.size + 1) W1 W1 0 (secsC st 0 (dsP s bs 0)) := by
        refine ⟨⟨.slice none 0 0, below_cell hb1 (by simp), World.ownsRow_nil _ _ _ _⟩, ?_, Kept.refl _ _⟩
        rw [hb1.frozen (p := ⟨w.heap.size + 1, 0, none⟩) (by simp)]; simp
      have hgs : W1.cell? ⟨w.heap.size, 0, none⟩ = some (.int .i64 st) := below_cell hb1 (by simp)
      have hW1 : w.heap.size + 1 < W1.heap.size := by have := hb1.size; simp at this; omega
      have L1 : Below w.heap.size w W1 := bthen (balloc (balloc (Below.refl _ _) _) _) hb1
      have hsz0 : ((w.alloc (Obj.cells #[Value.int IntKind.i64 st] 3)).alloc (Obj.cells #[Value.slice none 0 0] 38)).heap.size = w.heap.size + 2 := by simp
      rw [hsz0] at hPK
      have HPK := hid hPK
      have HA := hid hA
      obtain ⟨po, co, rfl⟩ := own_len hPK.own
      rw [preL_len]
      clear hPK hA hb1 hsz0
      go_wp2_with fail
      generalize hgO : w.heap.size + 1 = gO at *
      have hO2 : w.heap.size + 2 = gO + 1 := by omega
      rw [hO2] at HPK
      have hgne : w.heap.size ≠ gO := by omega
      have hnpN := hnp
      generalize hNp : npk s n = N at *
      go_loopw [70] (fun i wr => ∃ k : Nat, k ≤ N ∧ i = .int .i64 k ∧ AddP gO W1 wr (dsP s bs k).length (secsC st 0 (dsP s bs k))) (fun i _ => N - (RowKit.intOf i).toNat)
      case atStart => exact ⟨0, Nat.zero_le _, rfl, HA.out⟩
      case round =>
        obtain ⟨k, hk, rfl, hA⟩ := hrel
        by_cases hlt : k < N
        · have d1 : decide ((k : Int) < (N : Int)) = true := decide_eq_true (by omega)
          have l1 : (k : Int) < (N : Int) := by omega
          obtain ⟨go, co2, he, hg1, hg2, hg3⟩ := own_form HPK.out.own (by rw [preL_len]; omega)
          injection he with he1 he2 he3
          subst he1 he3
          clear he2
          obtain ⟨x, hx⟩ : ∃ x, vs[k]? = some x := ⟨vs[k]'(by rw [HPK.out.len, preL_len]; omega), List.getElem?_eq_getElem _⟩
          have hpl : (preL s bs N)[k]? = some (pkt s (bs.drop (k * s))) := by
            unfold preL
            rw [List.getElem?_map, List.getElem?_range hlt]; rfl
          have hin := HPK.out.inn k x _ hx hpl
          obtain ⟨gp, cp, rfl, hp1, hp2, hp3⟩ := own_form hin (by rw [pkt_len]; omega)
          have hcx := HPK.out.own.cellAt k (by rw [preL_len]; omega)
          rw [hx] at hcx
          have hcx2 : wr.cell? ⟨go, k, none⟩ = some (.slice (some ⟨gp, 0, none⟩) (pkt s (bs.drop (k * s))).length cp) := hA.kept.cell (p := ⟨go, k, none⟩) (by show go ≠ gO; omega) hcx
          have hgp : gp ≠ gO := by omega
          have hbl := pkt_len s (bs.drop (k * s))
          rw [hbl] at hcx2 hin
          have hds := dsP_succ s bs k
          have hdl := dsP_len s bs k
          have hkm : k * (s + 7) ≤ 893 := by have := Nat.mul_le_mul (show k ≤ 19 by omega) (show s + 7 ≤ 47 by omega); omega
          generalize hbb : pkt s (bs.drop (k * s)) = b at *
          generalize hD : dsP s bs k = D at *
          have HIN := hid hin
          have HA2 := hid hA
          clear hin hA hx hpl hcx
          go_wp2_with fail
          refine (HCn.out _).mono ?_
          rintro e w2 ⟨rfl, hb2⟩
          have hA3 := HA2.out.below (by omega) hb2
          clear hb2 hcx2 d1
          go_wp2_with fail
          go_loopw [76] (fun i wr => ∃ q : Nat, q ≤ 4 ∧ i = .int .i64 q ∧ AddP gO W1 wr (D ++ kp b q).length (secsC st 0 (D ++ kp b q))) (fun i _ => 4 - (RowKit.intOf i).toNat)
          case atStart => exact ⟨0, by omega, rfl, by simpa [kp] using hA3⟩
          case round =>
            obtain ⟨q, hq, rfl, hAq⟩ := hrel
            by_cases hq4 : q < 4
            · have d2 : decide ((q : Int) < 4) = true := decide_eq_true (by omega)
              have hidx : ∀ w : World, (Instr.index 61 (.agg #[.int .i64 1, .int .i64 4, .int .i64 (s : Int), .int .i64 2]) (.int .i64 (q : Int))).run Try.prog w = .ok (.int .i64 (((part b q).length : Nat) : Int)) w := by
                have h : q = 0 ∨ q = 1 ∨ q = 2 ∨ q = 3 := by omega
                rcases h with rfl | rfl | rfl | rfl
                · exact fun _ => by kernel_rfl
                · exact fun _ => by kernel_rfl
                · rw [show (part b 2).length = s from hbl]; exact fun _ => by kernel_rfl
                · exact fun _ => by kernel_rfl
              have hkl := kp_le b q hq4
              have hks := kp_succ b q
              have HAq := hid hAq
              clear hAq
              go_wp2_with fail
              go_loopw [81] (fun i wr => ∃ j : Nat, j ≤ (part b q).length ∧ i = .int .i64 j ∧ AddP gO W1 wr (D ++ kp b q ++ (part b q).take j).length (secsC st 0 (D ++ kp b q ++ (part b q).take j))) (fun i _ => (part b q).length - (RowKit.intOf i).toNat)
              case atStart => exact ⟨0, Nat.zero_le _, rfl, by simpa using HAq.out⟩
              case round =>
                obtain ⟨j, hj, rfl, hAj⟩ := hrel
                by_cases hjl : j < (part b q).length
                · have d3 : decide ((j : Int) < (((part b q).length : Nat) : Int)) = true := decide_eq_true (by omega)
                  obtain ⟨d, hd⟩ : ∃ d, (part b q)[j]? = some d := ⟨(part b q)[j]'hjl, List.getElem?_eq_getElem _⟩
                  have htk := take_snoc' _ j d hd
                  have hLen : (D ++ kp b q ++ (part b q).take j).length ≤ 8192 := by
                    rw [List.length_append, List.length_append, List.length_take, hdl]; omega
                  by_cases h2 : q = 2
                  · have d4 : ((q : Int) == 2) = true := by rw [h2]; rfl
                    have hpb : part b q = b := by rw [h2]; rfl
                    have hjs : j < s := by rw [hpb, hbl] at hjl; exact hjl
                    have l2 : (j : Int) < (s : Int) := by omega
                    have hcd : wr.cell? ⟨gp, j, none⟩ = some (.string d) := by
                      refine hAj.kept.cell (p := ⟨gp, j, none⟩) hgp ?_
                      rw [← hbl] at HIN
                      rw [HIN.out.cellAt j (by omega)]
                      rw [hpb] at hd
                      unfold strV
                      rw [List.getElem?_map, hd]; rfl
                    have HJ := hid hAj
                    clear hAj hd h2 hpb
                    go_wp2_with fail
                    refine (add_any d gO w.heap.size st _ _ _ W1 ⟨hst.1, hst2⟩ hLen (by omega) hgne hgs HJ.out).mono ?_
                    rintro e w3 ⟨rfl, hA4⟩
                    have hA5 := hid hA4.snoc
                    clear hA4 hcd
                    go_wp2_with fail
                    go_roundw
                    case rel => exact ⟨j + 1, by omega, by go_num, by rw [htk, ← List.append_assoc]; exact hA5.out⟩
                    case measure => simp [RowKit.intOf]; omega
                  · have d4 : ((q : Int) == 2) = false := by rw [beq_eq_false_iff_ne]; omega
                    have hdz := part_zero b q j d h2 hd
                    have HJ := hid hAj
                    clear hAj hd h2
                    subst hdz
                    go_wp2_with fail
                    refine (HZ.out _).mono ?_
                    rintro e w3 ⟨rfl, hb3⟩
                    have hJ3 := HJ.out.below (by omega) hb3
                    clear hb3
                    go_wp2_with fail
                    refine (add_any zeroS gO w.heap.size st _ _ _ W1 ⟨hst.1, hst2⟩ hLen (by omega) hgne hgs hJ3).mono ?_
                    rintro e w4 ⟨rfl, hA4⟩
                    have hA5 := hid hA4.snoc
                    clear hA4 hJ3
                    go_wp2_with fail
                    go_roundw
                    case rel => exact ⟨j + 1, by omega, by go_num, by rw [htk, ← List.append_assoc]; exact hA5.out⟩
                    case measure => simp [RowKit.intOf]; omega
                · have hje : j = (part b q).length := by omega
                  have d3 : decide ((j : Int) < (((part b q).length : Nat) : Int)) = false := decide_eq_false (by omega)
                  have hA6 : AddP gO W1 wr (D ++ kp b (q + 1)).length (secsC st 0 (D ++ kp b (q + 1))) := by
                    have := hAj
                    rw [hje, List.take_length, List.append_assoc, ← hks] at this
                    exact this
                  have HA6 := hid hA6
                  clear hAj hA6
                  go_wp2_with fail
                  go_roundw
                  case rel => exact ⟨q + 1, by omega, by go_num, HA6.out⟩
                  case measure => simp [RowKit.intOf]; omega
            · have hq5 : q = 4 := by omega
              have d2 : decide ((q : Int) < 4) = false := decide_eq_false (by omega)
              have hA7 : AddP gO W1 wr (dsP s bs (k + 1)).length (secsC st 0 (dsP s bs (k + 1))) := by rw [hds, ← hq5]; exact hAq
              have HA7 := hid hA7
              clear hAq hA7
              go_wp2_with fail
              go_roundw
              case rel => exact ⟨k + 1, by omega, by go_num, HA7.out⟩
              case measure => simp [RowKit.intOf]; omega
        · have hkN : k = N := by omega
          have d1 : decide ((k : Int) < (N : Int)) = false := decide_eq_false (by omega)
          rw [hkN] at hA
          obtain ⟨vr, hcr, hor⟩ := hA.is
          have hK := hA.kept
          obtain ⟨pr, cr, rfl⟩ := own_len hor
          have HOr := hid hor
          clear hA hor
          go_wp2_with fail
          go_ret2
          exact ⟨⟨.slice pr (dsP s bs N).length cr, rfl, by rw [hNp]; exact own_base HOr.out L1.size⟩, hK.toBelow L1 (Nat.le_refl _) (by omega)⟩
end Go.Proofs.Ytpcfjlfdjkifgaa

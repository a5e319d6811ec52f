/-
  For PacketRecords: the contract of the reference's Record.
-/
import Derived.Test.YtpcfjlfdjkifgaaPrW
namespace Go.Proofs.Ytpcfjlfdjkifgaa
open Go.RowKit Go.Lib
set_option linter.unusedVariables false
set_option linter.unusedSimpArgs false

/-- What Record returns. -/
def recD (s : Nat) (st : Int) (bs : List ByteArray) : List ByteArray × Int :=
  if okL bs = true then
    if 0 ≤ st ∧ st ≤ 449849 ∧ st + ((npk s bs.length * (s + 7) : Nat) : Int) - 1 ≤ 449849 then (dsP s bs (npk s bs.length), 0) else ([], 2)
  else ([], 1)
def RecP (s : Nat) (st : Int) (bs : List ByteArray) (w : World) (e : Ending) (w' : World) : Prop :=
  (∃ vr, e = .returned (.tuple #[vr, .int .i64 (recD s st bs).2]) ∧ w'.ownsRow w.heap.size 53 7 vr (recD s st bs).1.length (secsC st 0 (recD s st bs).1)) ∧ Below w.heap.size w w'
theorem RecP.err {s : Nat} {st : Int} {bs : List ByteArray} {w w' : World} {c : Int} (h : recD s st bs = ([], c)) (hb : Below w.heap.size w w') : RecP s st bs w (.returned (.tuple #[.slice none 0 0, .int .i64 c])) w' := by
  refine ⟨⟨.slice none 0 0, by rw [h], ?_⟩, hb⟩
  rw [h]; exact World.ownsRow_nil _ _ _ _
theorem recD_bad {s : Nat} {st : Int} {bs : List ByteArray} (h : okL bs = false) : recD s st bs = ([], 1) := by unfold recD; rw [if_neg (by rw [h]; decide)]
theorem recD_far {s : Nat} {st : Int} {bs : List ByteArray} (h : okL bs = true) (h2 : ¬ (0 ≤ st ∧ st ≤ 449849 ∧ st + ((npk s bs.length * (s + 7) : Nat) : Int) - 1 ≤ 449849)) : recD s st bs = ([], 2) := by unfold recD; rw [if_pos h, if_neg h2]
theorem recD_ok {s : Nat} {st : Int} {bs : List ByteArray} (h : okL bs = true) (h2 : 0 ≤ st ∧ st ≤ 449849 ∧ st + ((npk s bs.length * (s + 7) : Nat) : Int) - 1 ≤ 449849) : recD s st bs = (dsP s bs (npk s bs.length), 0) := by unfold recD; rw [if_pos h, if_pos h2]

set_option maxRecDepth 20000 in
set_option maxHeartbeats 3000000 in
theorem refRecord_any (s : Nat) (hs : 1 ≤ s ∧ s ≤ 40) (st : Int) (hst : -9223372036854775808 ≤ st ∧ st ≤ 9223372036854775807) (v : Value) (bs : List ByteArray) (hn : bs.length ≤ 20) (w : World) (hv : SR w v bs) :
    Calls Try.prog 22 #[.int .i64 (s : Int), .int .i64 st, v] w (RecP s st bs w) := by
  have HSp := hid (refSplit_any s ⟨hs.1, by omega⟩ v bs (by omega) w hv)
  have HZ := hid (fun w => refZero_any w)
  obtain ⟨p, cap, rfl⟩ := hv.len
  obtain ⟨i0, hi, hz0, hz1, hz2⟩ := info_Sec
  have hnp : npk s bs.length ≤ 20 := Nat.le_trans (npk_le s _ hs.1) hn
  have hT : npk s bs.length * (s + 7) ≤ 940 := by have := Nat.mul_le_mul hnp (show s + 7 ≤ 47 by omega); omega
  have q5 : IntKind.i64.wrap (((npk s bs.length : Nat) : Int) * ((s : Int) + 7)) = ((npk s bs.length * (s + 7) : Nat) : Int) := by
    rw [show (s : Int) + 7 = ((s + 7 : Nat) : Int) by omega, ← Int.natCast_mul]; exact IntWalk.i64_in _ (by omega)
  have w7 : IntKind.i64.wrap ((s : Int) + 7) = (s : Int) + 7 := IntWalk.i64_in _ (by omega)
  clear hv
  generalize hN : bs.length = n at *
  have HN := hid hN
  clear hN
  go_enter Try.func22, Try.ntmps22
  go_wp2_with fail
  refine HSp.out.mono ?_
  rintro e W1 ⟨⟨hok, vo, vs, rfl, hPK⟩ | ⟨hok, rfl⟩, hb1⟩
  · obtain ⟨po, co, rfl⟩ := own_len hPK.own
    rw [preL_len, HN.out]
    rw [preL_len, HN.out] at hPK
    generalize hNp : npk s n = N at *
    generalize hTT : N * (s + 7) = T at *
    have HRy := hid (fun h2 => recD_ok (s := s) (st := st) hok h2)
    have HRn := hid (fun h2 => recD_far (s := s) (st := st) hok h2)
    rw [HN.out, hNp, hTT] at HRy HRn
    have HT := hid hTT
    clear HSp hTT hNp hok
    have e0 : ((0 : Int) != 0) = false := rfl
    by_cases c1 : st < 0
    · have e1 : decide (st < 0) = true := decide_eq_true c1
      have HE := hid (HRn.out (by omega))
      clear HRy HRn
      go_wp2_with fail
      go_ret2
      exact RecP.err HE.out hb1
    · have e1 : decide (st < 0) = false := decide_eq_false c1
      by_cases c2 : 449849 < st
      · have e2 : decide (449849 < st) = true := decide_eq_true c2
        have HE := hid (HRn.out (by omega))
        clear HRy HRn
        go_wp2_with fail
        go_ret2
        exact RecP.err HE.out hb1
      · have e2 : decide (449849 < st) = false := decide_eq_false c2
        have e5 : IntKind.i64.wrap (st + (T : Int)) = st + (T : Int) := IntWalk.i64_in _ (by omega)
        have e6 : IntKind.i64.wrap (st + (T : Int) - 1) = st + (T : Int) - 1 := IntWalk.i64_in _ (by omega)
        by_cases c3 : 449849 < st + (T : Int) - 1
        · have e3 : decide (449849 < st + (T : Int) - 1) = true := decide_eq_true c3
          have HE := hid (HRn.out (by omega))
          clear HRy HRn
          go_wp2_with fail
          go_ret2
          exact RecP.err HE.out hb1
        · have e3 : decide (449849 < st + (T : Int) - 1) = false := decide_eq_false c3
          have e4 : decide (4096 < (n : Int)) = false := decide_eq_false (by omega)
          have e4n : ¬ (4096 < n) := by omega
          have HE := hid (HRy.out (by omega))
          clear HRy HRn
          have HPK := hid hPK
          have hW1 := hb1.size
          clear hPK
          go_wp2_with fail
          clear e0 e1 e2 e3 e4 e4n e5 e6 q5
          go_loopw [10, 11] (fun vo c wr => ∃ i : Nat, i ≤ N ∧ c = .int .i64 i ∧ wr.ownsRow W1.heap.size 53 7 vo (dsP s bs i).length (secsC st 0 (dsP s bs i)) ∧ Below W1.heap.size W1 wr) (fun _ c _ => N - (RowKit.intOf c).toNat)
          case atStart => exact ⟨0, Nat.zero_le _, rfl, World.ownsRow_lit W1 #[] 0 (Nat.le_refl _) (by decide) rfl, balloc (Below.refl _ _) _⟩
          case round =>
            obtain ⟨i, hiN, rfl, hown, hbel⟩ := hrel
            have hbz := hbel.size
            by_cases hlt : i < N
            · have d1 : decide ((i : Int) < (N : Int)) = true := decide_eq_true (by omega)
              have l1 : (i : Int) < (N : Int) := by omega
              have hPO := HPK.out.own
              rw [preL_len] at hPO
              obtain ⟨go, co2, he, hg1, hg2, hg3⟩ := own_form hPO (by omega)
              injection he with he1 he2 he3
              subst he1 he3
              clear he2
              obtain ⟨x, hx⟩ : ∃ x, vs[i]? = some x := ⟨vs[i]'(by rw [HPK.out.len, preL_len]; omega), List.getElem?_eq_getElem _⟩
              have hpl : (preL s bs N)[i]? = some (pkt s (bs.drop (i * s))) := by
                unfold preL
                rw [List.getElem?_map, List.getElem?_range hlt]; rfl
              have hin := HPK.out.inn i x _ hx hpl
              rw [pkt_len] at hin
              obtain ⟨gp, cp, rfl, hp1, hp2, hp3⟩ := own_form hin (by omega)
              have hcx := hPO.cellAt i (by omega)
              rw [hx] at hcx
              have hpc : ∀ (j : Nat), j < s → W1.cell? ⟨gp, j, none⟩ = some (.string ((pkt s (bs.drop (i * s))).getD j zeroS)) := fun j hj => by
                rw [hin.cellAt j (by omega)]
                unfold strV
                rw [List.getElem?_map, List.getD_eq_getElem?_getD, List.getElem?_eq_getElem (show j < (pkt s (bs.drop (i * s))).length by rw [pkt_len]; exact hj)]; rfl
              have hdl := dsP_len s bs i
              have hkl := kp_len (pkt s (bs.drop (i * s)))
              have hkg := fun a ha => kp_get (pkt s (bs.drop (i * s))) a ha
              have hds := dsP_succ s bs i
              rw [pkt_len] at hkl hkg
              have hkm : i * (s + 7) ≤ 893 := by have := Nat.mul_le_mul (show i ≤ 19 by omega) (show s + 7 ≤ 47 by omega); omega
              generalize hD2 : dsP s bs (i + 1) = D2 at *
              generalize dsP s bs i = D at *
              generalize kp (pkt s (bs.drop (i * s))) 4 = K at *
              generalize pkt s (bs.drop (i * s)) = b at *
              have Hkg := hid hkg
              have HD2 := hid hD2
              clear hD2
              have Hkl := hid hkl
              have Hdl := hid hdl
              have Hds := hid hds
              have Hpc := hid hpc
              have HO := hid hown
              have hD9 : D.length ≤ 893 := by omega
              clear hkg hkl hdl hds hpc hown hx hpl hin hPO
              obtain ⟨wo, hwo⟩ : ∃ wo : World, wo = wr := ⟨_, rfl⟩
              subst hwo
              go_wp2_with fail
              go_loopw [10, 12] (fun vo c wr => ∃ k : Nat, k ≤ s + 7 ∧ c = .int .i64 k ∧ wr.ownsRow W1.heap.size 53 7 vo (D ++ K.take k).length (secsC st 0 (D ++ K.take k)) ∧ Below W1.heap.size W1 wr) (fun _ c _ => s + 7 - (RowKit.intOf c).toNat)
              case atStart => exact ⟨0, Nat.zero_le _, rfl, by simpa using HO.out, hbel⟩
              case round =>
                obtain ⟨k, hks, rfl, hown, hbq⟩ := hrel
                have hbqz := hbq.size
                by_cases hlk : k < s + 7
                · have d2 : decide ((k : Int) < (s : Int) + 7) = true := decide_eq_true (by omega)
                  have hdl := Hdl.out
                  have hKl := Hkl.out
                  have hLk : (D ++ K.take k).length = D.length + k := by rw [List.length_append, List.length_take, Nat.min_eq_left (by omega)]
                  obtain ⟨d, hd⟩ : ∃ d, K[k]? = some d := ⟨_, Hkg.out k (by omega)⟩
                  have hd2 := Hkg.out k (by omega)
                  rw [hd] at hd2
                  have htk : D ++ K.take (k + 1) = D ++ K.take k ++ [d] := by rw [List.take_add_one, hd, ← List.append_assoc]; rfl
                  have hsn := secsC_snoc st d (D ++ K.take k) 0
                  rw [Nat.zero_add] at hsn
                  have hL2 : (D ++ K.take k).length ≤ 940 := by omega
                  have HTK := hid htk
                  have HSN := hid hsn
                  clear htk hsn hLk hd hdl hKl
                  obtain ⟨po, co3, rfl⟩ := own_len hown
                  generalize hL : (D ++ K.take k).length = L at *
                  have HL := hid hL
                  clear hL
                  have wL : IntKind.i64.wrap (st + (L : Int)) = st + (L : Int) := IntWalk.i64_in _ (by omega)
                  have HOW := hid hown
                  have Hd2 := hid hd2
                  clear hown hd2
                  by_cases hu : 5 ≤ k ∧ k < 5 + s
                  · have hd3 : d = b.getD (k - 5) zeroS := by have := Hd2.out; rw [if_pos hu] at this; exact Option.some.inj this
                    obtain ⟨j, hj⟩ : ∃ j : Nat, (k : Int) - 5 = (j : Int) := ⟨k - 5, by omega⟩
                    have hjk : k - 5 = j := by omega
                    have hjs : j < s := by omega
                    have hpj : wr.cell? ⟨gp, j, none⟩ = some (.string d) := by rw [hd3, hjk]; exact below_cell hbq (Hpc.out j hjs)
                    have hci : wr.cell? ⟨go, i, none⟩ = some (.slice (some ⟨gp, 0, none⟩) s cp) := below_cell hbq hcx
                    have l2 : (j : Int) < (s : Int) := by omega
                    have u1 : decide ((5 : Int) ≤ (k : Int)) = true := decide_eq_true (by omega)
                    have u2 : decide ((k : Int) < 5 + (s : Int)) = true := decide_eq_true (by omega)
                    have wj : IntKind.i64.wrap (j : Int) = (j : Int) := IntWalk.i64_in _ (by omega)
                    have w5 : IntKind.i64.wrap (5 + (s : Int)) = 5 + (s : Int) := IntWalk.i64_in _ (by omega)
                    clear hd3 hjk hu
                    go_wp2_with fail
                    refine (HZ.out _).mono ?_
                    rintro e w3 ⟨rfl, hb3⟩
                    have HO3 := hid (own_below HOW.out hb3)
                    have L3 := bthen hbq hb3
                    have hw3 := L3.size
                    replace hpj := below_cell hb3 hpj
                    replace hci := below_cell hb3 hci
                    have z1 := World.block_lt_of_cell? w3 _ hpj
                    have z2 := World.block_lt_of_cell? w3 _ hci
                    have z1' : gp < w3.heap.size := z1
                    have z2' : go < w3.heap.size := z2
                    clear hb3
                    go_wp2_with (at_builtin; refine wpList_append_own _ rfl _ _ 38 rfl W1.heap.size 53 i0 (.agg #[.int .i64 0, .int .i64 0, .int .i64 0, .int .i64 0, .int .i64 0, .int .i64 0, .string { data := #[] }]) 7 64 Try.underlying38 hi hz0 hz1 hz2 rfl (by decide) _ _ _ rfl ((HO3.out.alloc _).alloc _) ⟨w3.heap.size + 1, 0, none⟩ 1 1 (secC (st + (L : Int)) d) rfl rfl ?c1 ?c2 ?c3 ?c4 ?c5 ?_)
                    case c1 =>
                      intro j u hj
                      unfold secC at hj
                      match j, hj with
                      | 0, hj => simp at hj; subst hj; simp [Addr.add]
                      | 1, hj => simp at hj; subst hj; simp [Addr.add]
                      | 2, hj => simp at hj; subst hj; simp [Addr.add]
                      | 3, hj => simp at hj; subst hj; simp [Addr.add]
                      | 4, hj => simp at hj; subst hj; simp [Addr.add]
                      | 5, hj => simp at hj; subst hj; simp [Addr.add]
                      | 6, hj => simp at hj; subst hj; simp [Addr.add]
                    case c2 => intro u hu; unfold secC at hu; simp at hu; rcases hu with rfl | rfl | rfl <;> rfl
                    case c3 => unfold maxLen; omega
                    case c4 => omega
                    case c5 => simp; omega
                    intro v5 w5 hown5 hgrow5 _
                    have hb5 : Below W1.heap.size W1 w5 := (balloc (balloc L3 _) _).grown hgrow5 (by simp; omega) (fun r hr => (HO3.out.lt r hr).1)
                    have HO5 : Hid (w5.ownsRow W1.heap.size 53 7 v5 (D ++ K.take (k + 1)).length (secsC st 0 (D ++ K.take (k + 1)))) := by
                      unfold Hid
                      rw [HTK.out, List.length_append, HSN.out, HL.out]
                      exact hown5
                    clear hown5 hgrow5
                    go_wp2_with fail
                    go_roundw
                    case rel => exact ⟨k + 1, by omega, by go_num, HO5.out, hb5⟩
                    case measure => simp [RowKit.intOf]; omega
                  · have hd3 : d = zeroS := by have := Hd2.out; rw [if_neg hu] at this; exact Option.some.inj this
                    have w5 : IntKind.i64.wrap (5 + (s : Int)) = 5 + (s : Int) := IntWalk.i64_in _ (by omega)
                    subst hd3
                    generalize hZz : zeroS = Zz at *
                    by_cases h5 : 5 ≤ k
                    · have u1 : decide ((5 : Int) ≤ (k : Int)) = true := decide_eq_true (by omega)
                      have u2 : decide ((k : Int) < 5 + (s : Int)) = false := decide_eq_false (by omega)
                      clear hu
                      go_wp2_with fail
                      refine (HZ.out _).mono ?_
                      rintro e w3 ⟨rfl, hb3⟩
                      have HO3 := hid (own_below HOW.out hb3)
                      have L3 := bthen hbq hb3
                      have hw3 := L3.size
                      clear hb3
                      go_wp2_with (at_builtin; refine wpList_append_own _ rfl _ _ 38 rfl W1.heap.size 53 i0 (.agg #[.int .i64 0, .int .i64 0, .int .i64 0, .int .i64 0, .int .i64 0, .int .i64 0, .string { data := #[] }]) 7 64 Try.underlying38 hi hz0 hz1 hz2 rfl (by decide) _ _ _ rfl ((HO3.out.alloc _).alloc _) ⟨w3.heap.size + 1, 0, none⟩ 1 1 (secC (st + (L : Int)) Zz) rfl rfl ?c1 ?c2 ?c3 ?c4 ?c5 ?_)
                      case c1 =>
                        intro j u hj
                        unfold secC at hj
                        match j, hj with
                        | 0, hj => simp at hj; subst hj; simp [Addr.add]
                        | 1, hj => simp at hj; subst hj; simp [Addr.add]
                        | 2, hj => simp at hj; subst hj; simp [Addr.add]
                        | 3, hj => simp at hj; subst hj; simp [Addr.add]
                        | 4, hj => simp at hj; subst hj; simp [Addr.add]
                        | 5, hj => simp at hj; subst hj; simp [Addr.add]
                        | 6, hj => simp at hj; subst hj; simp [Addr.add]
                      case c2 => intro u hu; unfold secC at hu; simp at hu; rcases hu with rfl | rfl | rfl <;> rfl
                      case c3 => unfold maxLen; omega
                      case c4 => omega
                      case c5 => simp; omega
                      intro v5 w5 hown5 hgrow5 _
                      have hb5 : Below W1.heap.size W1 w5 := (balloc (balloc L3 _) _).grown hgrow5 (by simp; omega) (fun r hr => (HO3.out.lt r hr).1)
                      have HO5 : Hid (w5.ownsRow W1.heap.size 53 7 v5 (D ++ K.take (k + 1)).length (secsC st 0 (D ++ K.take (k + 1)))) := by
                        unfold Hid
                        rw [HTK.out, List.length_append, HSN.out, HL.out]
                        exact hown5
                      clear hown5 hgrow5
                      go_wp2_with fail
                      go_roundw
                      case rel => exact ⟨k + 1, by omega, by go_num, HO5.out, hb5⟩
                      case measure => simp [RowKit.intOf]; omega
                    · have u1 : decide ((5 : Int) ≤ (k : Int)) = false := decide_eq_false (by omega)
                      clear hu
                      go_wp2_with fail
                      refine (HZ.out _).mono ?_
                      rintro e w3 ⟨rfl, hb3⟩
                      have HO3 := hid (own_below HOW.out hb3)
                      have L3 := bthen hbq hb3
                      have hw3 := L3.size
                      clear hb3
                      go_wp2_with (at_builtin; refine wpList_append_own _ rfl _ _ 38 rfl W1.heap.size 53 i0 (.agg #[.int .i64 0, .int .i64 0, .int .i64 0, .int .i64 0, .int .i64 0, .int .i64 0, .string { data := #[] }]) 7 64 Try.underlying38 hi hz0 hz1 hz2 rfl (by decide) _ _ _ rfl ((HO3.out.alloc _).alloc _) ⟨w3.heap.size + 1, 0, none⟩ 1 1 (secC (st + (L : Int)) Zz) rfl rfl ?c1 ?c2 ?c3 ?c4 ?c5 ?_)
                      case c1 =>
                        intro j u hj
                        unfold secC at hj
                        match j, hj with
                        | 0, hj => simp at hj; subst hj; simp [Addr.add]
                        | 1, hj => simp at hj; subst hj; simp [Addr.add]
                        | 2, hj => simp at hj; subst hj; simp [Addr.add]
                        | 3, hj => simp at hj; subst hj; simp [Addr.add]
                        | 4, hj => simp at hj; subst hj; simp [Addr.add]
                        | 5, hj => simp at hj; subst hj; simp [Addr.add]
                        | 6, hj => simp at hj; subst hj; simp [Addr.add]
                      case c2 => intro u hu; unfold secC at hu; simp at hu; rcases hu with rfl | rfl | rfl <;> rfl
                      case c3 => unfold maxLen; omega
                      case c4 => omega
                      case c5 => simp; omega
                      intro v5 w5 hown5 hgrow5 _
                      have hb5 : Below W1.heap.size W1 w5 := (balloc (balloc L3 _) _).grown hgrow5 (by simp; omega) (fun r hr => (HO3.out.lt r hr).1)
                      have HO5 : Hid (w5.ownsRow W1.heap.size 53 7 v5 (D ++ K.take (k + 1)).length (secsC st 0 (D ++ K.take (k + 1)))) := by
                        unfold Hid
                        rw [HTK.out, List.length_append, HSN.out, HL.out]
                        exact hown5
                      clear hown5 hgrow5
                      go_wp2_with fail
                      go_roundw
                      case rel => exact ⟨k + 1, by omega, by go_num, HO5.out, hb5⟩
                      case measure => simp [RowKit.intOf]; omega
                · have d2 : decide ((k : Int) < (s : Int) + 7) = false := decide_eq_false (by omega)
                  have e : D ++ K.take k = D2 := by rw [List.take_of_length_le (by rw [Hkl.out]; omega), Hds.out]
                  rw [e] at hown
                  have HOW := hid hown
                  clear hown e
                  go_wp2_with fail
                  go_roundw
                  case rel => exact ⟨i + 1, by omega, by go_num, by rw [HD2.out]; exact HOW.out, hbq⟩
                  case measure => simp [RowKit.intOf]; omega
            · have hie : i = N := by omega
              have d1 : decide ((i : Int) < (N : Int)) = false := decide_eq_false (by omega)
              rw [hie] at hown
              obtain ⟨pr, cr, rfl⟩ := own_len hown
              have HOr := hid hown
              clear hown hie
              go_wp2_with fail
              go_ret2
              refine ⟨⟨.slice pr (dsP s bs N).length cr, by rw [HE.out]; rfl, ?_⟩, bthen hb1 hbel⟩
              rw [HE.out]
              exact own_base HOr.out hW1
  · have HE := hid (recD_bad (s := s) (st := st) hok)
    clear hok
    go_wp2_with fail
    go_ret2
    exact RecP.err HE.out hb1
end Go.Proofs.Ytpcfjlfdjkifgaa

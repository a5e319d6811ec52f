/-
  The walk of the law PacketRecords.
-/
import Derived.Test.YtpcfjlfdjkifgaaPrZ
import Derived.Test.YtpcfjlfdjkifgaaPrQ
namespace Go.Proofs.Ytpcfjlfdjkifgaa
open Go.RowKit Go.Lib
set_option linter.unusedVariables false
set_option linter.unusedSimpArgs false

theorem spA_len (a : Int) (h4 : a ≤ 40 ∨ 1024 < a) (bs : List ByteArray) (hn : bs.length ≤ 20) : (spA a bs).1.length ≤ 100000 ∧ ∀ x ∈ (spA a bs).1, x.length ≤ 100000 := by
  unfold spA
  by_cases h : szB a = true ∧ okL bs = true
  · have hb := szB_true h.1
    rw [if_pos h]
    have hnp : npk a.toNat bs.length ≤ 20 := Nat.le_trans (npk_le a.toNat _ (by omega)) hn
    refine ⟨by rw [preL_len]; omega, fun x hx => ?_⟩
    unfold preL at hx
    rw [List.mem_map] at hx
    obtain ⟨p, _, rfl⟩ := hx
    rw [pkt_len]; omega
  · rw [if_neg h]
    exact ⟨by simp, fun x hx => by simp at hx⟩
theorem recA_len (a st : Int) (h4 : a ≤ 40 ∨ 1024 < a) (bs : List ByteArray) (hn : bs.length ≤ 20) : (recA a st bs).1.length ≤ 100000 := by
  unfold recA
  by_cases h : szB a = true
  · have hb := szB_true h
    rw [if_pos h]
    unfold recD
    by_cases h1 : okL bs = true
    · rw [if_pos h1]
      by_cases h2 : 0 ≤ st ∧ st ≤ 449849 ∧ st + ((npk a.toNat bs.length * (a.toNat + 7) : Nat) : Int) - 1 ≤ 449849
      · rw [if_pos h2]
        have hnp : npk a.toNat bs.length ≤ 20 := Nat.le_trans (npk_le a.toNat _ (by omega)) hn
        have := Nat.mul_le_mul hnp (show a.toNat + 7 ≤ 47 by omega)
        rw [dsP_len]; omega
      · rw [if_neg h2]; simp
    · rw [if_neg h1]; simp
  · rw [if_neg h]; simp
theorem colA_len (a : Int) (xs : List Sec7) (hn : xs.length ≤ 40) : (colA a xs).1.length ≤ 100000 := by
  unfold colA
  by_cases h : szB a = true
  · rw [if_pos h]
    by_cases h1 : xs.length % (a.toNat + 7) = 0 ∧ allGB a.toNat xs = true
    · rw [if_pos h1]
      have := colX_le a.toNat xs xs.length
      show (colX a.toNat xs xs.length).length ≤ 100000
      omega
    · rw [if_neg h1]; simp
  · rw [if_neg h]; simp

set_option maxRecDepth 20000 in
set_option maxHeartbeats 2000000 in
theorem records_near (a st : Int) (hst : -9223372036854775808 ≤ st ∧ st ≤ 9223372036854775807) (h4 : a ≤ 40 ∨ 1024 < a) (v v3 : Value) (bs : List ByteArray) (xs : List Sec7) (hn : bs.length ≤ 20) (hx : xs.length ≤ 40) (w : World) (hv : SR w v bs) (hs : SecR w v3 xs) :
    Calls Try.prog 8 #[.int .i64 a, .int .i64 st, v, v3] w fun e w' => e = .returned (.bool true) ∧ Below w.heap.size w w' := by
  have H1 := hid (fun w hv => Split_all a v bs hn w hv)
  have H2 := hid (fun w hv => refSplit_all a v bs hn w hv)
  have H3 := hid (fun w hv => Record_all a st h4 v bs hn w hv)
  have H4 := hid (fun w hv => refRecord_all a st hst h4 v bs hn w hv)
  have H5 := hid (fun w hs => Collect_all a v3 xs hx w hs)
  have H6 := hid (fun w hs => refCollect_all a v3 xs hx w hs)
  have LS := hid (spA_len a h4 bs hn)
  have LR := hid (recA_len a st h4 bs hn)
  have LC := hid (colA_len a xs hx)
  have HV := hid hv
  have HX := hid hs
  obtain ⟨p, cap, rfl⟩ := hv.len
  obtain ⟨p3, cap3, rfl⟩ := hs.len
  clear hv hs
  generalize hN : bs.length = n at *
  generalize hM : xs.length = m at *
  have d1 : decide (20 < (n : Int)) = false := decide_eq_false (by omega)
  have d1n : ¬ (20 < n) := by omega
  have d2 : decide (40 < (m : Int)) = false := decide_eq_false (by omega)
  have d2n : ¬ (40 < m) := by omega
  clear hN hM
  generalize hS : spA a bs = SA at *
  generalize hR : recA a st bs = RA at *
  generalize hC : colA a xs = CA at *
  have HS := hid hS
  have HR := hid hR
  have HC := hid hC
  clear hS hR hC
  rcases h4 with h4 | h4
  · have d3 : decide (40 < a) = false := decide_eq_false (by omega)
    go_enter Try.func8, Try.ntmps8
    go_wp2_with fail
    refine (awake_any _).mono ?_
    rintro e w1 ⟨rfl, L1⟩
    have hV := HV.out.below L1
    go_wp2_with fail
    refine (H1.out _ hV).mono ?_
    rintro e w2 ⟨⟨va, vas, he, hpa⟩, hb⟩
    rw [HS.out] at he hpa
    subst he
    have HPa := hid hpa
    have L2 := bthen L1 hb
    have hV := HV.out.below L2
    clear hpa hb
    go_wp2_with fail
    refine (H2.out _ hV).mono ?_
    rintro e w3 ⟨⟨vb, vbs, he, hpb⟩, hb⟩
    rw [HS.out] at he hpb
    subst he
    have HPb := hid hpb
    have HPa := hid (HPa.out.below hb)
    have L3 := bthen L2 hb
    have hV := HV.out.below L3
    clear hpb hb
    go_wp2_with fail
    refine (H3.out _ hV).mono ?_
    rintro e w4 ⟨⟨vc, he, hoc⟩, hb⟩
    rw [HR.out] at he hoc
    subst he
    have HOc := hid hoc
    have HPb := hid (HPb.out.below hb)
    have HPa := hid (HPa.out.below hb)
    have L4 := bthen L3 hb
    have hV := HV.out.below L4
    clear hoc hb
    go_wp2_with fail
    refine (H4.out _ hV).mono ?_
    rintro e w5 ⟨⟨vd, he, hod⟩, hb⟩
    rw [HR.out] at he hod
    subst he
    have HOd := hid hod
    have HOc := hid (own_below HOc.out hb)
    have HPb := hid (HPb.out.below hb)
    have HPa := hid (HPa.out.below hb)
    have L5 := bthen L4 hb
    have hX := HX.out.below L5
    clear hod hb hV
    go_wp2_with fail
    refine (H5.out _ hX).mono ?_
    rintro e w6 ⟨⟨vx, he, hox⟩, hb⟩
    rw [HC.out] at he hox
    subst he
    have HOx := hid hox
    have HOd := hid (own_below HOd.out hb)
    have HOc := hid (own_below HOc.out hb)
    have HPb := hid (HPb.out.below hb)
    have HPa := hid (HPa.out.below hb)
    have L6 := bthen L5 hb
    have hX := HX.out.below L6
    clear hox hb
    go_wp2_with fail
    refine (H6.out _ hX).mono ?_
    rintro e w7 ⟨⟨vy, he, hoy⟩, hb⟩
    rw [HC.out] at he hoy
    subst he
    have HOy := hid hoy
    have HOx := hid (own_below HOx.out hb)
    have HOd := hid (own_below HOd.out hb)
    have HOc := hid (own_below HOc.out hb)
    have HPb := hid (HPb.out.below hb)
    have HPa := hid (HPa.out.below hb)
    have L7 := bthen L6 hb
    have e1 : (SA.2 == SA.2) = true := beq_self_eq_true _
    have e2 : (RA.2 == RA.2) = true := beq_self_eq_true _
    have e3 : (CA.2 == CA.2) = true := beq_self_eq_true _
    clear hoy hb hX
    go_wp2_with fail
    refine (SamePackets_same _ _ va vb vas vbs SA.1 _ LS.out.1 LS.out.2 HPa.out HPb.out).mono ?_
    rintro e w8 ⟨rfl, hb⟩
    have HOy := hid (own_below HOy.out hb)
    have HOx := hid (own_below HOx.out hb)
    have HOd := hid (own_below HOd.out hb)
    have HOc := hid (own_below HOc.out hb)
    have L8 := bthen L7 hb
    clear hb
    go_wp2_with fail
    refine (SameSectors_same _ _ vc vd st RA.1 _ LR.out HOc.out HOd.out).mono ?_
    rintro e w9 ⟨rfl, hb⟩
    have HOy := hid (own_below HOy.out hb)
    have HOx := hid (own_below HOx.out hb)
    have L9 := bthen L8 hb
    clear hb
    go_wp2_with fail
    refine (Strings_same vx vy CA.1 _ LC.out (own_SR HOx.out) (own_SR HOy.out)).mono ?_
    rintro e w10 ⟨rfl, hb⟩
    have L10 := bthen L9 hb
    clear hb
    go_wp2_with fail
    go_ret
    exact ⟨rfl, L10⟩
  · have d3 : decide (40 < a) = true := decide_eq_true (by omega)
    have d4 : decide (a ≤ 1024) = false := decide_eq_false (by omega)
    go_enter Try.func8, Try.ntmps8
    go_wp2_with fail
    refine (awake_any _).mono ?_
    rintro e w1 ⟨rfl, L1⟩
    have hV := HV.out.below L1
    go_wp2_with fail
    refine (H1.out _ hV).mono ?_
    rintro e w2 ⟨⟨va, vas, he, hpa⟩, hb⟩
    rw [HS.out] at he hpa
    subst he
    have HPa := hid hpa
    have L2 := bthen L1 hb
    have hV := HV.out.below L2
    clear hpa hb
    go_wp2_with fail
    refine (H2.out _ hV).mono ?_
    rintro e w3 ⟨⟨vb, vbs, he, hpb⟩, hb⟩
    rw [HS.out] at he hpb
    subst he
    have HPb := hid hpb
    have HPa := hid (HPa.out.below hb)
    have L3 := bthen L2 hb
    have hV := HV.out.below L3
    clear hpb hb
    go_wp2_with fail
    refine (H3.out _ hV).mono ?_
    rintro e w4 ⟨⟨vc, he, hoc⟩, hb⟩
    rw [HR.out] at he hoc
    subst he
    have HOc := hid hoc
    have HPb := hid (HPb.out.below hb)
    have HPa := hid (HPa.out.below hb)
    have L4 := bthen L3 hb
    have hV := HV.out.below L4
    clear hoc hb
    go_wp2_with fail
    refine (H4.out _ hV).mono ?_
    rintro e w5 ⟨⟨vd, he, hod⟩, hb⟩
    rw [HR.out] at he hod
    subst he
    have HOd := hid hod
    have HOc := hid (own_below HOc.out hb)
    have HPb := hid (HPb.out.below hb)
    have HPa := hid (HPa.out.below hb)
    have L5 := bthen L4 hb
    have hX := HX.out.below L5
    clear hod hb hV
    go_wp2_with fail
    refine (H5.out _ hX).mono ?_
    rintro e w6 ⟨⟨vx, he, hox⟩, hb⟩
    rw [HC.out] at he hox
    subst he
    have HOx := hid hox
    have HOd := hid (own_below HOd.out hb)
    have HOc := hid (own_below HOc.out hb)
    have HPb := hid (HPb.out.below hb)
    have HPa := hid (HPa.out.below hb)
    have L6 := bthen L5 hb
    have hX := HX.out.below L6
    clear hox hb
    go_wp2_with fail
    refine (H6.out _ hX).mono ?_
    rintro e w7 ⟨⟨vy, he, hoy⟩, hb⟩
    rw [HC.out] at he hoy
    subst he
    have HOy := hid hoy
    have HOx := hid (own_below HOx.out hb)
    have HOd := hid (own_below HOd.out hb)
    have HOc := hid (own_below HOc.out hb)
    have HPb := hid (HPb.out.below hb)
    have HPa := hid (HPa.out.below hb)
    have L7 := bthen L6 hb
    have e1 : (SA.2 == SA.2) = true := beq_self_eq_true _
    have e2 : (RA.2 == RA.2) = true := beq_self_eq_true _
    have e3 : (CA.2 == CA.2) = true := beq_self_eq_true _
    clear hoy hb hX
    go_wp2_with fail
    refine (SamePackets_same _ _ va vb vas vbs SA.1 _ LS.out.1 LS.out.2 HPa.out HPb.out).mono ?_
    rintro e w8 ⟨rfl, hb⟩
    have HOy := hid (own_below HOy.out hb)
    have HOx := hid (own_below HOx.out hb)
    have HOd := hid (own_below HOd.out hb)
    have HOc := hid (own_below HOc.out hb)
    have L8 := bthen L7 hb
    clear hb
    go_wp2_with fail
    refine (SameSectors_same _ _ vc vd st RA.1 _ LR.out HOc.out HOd.out).mono ?_
    rintro e w9 ⟨rfl, hb⟩
    have HOy := hid (own_below HOy.out hb)
    have HOx := hid (own_below HOx.out hb)
    have L9 := bthen L8 hb
    clear hb
    go_wp2_with fail
    refine (Strings_same vx vy CA.1 _ LC.out (own_SR HOx.out) (own_SR HOy.out)).mono ?_
    rintro e w10 ⟨rfl, hb⟩
    have L10 := bthen L9 hb
    clear hb
    go_wp2_with fail
    go_ret
    exact ⟨rfl, L10⟩

/-- Inputs beyond the bounds. -/
theorem records_far (a st : Int) (v v3 : Value) (bs : List ByteArray) (xs : List Sec7) (hf : 20 < bs.length ∨ 40 < xs.length ∨ (40 < a ∧ a ≤ 1024)) (w : World) (hv : SR w v bs) (hs : SecR w v3 xs) :
    Calls Try.prog 8 #[.int .i64 a, .int .i64 st, v, v3] w fun e w' => e = .returned (.bool true) ∧ Below w.heap.size w w' := by
  obtain ⟨p, cap, rfl⟩ := hv.len
  obtain ⟨p3, cap3, rfl⟩ := hs.len
  clear hv hs
  generalize bs.length = n at *
  generalize xs.length = m at *
  by_cases h1 : 20 < n
  · have d1 : decide (20 < (n : Int)) = true := decide_eq_true (by omega)
    clear hf
    go_enter Try.func8, Try.ntmps8
    go_wp2_with fail
    refine (awake_any _).mono ?_
    rintro e w1 ⟨rfl, hb⟩
    go_wp2_with fail
    go_ret
    exact ⟨rfl, hb⟩
  · have d1 : decide (20 < (n : Int)) = false := decide_eq_false (by omega)
    by_cases h2 : 40 < m
    · have d2 : decide (40 < (m : Int)) = true := decide_eq_true (by omega)
      clear hf
      go_enter Try.func8, Try.ntmps8
      go_wp2_with fail
      refine (awake_any _).mono ?_
      rintro e w1 ⟨rfl, hb⟩
      go_wp2_with fail
      go_ret
      exact ⟨rfl, hb⟩
    · have d2 : decide (40 < (m : Int)) = false := decide_eq_false (by omega)
      have d3 : decide (40 < a) = true := decide_eq_true (by omega)
      have d4 : decide (a ≤ 1024) = true := decide_eq_true (by omega)
      clear hf
      go_enter Try.func8, Try.ntmps8
      go_wp2_with fail
      refine (awake_any _).mono ?_
      rintro e w1 ⟨rfl, hb⟩
      go_wp2_with fail
      go_ret
      exact ⟨rfl, hb⟩
theorem PacketRecords_law (a st : Int) (hst : (Lit.int .i64 st).wf = true) (v v3 : Value) (bs : List ByteArray) (xs : List Sec7) (w : World) (hv : SR w v bs) (hs : SecR w v3 xs) :
    Calls Try.prog 8 #[.int .i64 a, .int .i64 st, v, v3] w fun e w' => e = .returned (.bool true) ∧ Below w.heap.size w w' := by
  by_cases hf : 20 < bs.length ∨ 40 < xs.length ∨ (40 < a ∧ a ≤ 1024)
  · exact records_far a st v v3 bs xs hf w hv hs
  · exact records_near a st (bounds_i64 hst) (by omega) v v3 bs xs (by omega) (by omega) w hv hs
end Go.Proofs.Ytpcfjlfdjkifgaa

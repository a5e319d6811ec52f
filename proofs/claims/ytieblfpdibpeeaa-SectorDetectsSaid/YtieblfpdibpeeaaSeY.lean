/-
  A parsed sector is the one that is built for its contents, apart from the parity.
-/
import Derived.Test.YtieblfpdibpeeaaSeX
namespace Go.Proofs.Ytieblfpdibpeeaa
open Go.RowKit Go.Lib
set_option linter.unusedVariables false
set_option linter.unusedSimpArgs false

theorem beq_ba {x y : ByteArray} (h : (x.toList == y.toList) = true) : x = y := by
  rw [beq_iff_eq, toList_data, toList_data] at h
  exact ba_ext h
theorem ext_nums (r : ByteArray) (i n : Nat) (h : i + n ≤ r.size) : r.extract i (i + n) = strOfNums ((List.range n).map fun j => ((at_ r (i + j) : Nat) : Int)) := by
  apply ba_ext
  rw [ext_l, strOfNums_data, List.map_map]
  have hl := len_l r
  apply List.ext_getElem
  · rw [List.length_drop, List.length_take, List.length_map, List.length_range]; omega
  · intro j h1 h2
    rw [List.getElem_drop, List.getElem_take, List.getElem_map, List.getElem_range]
    rw [List.length_map, List.length_range] at h2
    show _ = UInt8.ofNat (((at_ r (i + j) : Nat) : Int)).toNat
    rw [Int.toNat_natCast]
    unfold at_
    rw [UInt8.ofNat_toNat, List.getD_eq_getElem?_getD, List.getElem?_eq_getElem (by omega)]; rfl
theorem ext_size (r : ByteArray) (a b : Nat) (h : b ≤ r.size) : (r.extract a b).size = b - a := by simp; omega
/-- What a parse without an error says. -/
theorem parse_ok {r : ByteArray} (h : (parseE r).e = 0) : (kindE r).2 = 0 ∧ frontB r = true ∧ restB r (kindE r).1 = true ∧ chkB r = true ∧ parseE r = getP r (kindE r).1 := by
  unfold parseE at h ⊢
  by_cases h1 : (kindE r).2 ≠ 0
  · rw [if_pos h1] at h; exact absurd h h1
  · rw [if_neg h1] at h ⊢
    by_cases h2 : (frontB r && restB r (kindE r).1) = false
    · rw [if_pos h2] at h; exact absurd h (by decide)
    · rw [if_neg h2] at h ⊢
      by_cases h3 : chkB r = false
      · rw [if_pos h3] at h; exact absurd h (by decide)
      · rw [if_neg h3]
        have q : (frontB r && restB r (kindE r).1) = true := by simpa using h2
        rw [Bool.and_eq_true] at q
        exact ⟨by omega, q.1, q.2, by simpa using h3, rfl⟩
theorem parse_no {r : ByteArray} (h : (parseE r).e ≠ 0) : parseE r = PR.no (parseE r).e := by
  unfold parseE at h ⊢
  by_cases h1 : (kindE r).2 ≠ 0
  · rw [if_pos h1]; rfl
  · rw [if_neg h1] at h ⊢
    by_cases h2 : (frontB r && restB r (kindE r).1) = false
    · rw [if_pos h2]; rfl
    · rw [if_neg h2] at h ⊢
      by_cases h3 : chkB r = false
      · rw [if_pos h3]; rfl
      · rw [if_neg h3] at h
        exfalso; apply h
        unfold getP; by_cases q : (kindE r).1 = 0
        · rw [if_pos q]
        · rw [if_neg q]
theorem adr_ok {r : ByteArray} (h : frontB r = true) : (r.extract 0 12) = syncS ∧ ∃ m s f : Int, adr r = (m, s, f, 0) ∧ (0 ≤ m ∧ m ≤ 99 ∧ 0 ≤ s ∧ s ≤ 59 ∧ 0 ≤ f ∧ f ≤ 74) ∧
    UInt8.ofNat (bcd m).toNat = UInt8.ofNat (at_ r 12) ∧ UInt8.ofNat (bcd s).toNat = UInt8.ofNat (at_ r 13) ∧ UInt8.ofNat (bcd f).toNat = UInt8.ofNat (at_ r 14) := by
  unfold frontB at h
  rw [Bool.and_eq_true, decide_eq_true_eq] at h
  obtain ⟨h1, h2⟩ := h
  refine ⟨beq_ba h2, ?_⟩
  unfold adr dE at h1 ⊢
  by_cases q : (fb (at_ r 12)).2 = 0 ∧ (fb (at_ r 13)).2 = 0 ∧ (fb (at_ r 14)).2 = 0 ∧ okM (fb (at_ r 12)).1 (fb (at_ r 13)).1 (fb (at_ r 14)).1 = true
  · rw [if_pos q]
    refine ⟨_, _, _, rfl, ?_, bcd_fb _ (at_lt r 12) q.1, bcd_fb _ (at_lt r 13) q.2.1, bcd_fb _ (at_lt r 14) q.2.2.1⟩
    have := q.2.2.2
    unfold okM at this
    exact of_decide_eq_true this
  · rw [if_neg q] at h1; exact absurd h1 (by decide)
theorem head_of {r : ByteArray} (hs : r.size = 2352) (h : frontB r = true) (b l : Int) (hb : UInt8.ofNat b.toNat = UInt8.ofNat (at_ r 15)) (hl : l = (60 * (adr r).1 + (adr r).2.1) * 75 + (adr r).2.2.1 - 150) :
    headS (l + 150) b = r.extract 0 16 ∧ -150 ≤ l ∧ l ≤ 449849 := by
  obtain ⟨h1, m, s, f, ha, hr, e0, e1, e2⟩ := adr_ok h
  rw [ha] at hl
  have hl' : l = (60 * m + s) * 75 + f - 150 := hl
  have q0 : (l + 150) / 75 / 60 = m := by omega
  have q1 : (l + 150) / 75 % 60 = s := by omega
  have q2 : (l + 150) % 75 = f := by omega
  refine ⟨?_, by omega, by omega⟩
  unfold headS msfS
  rw [q0, q1, q2, ← h1]
  have a1 : strOfNums [bcd m, bcd s, bcd f] = r.extract 12 15 := by
    rw [show (15 : Nat) = 12 + 3 from rfl, ext_nums r 12 3 (by omega)]
    apply ba_ext
    rw [strOfNums_data, strOfNums_data]
    show [UInt8.ofNat (bcd m).toNat, UInt8.ofNat (bcd s).toNat, UInt8.ofNat (bcd f).toNat] = [UInt8.ofNat (at_ r 12), UInt8.ofNat (at_ r 13), UInt8.ofNat (at_ r 14)]
    rw [e0, e1, e2]
  have a2 : strOfNums [b] = r.extract 15 16 := by
    rw [show (16 : Nat) = 15 + 1 from rfl, ext_nums r 15 1 (by omega)]
    apply ba_ext
    rw [strOfNums_data, strOfNums_data]
    show [UInt8.ofNat b.toNat] = [UInt8.ofNat (at_ r 15)]
    rw [hb]
  rw [a1, a2, ext_join _ _ _ _ (by decide) (by decide), ext_join _ _ _ _ (by decide) (by decide)]
theorem close_of {r : ByteArray} (hs : r.size = 2352) (e o : Nat) (he : e + 4 ≤ 2352) (h : rightB r o e = true) : closeS (r.extract 0 e) (o : Int) = r.extract 0 (e + 4) ++ rep 0 (2352 - (e + 4)) := by
  have z : (r.extract 0 e).size = e := by rw [ext_size _ _ _ (by omega)]; omega
  unfold closeS
  rw [z, Int.toNat_natCast, codeS_cut]
  have : codeS r o e = r.extract e (e + 4) := beq_ba h
  rw [this, ext_join _ _ _ _ (by omega) (by omega)]
theorem kind_byte {r : ByteArray} (h : (kindE r).2 = 0) : r.size = 2352 ∧ ((kindE r).1 = 0 ∧ at_ r 15 = 1 ∨ (kindE r).1 = 1 ∧ at_ r 15 = 2 ∧ at_ r 18 / 32 % 2 ≠ 1 ∨ (kindE r).1 = 2 ∧ at_ r 15 = 2 ∧ at_ r 18 / 32 % 2 = 1) := by
  have hs := (kd_lay r h).1
  refine ⟨hs, ?_⟩
  unfold kindE at h ⊢
  rw [if_pos hs] at h ⊢
  unfold kd at h ⊢
  by_cases h1 : at_ r 15 = 1
  · rw [if_pos h1]; exact .inl ⟨rfl, h1⟩
  · rw [if_neg h1] at h ⊢
    by_cases h2 : at_ r 15 ≠ 2
    · rw [if_pos h2] at h; exact absurd h (by decide)
    · rw [if_neg h2]
      by_cases h3 : at_ r 18 / 32 % 2 = 1
      · rw [if_pos h3]; exact .inr (.inr ⟨rfl, by omega, h3⟩)
      · rw [if_neg h3]; exact .inr (.inl ⟨rfl, by omega, h3⟩)
/-- A sector that is parsed without an error. -/
theorem canon {r : ByteArray} (h : (parseE r).e = 0) : vB (parseE r).l (parseE r).m (parseE r).f (parseE r).c (parseE r).s (parseE r).k (parseE r).d.size = true ∧ r.size = 2352 ∧
    (buildS (parseE r).l (parseE r).m (parseE r).f (parseE r).c (parseE r).s (parseE r).k (parseE r).d).extract 0 2076 = r.extract 0 2076 ∧ ((parseE r).m = 2 → buildS (parseE r).l (parseE r).m (parseE r).f (parseE r).c (parseE r).s (parseE r).k (parseE r).d = r) := by
  obtain ⟨h1, h2, h3, h4, h5⟩ := parse_ok h
  rw [h5]
  obtain ⟨hs, hk⟩ := kind_byte h1
  rcases hk with ⟨k1, k2⟩ | hk
  · rw [k1] at h3 ⊢
    obtain ⟨hh, hl⟩ := head_of hs h2 1 _ (by rw [k2]; rfl) rfl
    have hI : IsLay (kindE r).1 1 16 2048 0 := ⟨.inl ⟨k1, rfl, rfl, rfl, rfl⟩⟩
    rw [chkB_ok h1 hI] at h4
    have hc := close_of hs 2064 0 (by decide) h4
    unfold getP
    rw [if_pos rfl]
    unfold restB at h3
    rw [if_pos rfl] at h3
    have hz := beq_ba h3
    generalize (60 * (adr r).1 + (adr r).2.1) * 75 + (adr r).2.2.1 - 150 = l at *
    show vB l 0 0 0 0 0 (r.extract 16 2064).size = true ∧ r.size = 2352 ∧ (buildS l 0 0 0 0 0 (r.extract 16 2064)).extract 0 2076 = _ ∧ ((0 : Int) = 2 → _)
    have hb : buildS l 0 0 0 0 0 (r.extract 16 2064) = r.extract 0 2068 ++ rep 0 284 := by
      show closeS (frontS (l + 150) 0 1 0 0 0 0 (r.extract 16 2064)) 0 = _
      unfold frontS
      rw [if_pos rfl, hh, ext_join _ _ _ _ (by decide) (by decide)]
      exact hc
    have z : (r.extract 0 2068).size = 2068 := ext_size _ _ _ (by omega)
    refine ⟨?_, hs, ?_, fun q => absurd q (by decide)⟩
    · rw [ext_size _ _ _ (by omega)]
      unfold vB subB
      rw [if_pos rfl, Bool.and_eq_true, decide_eq_true_eq, decide_eq_true_eq]
      exact ⟨⟨by omega, hl.1, hl.2, rfl⟩, rfl, rfl, rfl, rfl⟩
    · rw [hb, ← ext_join _ 0 2068 2076 (by decide) (by decide), ext_left (by rw [z]; exact Nat.le_refl _), ext_app_right (by rw [z]; exact Nat.le_refl _), z, rep_ext _ _ _ _ (by decide), ← hz, extract_two]
      exact ext_join _ _ _ _ (by decide) (by decide)
  · have hm : (kindE r).1 ≠ 0 := by omega
    have k2 : at_ r 15 = 2 := by omega
    obtain ⟨hh, hl⟩ := head_of hs h2 2 _ (by rw [k2]; rfl) rfl
    have hI : IsLay (kindE r).1 2 24 (capE (kindE r).1).1 16 := by
      rcases hk with ⟨q, _⟩ | ⟨q, _⟩
      · rw [q]; exact ⟨.inr (.inl ⟨rfl, rfl, rfl, rfl, rfl⟩)⟩
      · rw [q]; exact ⟨.inr (.inr ⟨rfl, rfl, rfl, rfl, rfl⟩)⟩
    rw [chkB_ok h1 hI] at h4
    have h18 : (at_ r 18 / 32 % 2 = 1 ↔ (kindE r).1 = 2) := by omega
    unfold restB at h3
    rw [if_neg hm, Bool.and_eq_true, decide_eq_true_eq] at h3
    have hz := beq_ba h3.1
    have h17 := h3.2
    have hcap : (kindE r).1 = 1 ∧ (capE (kindE r).1).1 = 2048 ∨ (kindE r).1 = 2 ∧ (capE (kindE r).1).1 = 2324 := by
      rcases hI.or with p | p | p <;> omega
    have hsp : (spanE (kindE r).1).1 = 16 := by rw [hI.span]
    have hcap' := hcap
    unfold getP
    rw [if_neg hm]
    have t16 := at_lt r 16
    have t18 := at_lt r 18
    have t19 := at_lt r 19
    generalize hM : (kindE r).1 = m at *
    obtain ⟨n, hn⟩ : ∃ n : Nat, (capE m).1 = n := ⟨(capE m).1.toNat, by omega⟩
    rw [hn] at hcap h4 hcap' ⊢
    rw [show ((24 : Int) + (n : Int)).toNat = 24 + n by omega] at h4
    rw [Int.toNat_natCast]
    have hc := close_of hs (24 + n) 16 (by omega) h4
    generalize (60 * (adr r).1 + (adr r).2.1) * 75 + (adr r).2.2.1 - 150 = l at *
    show vB l m (at_ r 16) (at_ r 17) (at_ r 18) (at_ r 19) (r.extract 24 (24 + n)).size = true ∧ r.size = 2352 ∧ (buildS l m (at_ r 16) (at_ r 17) (at_ r 18) (at_ r 19) (r.extract 24 (24 + n))).extract 0 2076 = _ ∧ (m = 2 → _ = r)
    have hsub : subS (at_ r 16) (at_ r 17) (at_ r 18) (at_ r 19) = r.extract 16 20 := (ext_nums r 16 4 (by omega)).symm
    have hb : buildS l m (at_ r 16) (at_ r 17) (at_ r 18) (at_ r 19) (r.extract 24 (24 + n)) = r.extract 0 (24 + n + 4) ++ rep 0 (2352 - (24 + n + 4)) := by
      unfold buildS
      rw [hsp, show bMode m = 2 from if_neg hm]
      unfold frontS
      rw [if_neg hm, hh, hsub]
      have : r.extract 0 16 ++ (r.extract 16 20 ++ r.extract 16 20) ++ r.extract 24 (24 + n) = r.extract 0 (24 + n) := by
        rw [show r.extract 16 20 ++ r.extract 16 20 = r.extract 16 20 ++ r.extract 20 24 by rw [← hz], ext_join _ 16 20 24 (by decide) (by decide), ext_join _ _ _ _ (by decide) (by decide), ext_join _ _ _ _ (by decide) (by omega)]
      rw [this]
      exact hc
    have z : (r.extract 0 (24 + n + 4)).size = 24 + n + 4 := ext_size _ _ _ (by omega)
    refine ⟨?_, hs, ?_, ?_⟩
    · rw [ext_size _ _ _ (by omega)]
      unfold vB subB
      rw [if_neg hm, Bool.and_eq_true, decide_eq_true_eq, decide_eq_true_eq, hn]
      exact ⟨⟨by omega, hl.1, hl.2, by omega⟩, by omega, by omega, by omega, by omega, by omega, by omega, by omega, by omega, by omega⟩
    · rw [hb, ext_left (by rw [z]; omega)]
      apply ba_ext
      rw [ext_l, ext_l, ext_l, List.drop_zero, List.drop_zero, List.drop_zero, List.take_take, Nat.min_eq_left (by omega)]
    · intro q
      have : n = 2324 := by omega
      subst this
      rw [hb]
      show r.extract 0 2352 ++ rep 0 0 = r
      have e : rep 0 0 = { data := #[] } := rfl
      rw [e]
      apply ba_ext
      rw [app_l]
      show (r.extract 0 2352).data.toList ++ [] = _
      rw [List.append_nil, ← hs, ext_all]
end Go.Proofs.Ytieblfpdibpeeaa

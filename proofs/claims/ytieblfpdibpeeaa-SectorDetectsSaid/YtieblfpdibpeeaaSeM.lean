/-
  Plain laws of built sectors: their size, their beginning, their kind, and that their code is right.
-/
import Derived.Test.YtieblfpdibpeeaaSeL
namespace Go.Proofs.Ytieblfpdibpeeaa
open Go.RowKit Go.Lib
set_option linter.unusedVariables false
set_option linter.unusedSimpArgs false

theorem ba_ext {a b : ByteArray} (h : a.data.toList = b.data.toList) : a = b := ByteArray.ext (Array.toList_inj.1 h)
theorem app_l (a b : ByteArray) : (a ++ b).data.toList = a.data.toList ++ b.data.toList := by simp
theorem ext_l (r : ByteArray) (a b : Nat) : (r.extract a b).data.toList = (r.data.toList.take b).drop a := by
  simp [List.extract_eq_take_drop, List.drop_take]
theorem len_l (r : ByteArray) : r.data.toList.length = r.size := rfl
theorem ext_left {x y : ByteArray} {a b : Nat} (h : b ≤ x.size) : (x ++ y).extract a b = x.extract a b := by
  apply ba_ext
  rw [ext_l, ext_l, app_l, List.take_append_of_le_length (by rw [len_l]; exact h)]
theorem ext_mid (x y z : ByteArray) : (x ++ y ++ z).extract x.size (x.size + y.size) = y := by
  apply ba_ext
  rw [ext_l, app_l, app_l, List.take_append_of_le_length (by rw [List.length_append, len_l, len_l]; exact Nat.le_refl _),
    List.take_of_length_le (by rw [List.length_append, len_l, len_l]; exact Nat.le_refl _), List.drop_left' (len_l x)]
theorem codeS_left {x y : ByteArray} {a b : Nat} (h : b ≤ x.size) : codeS (x ++ y) a b = codeS x a b := by
  unfold codeS; rw [ext_left h]

theorem head_size (n b : Int) : (headS n b).size = 16 := by
  unfold headS msfS syncS
  rw [ByteArray.size_append, ByteArray.size_append, strOfNums_size, strOfNums_size, strOfNums_size]; rfl
theorem sub_size (f c s k : Int) : (subS f c s k).size = 4 := strOfNums_size _
theorem front_size (n m b f c s k : Int) (d : ByteArray) : (frontS n m b f c s k d).size = (if m = 0 then 16 else 24) + d.size := by
  unfold frontS
  by_cases h : m = 0
  · rw [if_pos h, if_pos h, ByteArray.size_append, head_size]
  · rw [if_neg h, if_neg h, ByteArray.size_append, ByteArray.size_append, ByteArray.size_append, head_size, sub_size]
theorem close_size (x : ByteArray) (o : Int) (h : x.size + 4 ≤ 2352) : (closeS x o).size = 2352 := by
  unfold closeS
  rw [ByteArray.size_append, ByteArray.size_append, codeS_size, rep_size]; omega

theorem vB_data {l m f c s k n : Int} (h : vB l m f c s k n = true) : n = (capE m).1 := by
  unfold vB at h
  rw [Bool.and_eq_true, decide_eq_true_eq] at h
  exact h.1.2.2.2
/-- The layout of valid contents, and how long their front is. -/
theorem vB_lay {l m f c s k : Int} {d : ByteArray} (h : vB l m f c s k d.size = true) : ∃ x y o, IsLay m (bMode m) x y o ∧ (frontS (l + 150) m (bMode m) f c s k d).size = (x + y).toNat ∧ (d.size : Int) = y ∧ (x + y).toNat + 4 ≤ 2352 ∧ o.toNat ≤ 16 := by
  have hd := vB_data h
  rcases vB_mode h with rfl | ⟨lc, hI⟩
  · have hd' : (d.size : Int) = 2048 := hd
    refine ⟨16, 2048, 0, ⟨.inl ⟨rfl, rfl, rfl, rfl, rfl⟩⟩, ?_, hd', by decide, by decide⟩
    rw [front_size, if_pos rfl]; omega
  · have hm : m ≠ 0 := by rcases hI.or with h | h | h <;> omega
    rw [hI.cap] at hd
    have hd' : (d.size : Int) = lc := hd
    have hlc := hI.bd.2.1
    refine ⟨24, lc, 16, ?_, ?_, hd', by omega, by decide⟩
    · unfold bMode; rw [if_neg hm]; exact hI
    · rw [front_size, if_neg hm]; omega
theorem build_size {l m f c s k : Int} {d : ByteArray} (h : vB l m f c s k d.size = true) : (buildS l m f c s k d).size = 2352 := by
  obtain ⟨x, y, o, hI, hz, _, h4, _⟩ := vB_lay h
  exact close_size _ _ (by omega)
theorem build_right {l m f c s k : Int} {d : ByteArray} (h : vB l m f c s k d.size = true) {b x y o : Int} (hI : IsLay m b x y o) : rightB (buildS l m f c s k d) o.toNat (x + y).toNat = true := by
  obtain ⟨x', y', o', hI', hz, _, h4, _⟩ := vB_lay h
  have e : x' + y' = x + y ∧ o' = o := by rcases hI.or with q | q | q <;> rcases hI'.or with p | p | p <;> omega
  obtain ⟨e1, rfl⟩ := e
  rw [e1] at hz
  have hb : buildS l m f c s k d = closeS (frontS (l + 150) m (bMode m) f c s k d) o' := by
    unfold buildS; rw [hI'.span]
  rw [hb]
  generalize frontS (l + 150) m (bMode m) f c s k d = X at *
  unfold rightB closeS
  rw [← hz]
  have e1 : codeS (X ++ codeS X o'.toNat X.size ++ rep 0 (2352 - (X.size + 4))) o'.toNat X.size = codeS X o'.toNat X.size := by
    rw [codeS_left (by rw [ByteArray.size_append]; omega), codeS_left (Nat.le_refl _)]
  have e2 : (X ++ codeS X o'.toNat X.size ++ rep 0 (2352 - (X.size + 4))).extract X.size (X.size + 4) = codeS X o'.toNat X.size := by
    have := ext_mid X (codeS X o'.toNat X.size) (rep 0 (2352 - (X.size + 4)))
    rwa [codeS_size] at this
  rw [e1, e2, beq_iff_eq]
/-- The beginning of a built sector. -/
theorem build_head (l m f c s k : Int) (d : ByteArray) : ∃ t : ByteArray, buildS l m f c s k d = headS (l + 150) (bMode m) ++ t := by
  unfold buildS closeS frontS
  by_cases h : m = 0
  · rw [if_pos h]; exact ⟨_, by rw [ByteArray.append_assoc, ByteArray.append_assoc]⟩
  · rw [if_neg h]; exact ⟨_, by rw [ByteArray.append_assoc, ByteArray.append_assoc, ByteArray.append_assoc]⟩
theorem build_sub (l m f c s k : Int) (d : ByteArray) (h : m ≠ 0) : ∃ t : ByteArray, buildS l m f c s k d = headS (l + 150) (bMode m) ++ (subS f c s k ++ subS f c s k) ++ t := by
  unfold buildS closeS frontS
  rw [if_neg h]; exact ⟨_, by rw [ByteArray.append_assoc, ByteArray.append_assoc]⟩
theorem at_left {x y : ByteArray} {i : Nat} (h : i < x.size) : at_ (x ++ y) i = at_ x i := by
  unfold at_
  rw [app_l, List.getD_eq_getElem?_getD, List.getElem?_append_left (by rw [len_l]; exact h), ← List.getD_eq_getElem?_getD]
theorem head_mode (n b : Int) (hb : b = 1 ∨ b = 2) : at_ (headS n b) 15 = b.toNat := by
  rcases hb with rfl | rfl <;> rfl
theorem sub_form (n b f c s k : Int) (hs : 0 ≤ s ∧ s ≤ 255) : at_ (headS n b ++ (subS f c s k ++ subS f c s k)) 18 = s.toNat := by
  show (UInt8.ofNat s.toNat).toNat = s.toNat
  rw [UInt8.toNat_ofNat_of_lt' (by show s.toNat < 256; omega)]
theorem bMode_or (m : Int) : bMode m = 1 ∨ bMode m = 2 := by
  unfold bMode; by_cases h : m = 0
  · rw [if_pos h]; exact .inl rfl
  · rw [if_neg h]; exact .inr rfl
theorem build_kind {l m f c s k : Int} {d : ByteArray} (h : vB l m f c s k d.size = true) : kindE (buildS l m f c s k d) = (m, 0) := by
  have hs := build_size h
  unfold kindE
  rw [if_pos hs]
  obtain ⟨t, ht⟩ := build_head l m f c s k d
  have h15 : at_ (buildS l m f c s k d) 15 = (bMode m).toNat := by
    rw [ht, at_left (by rw [head_size]; decide), head_mode _ _ (bMode_or m)]
  rw [h15]
  by_cases hm : m = 0
  · subst hm; rfl
  · obtain ⟨t', ht'⟩ := build_sub l m f c s k d hm
    have hv := h
    unfold vB subB at hv
    rw [Bool.and_eq_true, decide_eq_true_eq, if_neg hm, decide_eq_true_eq] at hv
    obtain ⟨p, q⟩ := hv
    have h18 : at_ (buildS l m f c s k d) 18 = s.toNat := by
      rw [ht', at_left (by rw [ByteArray.size_append, ByteArray.size_append, head_size, sub_size]; decide), sub_form _ _ _ _ _ _ (by omega)]
    rw [h18, show bMode m = 2 from if_neg hm]
    unfold kd
    rw [if_neg (by decide), if_neg (by decide)]
    by_cases h2 : m = 2
    · rw [if_pos (by omega), h2]
    · rw [if_neg (by omega), show m = 1 by omega]
theorem build_check {l m f c s k : Int} {d : ByteArray} (h : vB l m f c s k d.size = true) : chkB (buildS l m f c s k d) = true := by
  have hk := build_kind h
  obtain ⟨x, y, o, hI, _⟩ := vB_lay h
  rw [chkB_ok (by rw [hk]) (by rw [hk]; exact hI)]
  exact build_right h hI
end Go.Proofs.Ytieblfpdibpeeaa

/-
  Plain laws: another address changes the address field, in mode 0 the code, and nothing else.
-/
import Derived.Test.YtieblfpdibpeeaaSeY
namespace Go.Proofs.Ytieblfpdibpeeaa
open Go.RowKit Go.Lib
set_option linter.unusedVariables false
set_option linter.unusedSimpArgs false

theorem mid_at (x y y' z : ByteArray) (h : y.size = y'.size) (i : Nat) (hi : ¬ (x.size ≤ i ∧ i < x.size + y.size)) : at_ (x ++ y ++ z) i = at_ (x ++ y' ++ z) i := by
  by_cases h1 : i < x.size
  · rw [app3, app3, at_left h1, at_left h1]
  · have z1 : (x ++ y).size = x.size + y.size := ByteArray.size_append
    have z2 : (x ++ y').size = x.size + y'.size := ByteArray.size_append
    rw [at_app (x ++ y) z, at_app (x ++ y') z, if_neg (by omega), if_neg (by omega), z1, z2, h]
theorem at_sub (r : ByteArray) (a b j : Nat) (hj : a + j < b) : at_ (r.extract a b) j = at_ r (a + j) := by
  unfold at_
  rw [ext_l, List.getD_eq_getElem?_getD, List.getD_eq_getElem?_getD, List.getElem?_drop, List.getElem?_take_of_lt hj]
/-- The bytes of the address. -/
def msfL (l : Int) : ByteArray := msfS ((l + 150) / 75 / 60) ((l + 150) / 75 % 60) ((l + 150) % 75)
theorem msfL_size (l : Int) : (msfL l).size = 3 := strOfNums_size _
theorem sync_size : syncS.size = 12 := rfl
theorem one_size (b : Int) : (strOfNums [b]).size = 1 := strOfNums_size _
theorem form0 (l f c s k : Int) (d : ByteArray) : buildS l 0 f c s k d = syncS ++ msfL l ++ (strOfNums [1] ++ d ++ (codeS (frontS (l + 150) 0 1 f c s k d) 0 (frontS (l + 150) 0 1 f c s k d).size ++ rep 0 (2352 - ((frontS (l + 150) 0 1 f c s k d).size + 4)))) := by
  show closeS (frontS (l + 150) 0 1 f c s k d) 0 = _
  unfold closeS
  rw [show frontS (l + 150) 0 1 f c s k d ++ codeS (frontS (l + 150) 0 1 f c s k d) (0 : Int).toNat (frontS (l + 150) 0 1 f c s k d).size = syncS ++ msfL l ++ strOfNums [1] ++ d ++ codeS (frontS (l + 150) 0 1 f c s k d) (0 : Int).toNat (frontS (l + 150) 0 1 f c s k d).size from rfl]
  simp only [app3]
  rfl
theorem code1 (n f c s k : Int) (d : ByteArray) (m : Int) (hm : m ≠ 0) : codeS (frontS n m 2 f c s k d) 16 (frontS n m 2 f c s k d).size = codeS (subS f c s k ++ subS f c s k ++ d) 0 (subS f c s k ++ subS f c s k ++ d).size := by
  unfold codeS frontS
  rw [if_neg hm, app3]
  rw [ext_app_right (by rw [head_size]; exact Nat.le_refl _), head_size, ByteArray.size_append, head_size]
  rw [show 16 - 16 = 0 from rfl, show 16 + (subS f c s k ++ subS f c s k ++ d).size - 16 = (subS f c s k ++ subS f c s k ++ d).size by omega]
theorem form1 (l m f c s k : Int) (d : ByteArray) (hm : m ≠ 0) (ho : (spanE m).1 = 16) : buildS l m f c s k d = syncS ++ msfL l ++ (strOfNums [2] ++ (subS f c s k ++ subS f c s k ++ d) ++ (codeS (subS f c s k ++ subS f c s k ++ d) 0 (subS f c s k ++ subS f c s k ++ d).size ++ rep 0 (2352 - (24 + d.size + 4)))) := by
  unfold buildS
  rw [ho, show bMode m = 2 from if_neg hm]
  unfold closeS
  rw [show (16 : Int).toNat = 16 from rfl, code1 _ _ _ _ _ _ _ hm, front_size, if_neg hm]
  unfold frontS headS msfL
  rw [if_neg hm]
  simp only [app3]
theorem vB_span {l m f c s k n : Int} (h : vB l m f c s k n = true) (hm : m ≠ 0) : (spanE m).1 = 16 := by
  rcases vB_mode h with h | ⟨lc, hI⟩
  · exact absurd h hm
  · rw [hI.span]
/-- The bytes that another address changes. -/
theorem addr_at {l l' m f c s k : Int} {d : ByteArray} (h : vB l m f c s k d.size = true) (i : Nat) (h1 : ¬ (12 ≤ i ∧ i < 15)) (h2 : ¬ (m = 0 ∧ 2064 ≤ i ∧ i < 2068)) :
    at_ (buildS l m f c s k d) i = at_ (buildS l' m f c s k d) i := by
  have hz : syncS.size ≤ i ∧ i < syncS.size + (msfL l).size → 12 ≤ i ∧ i < 15 := fun q => by rw [sync_size, msfL_size] at q; omega
  by_cases hm : m = 0
  · subst hm
    have hd := vB_data h
    have hd' : d.size = 2048 := by have : (d.size : Int) = 2048 := hd; omega
    have zf : ∀ n, (frontS n 0 1 f c s k d).size = 2064 := fun n => by rw [front_size, if_pos rfl, hd']
    rw [form0, form0, zf, zf, mid_at syncS (msfL l) (msfL l') _ (by rw [msfL_size, msfL_size]) i (fun q => h1 (hz q))]
    generalize hC : codeS (frontS (l + 150) 0 1 f c s k d) 0 2064 = C
    generalize hC' : codeS (frontS (l' + 150) 0 1 f c s k d) 0 2064 = C'
    have e : ∀ C : ByteArray, syncS ++ msfL l' ++ (strOfNums [1] ++ d ++ (C ++ rep 0 (2352 - (2064 + 4)))) = syncS ++ msfL l' ++ (strOfNums [1] ++ d) ++ C ++ rep 0 (2352 - (2064 + 4)) := fun C => by simp only [app3]
    rw [e, e]
    have z1 : (syncS ++ msfL l' ++ (strOfNums [1] ++ d)).size = 2064 := by
      rw [ByteArray.size_append, ByteArray.size_append, ByteArray.size_append, sync_size, msfL_size, one_size, hd']
    have c1 : C.size = 4 := by rw [← hC]; exact codeS_size _ _ _
    have c2 : C'.size = 4 := by rw [← hC']; exact codeS_size _ _ _
    exact mid_at _ C C' _ (by rw [c1, c2]) i (fun q => h2 ⟨rfl, by rw [z1, c1] at q; omega⟩)
  · rw [form1 _ _ _ _ _ _ _ hm (vB_span h hm), form1 _ _ _ _ _ _ _ hm (vB_span h hm)]
    exact mid_at syncS (msfL l) (msfL l') _ (by rw [msfL_size, msfL_size]) i (fun q => h1 (hz q))
theorem addr_field (l m f c s k : Int) (d : ByteArray) : (buildS l m f c s k d).extract 12 15 = msfL l := by
  obtain ⟨t, ht⟩ := build_head l m f c s k d
  rw [ht]
  have e : headS (l + 150) (bMode m) ++ t = syncS ++ msfL l ++ (strOfNums [bMode m] ++ t) := by
    unfold headS msfL; simp only [app3]
  rw [e]
  have := ext_mid syncS (msfL l) (strOfNums [bMode m] ++ t)
  rwa [sync_size, msfL_size] at this
theorem addr_inj {l l' m f c s k : Int} {d : ByteArray} (h : vB l m f c s k d.size = true) (h' : vB l' m f c s k d.size = true) :
    ((((buildS l m f c s k d).extract 12 15).toList == ((buildS l' m f c s k d).extract 12 15).toList) : Bool) = (l == l') := by
  by_cases e : l = l'
  · subst e
    rw [beq_self_eq_true, beq_self_eq_true]
  · rw [beq_eq_false_iff_ne.2 e, Bool.eq_false_iff]
    intro q
    have q' := beq_ba q
    apply e
    have ha : ∀ j, j < 3 → at_ (buildS l m f c s k d) (12 + j) = at_ (buildS l' m f c s k d) (12 + j) := fun j hj => by
      rw [← at_sub _ 12 15 j (by omega), ← at_sub _ 12 15 j (by omega), q']
    have a1 := build_adr h
    have a2 := build_adr h'
    have b1 := vB_lba h
    have b2 := vB_lba h'
    have a3 : adr (buildS l m f c s k d) = adr (buildS l' m f c s k d) := by
      unfold adr
      rw [show (12 : Nat) = 12 + 0 from rfl, show (13 : Nat) = 12 + 1 from rfl, show (14 : Nat) = 12 + 2 from rfl, ha 0 (by decide), ha 1 (by decide), ha 2 (by decide)]
    rw [a1, a2] at a3
    injection a3 with c1 c2
    injection c2 with c2 c3
    injection c3 with c3 c4
    omega
end Go.Proofs.Ytieblfpdibpeeaa

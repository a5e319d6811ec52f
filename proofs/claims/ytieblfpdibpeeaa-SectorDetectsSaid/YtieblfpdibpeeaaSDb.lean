/-
  Plain law: a change within four consecutive bytes that the code covers makes the code wrong.
-/
import Derived.Test.YtieblfpdibpeeaaSDa
namespace Go.Proofs.Ytieblfpdibpeeaa
open Go.RowKit Go.Lib
set_option linter.unusedVariables false
set_option linter.unusedSimpArgs false

theorem eby_inj {a b : Nat} (ha : a < 4294967296) (hb : b < 4294967296) (h : eby a = eby b) : a = b := by
  have h1 := edc_close a ha
  have h2 := edc_close b hb
  rw [← h] at h2
  exact edc_inj _ ha hb (h1.trans h2.symm)
/-- The bytes with four of them changed. -/
def chg (S : ByteArray) (k c v0 v1 v2 v3 : Nat) : ByteArray := strOfNums (((((bys S).set k (bits BinOp.xor IntKind.u8 (v0 : Int) ((c : Int) % 256))).set (k + 1) (bits BinOp.xor IntKind.u8 (v1 : Int) ((c : Int) / 256 % 256))).set (k + 2) (bits BinOp.xor IntKind.u8 (v2 : Int) ((c : Int) / 65536 % 256))).set (k + 3) (bits BinOp.xor IntKind.u8 (v3 : Int) ((c : Int) / 16777216)))
structure DetIn (S : ByteArray) (k c v0 v1 v2 v3 o e : Nat) : Prop where
  g0 : (bys S).getD k 0 = (v0 : Int)
  g1 : (bys S).getD (k + 1) 0 = (v1 : Int)
  g2 : (bys S).getD (k + 2) 0 = (v2 : Int)
  g3 : (bys S).getD (k + 3) 0 = (v3 : Int)
  size : (chg S k c v0 v1 v2 v3).size = S.size
  bad : rightB (chg S k c v0 v1 v2 v3) o e = false
theorem det_in (S : ByteArray) (k c o e : Nat) (hc : c < 4294967296) (h0 : 0 < c) (ho : o ≤ k) (he : k + 4 ≤ e) (hz : e ≤ S.size) (hr : rightB S o e = true) : ∃ v0 v1 v2 v3 : Nat, DetIn S k c v0 v1 v2 v3 o e := by
  have kl : k + 3 < S.data.toList.length := by rw [len_l]; omega
  obtain ⟨p, x0, x1, x2, x3, q, hl, hp⟩ := part4 S.data.toList k kl
  have hb : bys S = toI (p ++ (x0 :: x1 :: x2 :: x3 :: q)) := by rw [← hl]; rfl
  have gd : ∀ j v, (x0 :: x1 :: x2 :: x3 :: q)[j]? = some v → (bys S).getD (k + j) 0 = (v.toNat : Int) := by
    intro j v hv
    rw [hb, ← hp, List.getD_eq_getElem?_getD, toI, List.getElem?_map, List.getElem?_append_right (by omega), Nat.add_sub_cancel_left, hv]; rfl
  have i0 : (c : Int) % 256 = ((c % 256 : Nat) : Int) := by omega
  have i1 : (c : Int) / 256 % 256 = ((c / 256 % 256 : Nat) : Int) := by omega
  have i2 : (c : Int) / 65536 % 256 = ((c / 65536 % 256 : Nat) : Int) := by omega
  have i3 : (c : Int) / 16777216 = ((c / 16777216 : Nat) : Int) := by omega
  have f4 := four_list p q x0 x1 x2 x3 (c % 256) (c / 256 % 256) (c / 65536 % 256) (c / 16777216) (by omega) (by omega) (by omega) (by omega)
  have hd4 : [UInt8.ofNat (c % 256), UInt8.ofNat (c / 256 % 256), UInt8.ofNat (c / 65536 % 256), UInt8.ofNat (c / 16777216)] = (eby c).data.toList := by
    unfold eby; rw [strOfNums_data, i0, i1, i2, i3]; simp only [List.map_cons, List.map_nil, Int.toNat_natCast]
  have hL : (chg S k c x0.toNat x1.toNat x2.toNat x3.toNat).data.toList = p ++ (zx [x0, x1, x2, x3] (eby c).data.toList ++ q) := by
    unfold chg
    rw [hb, ← hp, i0, i1, i2, i3, f4, hd4]
  have hzl : (zx [x0, x1, x2, x3] (eby c).data.toList).length = 4 := by rw [← hd4]; rfl
  have hSl : S.data.toList = p ++ ([x0, x1, x2, x3] ++ q) := hl
  refine ⟨x0.toNat, x1.toNat, x2.toNat, x3.toNat, gd 0 x0 rfl, gd 1 x1 rfl, gd 2 x2 rfl, gd 3 x3 rfl, ?_, ?_⟩
  · rw [← len_l, ← len_l, hL, hSl, List.length_append, List.length_append, List.length_append, List.length_append, hzl]; rfl
  · rw [Bool.eq_false_iff]
    intro hq
    generalize chg S k c x0.toNat x1.toNat x2.toNat x3.toNat = R at *
    have cut : ∀ (z : List UInt8), z.length = 4 → ((p ++ (z ++ q)).take e).drop o = p.drop o ++ (z ++ q.take (e - k - 4)) := fun z hz4 => by
      rw [List.take_append, List.take_of_length_le (show p.length ≤ e by omega), List.take_append, List.take_of_length_le (show z.length ≤ e - p.length by omega), List.drop_append_of_le_length (by omega), hz4, hp]
    have tl : ∀ (z : List UInt8), z.length = 4 → ((p ++ (z ++ q)).take (e + 4)).drop e = (q.take (e + 4 - k - 4)).drop (e - k - 4) := fun z hz4 => by
      rw [List.take_append, List.take_of_length_le (show p.length ≤ e + 4 by omega), List.take_append, List.take_of_length_le (show z.length ≤ e + 4 - p.length by omega), ← List.append_assoc, List.drop_append, List.drop_eq_nil_of_le (by rw [List.length_append]; omega), List.nil_append, List.length_append, hz4, hp]
      congr 1
    have e1 : R.extract e (e + 4) = S.extract e (e + 4) := by
      apply ba_ext
      rw [ext_l, ext_l, hL, hSl, tl _ hzl, tl _ rfl]
    have h1 : codeS R o e = R.extract e (e + 4) := beq_ba hq
    have h2 : codeS S o e = S.extract e (e + 4) := beq_ba hr
    have h3 : codeS R o e = codeS S o e := by rw [h1, h2, e1]
    unfold codeS at h3
    have h4 := eby_inj (edc_lt _ (by omega)) (edc_lt _ (by omega)) h3
    rw [ext_l, ext_l, hL, hSl, cut _ hzl, cut _ rfl] at h4
    have h5 := (edc_burst (p.drop o) [x0, x1, x2, x3] _ (q.take (e - k - 4)) (by rw [← hd4]; rfl)).1 h4
    have := edc_four hc h5
    omega
end Go.Proofs.Ytieblfpdibpeeaa

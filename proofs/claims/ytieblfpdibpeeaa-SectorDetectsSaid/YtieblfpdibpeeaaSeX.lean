/-
  What Parse returns, in plain numbers, and its plain laws: the contents of a built sector come back, and a parsed sector is the one that is built.
-/
import Derived.Test.YtieblfpdibpeeaaSeT
namespace Go.Proofs.Ytieblfpdibpeeaa
open Go.RowKit Go.Lib
set_option linter.unusedVariables false
set_option linter.unusedSimpArgs false

/-- The address that three bytes encode, and the error. -/
def dE (a b c : Nat) : Int × Int × Int × Int := if (fb a).2 = 0 ∧ (fb b).2 = 0 ∧ (fb c).2 = 0 ∧ okM (fb a).1 (fb b).1 (fb c).1 = true then ((fb a).1, (fb b).1, (fb c).1, 0) else (0, 0, 0, 10)
/-- The address field of a raw sector. -/
def adr (r : ByteArray) : Int × Int × Int × Int := dE (at_ r 12) (at_ r 13) (at_ r 14)
/-- Are the sync field and the address right? -/
def frontB (r : ByteArray) : Bool := decide ((adr r).2.2.2 = 0) && (r.extract 0 12).toList == syncS.toList
/-- Are the bytes right that only one mode has? -/
def restB (r : ByteArray) (m : Int) : Bool := if m = 0 then (r.extract 2068 2076).toList == (rep 0 8).toList else (r.extract 16 20).toList == (r.extract 20 24).toList && decide (at_ r 17 ≤ 31)
structure PR where
  l : Int
  m : Int
  f : Int
  c : Int
  s : Int
  k : Int
  d : ByteArray
  e : Int
def PR.no (e : Int) : PR := ⟨0, 0, 0, 0, 0, 0, { data := #[] }, e⟩
/-- The contents of a raw sector of a mode. -/
def getP (r : ByteArray) (m : Int) : PR := if m = 0 then ⟨(60 * (adr r).1 + (adr r).2.1) * 75 + (adr r).2.2.1 - 150, 0, 0, 0, 0, 0, r.extract 16 2064, 0⟩
  else ⟨(60 * (adr r).1 + (adr r).2.1) * 75 + (adr r).2.2.1 - 150, m, at_ r 16, at_ r 17, at_ r 18, at_ r 19, r.extract 24 (24 + (capE m).1.toNat), 0⟩
/-- What Parse returns. -/
def parseE (r : ByteArray) : PR := if (kindE r).2 ≠ 0 then PR.no (kindE r).2 else if (frontB r && restB r (kindE r).1) = false then PR.no 10 else if chkB r = false then PR.no 9 else getP r (kindE r).1

theorem at_app (x y : ByteArray) (i : Nat) : at_ (x ++ y) i = if i < x.size then at_ x i else at_ y (i - x.size) := by
  by_cases h : i < x.size
  · rw [if_pos h, at_left h]
  · rw [if_neg h]
    unfold at_
    rw [app_l, List.getD_eq_getElem?_getD, List.getElem?_append_right (by rw [len_l]; omega), len_l, ← List.getD_eq_getElem?_getD]
theorem fb_bcd (n : Int) (h0 : 0 ≤ n) (h1 : n ≤ 99) : fb (UInt8.ofNat (bcd n).toNat).toNat = (n, 0) := by
  obtain ⟨k, rfl⟩ := Int.eq_ofNat_of_zero_le h0
  have : ∀ k : Fin 100, fb (UInt8.ofNat (bcd ((k.val : Nat) : Int)).toNat).toNat = (((k.val : Nat) : Int), 0) := by decide +kernel
  exact this ⟨k, by omega⟩
theorem bcd_fb (b : Nat) (h : b < 256) (he : (fb b).2 = 0) : UInt8.ofNat (bcd (fb b).1).toNat = UInt8.ofNat b := by
  have : ∀ k : Fin 256, (fb k.val).2 = 0 → UInt8.ofNat (bcd (fb k.val).1).toNat = UInt8.ofNat k.val := by decide +kernel
  exact this ⟨b, h⟩ he
theorem okM_iff {m s f : Int} (h : 0 ≤ m ∧ m ≤ 99 ∧ 0 ≤ s ∧ s ≤ 59 ∧ 0 ≤ f ∧ f ≤ 74) : okM m s f = true := decide_eq_true h
theorem head_addr (n b : Int) (h0 : 0 ≤ n) (h1 : n ≤ 449999) : dE (at_ (headS n b) 12) (at_ (headS n b) 13) (at_ (headS n b) 14) = (n / 75 / 60, n / 75 % 60, n % 75, 0) := by
  have e0 : at_ (headS n b) 12 = (UInt8.ofNat (bcd (n / 75 / 60)).toNat).toNat := rfl
  have e1 : at_ (headS n b) 13 = (UInt8.ofNat (bcd (n / 75 % 60)).toNat).toNat := rfl
  have e2 : at_ (headS n b) 14 = (UInt8.ofNat (bcd (n % 75)).toNat).toNat := rfl
  rw [e0, e1, e2]
  unfold dE
  rw [fb_bcd _ (by omega) (by omega), fb_bcd _ (by omega) (by omega), fb_bcd _ (by omega) (by omega)]
  rw [if_pos ⟨rfl, rfl, rfl, okM_iff (by omega)⟩]
theorem vB_lba {l m f c s k n : Int} (h : vB l m f c s k n = true) : -150 ≤ l ∧ l ≤ 449849 := by
  unfold vB at h
  rw [Bool.and_eq_true, decide_eq_true_eq] at h
  exact ⟨h.1.2.1, h.1.2.2.1⟩
theorem build_adr {l m f c s k : Int} {d : ByteArray} (h : vB l m f c s k d.size = true) : adr (buildS l m f c s k d) = ((l + 150) / 75 / 60, (l + 150) / 75 % 60, (l + 150) % 75, 0) := by
  obtain ⟨t, ht⟩ := build_head l m f c s k d
  have hl := vB_lba h
  unfold adr
  rw [ht, at_left (by rw [head_size]; decide), at_left (by rw [head_size]; decide), at_left (by rw [head_size]; decide)]
  exact head_addr _ _ (by omega) (by omega)
theorem ext_app_right {x y : ByteArray} {a b : Nat} (h : x.size ≤ a) : (x ++ y).extract a b = y.extract (a - x.size) (b - x.size) := by
  apply ba_ext
  rw [ext_l, ext_l, app_l, List.take_append, List.drop_append, List.drop_eq_nil_of_le (by rw [List.length_take, len_l]; omega), List.nil_append, List.length_take, len_l]
  by_cases q : b ≤ x.size
  · rw [show b - x.size = 0 by omega]; simp
  · rw [Nat.min_eq_right (by omega)]
theorem ext_all (x : ByteArray) : x.extract 0 x.size = x := by
  apply ba_ext; rw [ext_l, List.drop_zero, List.take_of_length_le (by rw [len_l]; exact Nat.le_refl _)]
theorem app3 (x y z : ByteArray) : x ++ y ++ z = x ++ (y ++ z) := ByteArray.append_assoc
theorem rep_ext (b : Int) (n a e : Nat) (h : e ≤ n) : (rep b n).extract a e = rep b (e - a) := by
  apply ba_ext
  rw [ext_l]
  unfold rep
  rw [strOfNums_data, strOfNums_data, List.map_replicate, List.map_replicate, List.take_replicate, List.drop_replicate, Nat.min_eq_left h]
theorem ext_join (r : ByteArray) (a b c : Nat) (h1 : a ≤ b) (h2 : b ≤ c) : r.extract a b ++ r.extract b c = r.extract a c := by
  apply ba_ext
  rw [app_l, ext_l, ext_l, ext_l]
  rw [← List.take_append_drop (b - a) ((List.take c r.data.toList).drop a)]
  congr 1
  · rw [List.take_drop, List.take_take]
    congr 2; omega
  · rw [List.drop_drop]; congr 1; omega
theorem build_sync {l m f c s k : Int} {d : ByteArray} : (buildS l m f c s k d).extract 0 12 = syncS := by
  obtain ⟨t, ht⟩ := build_head l m f c s k d
  rw [ht]; unfold headS
  rw [ByteArray.append_assoc, ByteArray.append_assoc, ext_left (by decide)]
  rfl
theorem getP_build {l m f c s k : Int} {d : ByteArray} (h : vB l m f c s k d.size = true) : getP (buildS l m f c s k d) m = ⟨l, m, f, c, s, k, d, 0⟩ ∧ restB (buildS l m f c s k d) m = true := by
  have hl := vB_lba h
  have ha := build_adr h
  have hd := vB_data h
  have hv := h
  unfold vB subB at hv
  rw [Bool.and_eq_true, decide_eq_true_eq] at hv
  obtain ⟨hv1, hv2⟩ := hv
  unfold getP restB
  rw [ha]
  have hlb : (60 * ((l + 150) / 75 / 60) + (l + 150) / 75 % 60) * 75 + (l + 150) % 75 - 150 = l := by omega
  show (if m = 0 then _ else _) = _ ∧ _
  by_cases hm : m = 0
  · subst hm
    rw [if_pos rfl, if_pos rfl]
    rw [if_pos rfl, decide_eq_true_eq] at hv2
    obtain ⟨rfl, rfl, rfl, rfl⟩ := hv2
    have hd' : d.size = 2048 := by have : (d.size : Int) = 2048 := hd; omega
    have e : buildS l 0 0 0 0 0 d = headS (l + 150) 1 ++ d ++ codeS (headS (l + 150) 1 ++ d) 0 2064 ++ rep 0 284 := by
      have z : (headS (l + 150) 1 ++ d).size = 2064 := by rw [ByteArray.size_append, head_size, hd']
      show closeS (frontS (l + 150) 0 1 0 0 0 0 d) 0 = _
      unfold frontS closeS
      rw [if_pos rfl, z]; rfl
    constructor
    · rw [hlb]
      have : (buildS l 0 0 0 0 0 d).extract 16 2064 = d := by
        rw [e, app3 (headS (l + 150) 1 ++ d)]
        have := ext_mid (headS (l + 150) 1) d (codeS (headS (l + 150) 1 ++ d) 0 2064 ++ rep 0 284)
        rwa [head_size, hd'] at this
      rw [this]
    · rw [e, ext_app_right (by rw [ByteArray.size_append, ByteArray.size_append, head_size, hd', codeS_size]; decide)]
      have z : (headS (l + 150) 1 ++ d ++ codeS (headS (l + 150) 1 ++ d) 0 2064).size = 2068 := by rw [ByteArray.size_append, ByteArray.size_append, head_size, hd', codeS_size]
      rw [z, rep_ext _ _ _ _ (by decide)]
      exact beq_self_eq_true _
  · rw [if_neg hm, if_neg hm]
    rw [if_neg hm, decide_eq_true_eq] at hv2
    obtain ⟨t', ht'⟩ := build_sub l m f c s k d hm
    have z1 : (headS (l + 150) (bMode m) ++ (subS f c s k ++ subS f c s k)).size = 24 := by rw [ByteArray.size_append, ByteArray.size_append, head_size, sub_size]
    have b16 : at_ (buildS l m f c s k d) 16 = f.toNat := by
      rw [ht', at_left (by rw [z1]; decide)]
      show (UInt8.ofNat f.toNat).toNat = f.toNat
      rw [UInt8.toNat_ofNat_of_lt' (by show f.toNat < 256; omega)]
    have b17 : at_ (buildS l m f c s k d) 17 = c.toNat := by
      rw [ht', at_left (by rw [z1]; decide)]
      show (UInt8.ofNat c.toNat).toNat = c.toNat
      rw [UInt8.toNat_ofNat_of_lt' (by show c.toNat < 256; omega)]
    have b18 : at_ (buildS l m f c s k d) 18 = s.toNat := by
      rw [ht', at_left (by rw [z1]; decide)]
      show (UInt8.ofNat s.toNat).toNat = s.toNat
      rw [UInt8.toNat_ofNat_of_lt' (by show s.toNat < 256; omega)]
    have b19 : at_ (buildS l m f c s k d) 19 = k.toNat := by
      rw [ht', at_left (by rw [z1]; decide)]
      show (UInt8.ofNat k.toNat).toNat = k.toNat
      rw [UInt8.toNat_ofNat_of_lt' (by show k.toNat < 256; omega)]
    rw [b16, b17, b18, b19]
    constructor
    · rw [hlb, ← hd]
      have : (buildS l m f c s k d).extract 24 (24 + (d.size : Int).toNat) = d := by
        unfold buildS frontS closeS
        rw [if_neg hm, app3 (headS (l + 150) (bMode m) ++ (subS f c s k ++ subS f c s k) ++ d)]
        have := ext_mid (headS (l + 150) (bMode m) ++ (subS f c s k ++ subS f c s k)) d (codeS (headS (l + 150) (bMode m) ++ (subS f c s k ++ subS f c s k) ++ d) (spanE m).1.toNat (headS (l + 150) (bMode m) ++ (subS f c s k ++ subS f c s k) ++ d).size ++ rep 0 (2352 - ((headS (l + 150) (bMode m) ++ (subS f c s k ++ subS f c s k) ++ d).size + 4)))
        rwa [z1] at this
      rw [this, Int.toNat_of_nonneg hv2.1, Int.toNat_of_nonneg hv2.2.2.1, Int.toNat_of_nonneg (by omega : 0 ≤ s), Int.toNat_of_nonneg (by omega : 0 ≤ k)]
    · have x1 : (buildS l m f c s k d).extract 16 20 = subS f c s k := by
        rw [ht', app3 (headS (l + 150) (bMode m)), app3 (subS f c s k), ← app3 (headS (l + 150) (bMode m))]
        have := ext_mid (headS (l + 150) (bMode m)) (subS f c s k) (subS f c s k ++ t')
        rwa [head_size, sub_size] at this
      have x2 : (buildS l m f c s k d).extract 20 24 = subS f c s k := by
        rw [ht', ← app3 (headS (l + 150) (bMode m))]
        have := ext_mid (headS (l + 150) (bMode m) ++ subS f c s k) (subS f c s k) t'
        rwa [ByteArray.size_append, head_size, sub_size] at this
      rw [x1, x2, beq_self_eq_true, decide_eq_true (by omega)]; rfl
/-- Parsing a built sector. -/
theorem parse_build {l m f c s k : Int} {d : ByteArray} (h : vB l m f c s k d.size = true) : parseE (buildS l m f c s k d) = ⟨l, m, f, c, s, k, d, 0⟩ := by
  have hk := build_kind h
  obtain ⟨g1, g2⟩ := getP_build h
  unfold parseE
  rw [hk, if_neg (fun q => q rfl), build_check h, g1, g2]
  have hf : frontB (buildS l m f c s k d) = true := by
    unfold frontB
    rw [build_adr h, build_sync, beq_self_eq_true]; rfl
  rw [hf, if_neg (by decide), if_neg (by decide)]

/-- Two raw sectors that agree up to the parity. -/
theorem at_ext (r : ByteArray) (i n : Nat) (h : i < n) : at_ (r.extract 0 n) i = at_ r i := by
  unfold at_
  rw [ext_l, List.drop_zero, List.getD_eq_getElem?_getD, List.getD_eq_getElem?_getD, List.getElem?_take_of_lt h]
theorem agree {r q : ByteArray} (hr : r.size = 2352) (hq : q.size = 2352) (h : r.extract 0 2076 = q.extract 0 2076) (h2 : (kindE r).1 ≠ 2) : kindE q = kindE r ∧ parseE q = parseE r ∧ chkB q = chkB r := by
  have ha : ∀ i, i < 2076 → at_ q i = at_ r i := fun i hi => by rw [← at_ext q i 2076 hi, ← at_ext r i 2076 hi, h]
  have he : ∀ a b, b ≤ 2076 → q.extract a b = r.extract a b := fun a b hb => by
    have e' : ∀ x : ByteArray, (x.extract 0 2076).extract a b = x.extract a b := fun x => by
      apply ba_ext; rw [ext_l, ext_l, ext_l, List.drop_zero, List.take_take, Nat.min_eq_left hb]
    rw [← e' q, ← e' r, h]
  have hk : kindE q = kindE r := by
    unfold kindE; rw [if_pos hq, if_pos hr, ha 15 (by decide), ha 18 (by decide)]
  have hc : chkB q = chkB r := by
    by_cases h0 : (kindE r).2 = 0
    · obtain ⟨_, b, d, c, o, hI⟩ := kd_lay r h0
      rw [chkB_ok h0 hI, chkB_ok (by rw [hk]; exact h0) (by rw [hk]; exact hI)]
      have hb : (d + c).toNat + 4 ≤ 2076 := by rcases hI.or with p | p | p <;> omega
      unfold rightB codeS
      rw [he _ _ (by omega), he _ _ hb]
    · rw [chkB_no h0, chkB_no (by rw [hk]; exact h0)]
  refine ⟨hk, ?_, hc⟩
  have hA : adr q = adr r := by unfold adr; rw [ha 12 (by decide), ha 13 (by decide), ha 14 (by decide)]
  unfold parseE
  rw [hk, hc]
  have hf : frontB q = frontB r := by unfold frontB; rw [hA, he 0 12 (by decide)]
  have hR : restB q (kindE r).1 = restB r (kindE r).1 := by unfold restB; rw [he 2068 2076 (by decide), he 16 20 (by decide), he 20 24 (by decide), ha 17 (by decide)]
  have hG : getP q (kindE r).1 = getP r (kindE r).1 := by
    unfold getP
    by_cases h0 : (kindE r).1 = 0
    · rw [if_pos h0, if_pos h0, hA, he 16 2064 (by decide)]
    · have hcap : (kindE r).1 = 1 := by
        by_cases h9 : (kindE r).2 = 0
        · obtain ⟨_, b, d, c, o, hI⟩ := kd_lay r h9
          rcases hI.or with p | p | p <;> omega
        · exfalso; revert h9 h0; unfold kindE kd; rw [if_pos hr]
          by_cases a1 : at_ r 15 = 1
          · rw [if_pos a1]; intro _ h; exact h rfl
          · rw [if_neg a1]
            by_cases a2 : at_ r 15 ≠ 2
            · rw [if_pos a2]; intro h _; exact h rfl
            · rw [if_neg a2]; by_cases a3 : at_ r 18 / 32 % 2 = 1
              · rw [if_pos a3]; intro _ h; exact h rfl
              · rw [if_neg a3]; intro _ h; exact h rfl
      rw [if_neg h0, if_neg h0, hA, hcap, ha 16 (by decide), ha 17 (by decide), ha 18 (by decide), ha 19 (by decide), he 24 _ (by decide)]
  rw [hf, hR, hG]
end Go.Proofs.Ytieblfpdibpeeaa

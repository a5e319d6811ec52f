/-
  Plain laws for ChecksumBursts: the registers' steps lose nothing, so a change within four (two) consecutive bytes changes the code.
-/
import Derived.Test.YtefaabigpbndaaaCkZ
import Derived.Test.YtefaabigpbndaaaCkL
namespace Go.Proofs.Ytefaabigpbndaaa
open Go.RowKit Go.Lib
set_option linter.unusedVariables false
set_option linter.unusedSimpArgs false

theorem xor_cancel {a b c : Nat} (h : a ^^^ c = b ^^^ c) : a = b := by
  have := congrArg (· ^^^ c) h
  simpa [Nat.xor_assoc, Nat.xor_self] using this
theorem es_top {n : Nat} (h : n < 4294967296) : es n / 2147483648 = n % 2 := by
  unfold es
  by_cases t : n % 2 = 1
  · have e : (n / 2 ^^^ 3623976961) / 2 ^ 31 = n / 2 / 2 ^ 31 ^^^ 3623976961 / 2 ^ 31 := Nat.xor_div_two_pow (n := 31)
    rw [if_pos t, show 2147483648 = 2 ^ 31 from rfl, e, show n / 2 / 2 ^ 31 = 0 by omega, t]
    rfl
  · rw [if_neg t]; omega
theorem es_inj {a b : Nat} (ha : a < 4294967296) (hb : b < 4294967296) (h : es a = es b) : a = b := by
  have t : a % 2 = b % 2 := by rw [← es_top ha, ← es_top hb, h]
  unfold es at h
  by_cases e : a % 2 = 1
  · rw [if_pos e, if_pos (by omega)] at h
    have := xor_cancel h; omega
  · rw [if_neg e, if_neg (by omega)] at h; omega
theorem esN_inj (k : Nat) {a b : Nat} (ha : a < 4294967296) (hb : b < 4294967296) (h : esN k a = esN k b) : a = b := by
  induction k with
  | zero => exact h
  | succ k ih => exact ih (es_inj (esN_lt ha k) (esN_lt hb k) h)
theorem edc_inj (l : List UInt8) {a b : Nat} (ha : a < 4294967296) (hb : b < 4294967296) (h : edc a l = edc b l) : a = b := by
  induction l generalizing a b with
  | nil => exact h
  | cons x l ih =>
    have h1 : eb a x = eb b x := ih (eb_lt x ha) (eb_lt x hb) h
    rw [eb_er, eb_er] at h1
    unfold er at h1
    exact xor_cancel (esN_inj 8 (xor_byte32 x ha) (xor_byte32 x hb) h1)
theorem cs_low {n : Nat} (h : n < 65536) : cs n % 2 = n / 32768 := by
  unfold cs
  by_cases t : n / 32768 = 1
  · rw [if_pos t, xor_mod2, t]
    rw [show n * 2 % 65536 % 2 = 0 by omega]; rfl
  · rw [if_neg t]; omega
theorem cs_inj {a b : Nat} (ha : a < 65536) (hb : b < 65536) (h : cs a = cs b) : a = b := by
  have t : a / 32768 = b / 32768 := by rw [← cs_low ha, ← cs_low hb, h]
  unfold cs at h
  by_cases e : a / 32768 = 1
  · rw [if_pos e, if_pos (by omega)] at h
    have := xor_cancel h; omega
  · rw [if_neg e, if_neg (by omega)] at h; omega
theorem csN_inj (k : Nat) {a b : Nat} (ha : a < 65536) (hb : b < 65536) (h : csN k a = csN k b) : a = b := by
  induction k with
  | zero => exact h
  | succ k ih => exact ih (cs_inj (csN_lt ha k) (csN_lt hb k) h)
theorem crc_inj (l : List UInt8) {a b : Nat} (ha : a < 65536) (hb : b < 65536) (h : crc a l = crc b l) : a = b := by
  induction l generalizing a b with
  | nil => exact h
  | cons x l ih =>
    have h1 : cb a x = cb b x := ih (cb_lt x ha) (cb_lt x hb) h
    rw [cb_cr ha, cb_cr hb] at h1
    unfold cr at h1
    exact xor_cancel (csN_inj 8 (xor_byte16 x ha) (xor_byte16 x hb) h1)

/-- Bytes changed by an exclusive or from place k on. -/
theorem edc_burst (p m d q : List UInt8) (h : m.length = d.length) : edc 0 (p ++ (zx m d ++ q)) = edc 0 (p ++ (m ++ q)) ↔ edc 0 d = 0 := by
  have hp := edc_lt p (show 0 < 4294967296 by omega)
  have hx : edc (edc 0 p) (zx m d) = edc (edc 0 p) m ^^^ edc 0 d := by
    have := edc_zx m d (edc 0 p) 0 h
    rwa [Nat.xor_zero] at this
  rw [edc_append, edc_append, edc_append, edc_append, hx]
  constructor
  · intro e
    have e1 := edc_inj q (by rw [← hx]; exact edc_lt _ hp) (edc_lt _ hp) e
    have e2 : edc 0 d ^^^ edc (edc 0 p) m = 0 ^^^ edc (edc 0 p) m := by rw [Nat.zero_xor, Nat.xor_comm]; exact e1
    exact xor_cancel e2
  · intro e; rw [e, Nat.xor_zero]
theorem crc_burst (p m d q : List UInt8) (h : m.length = d.length) : crc 0 (p ++ (zx m d ++ q)) = crc 0 (p ++ (m ++ q)) ↔ crc 0 d = 0 := by
  have hp := crc_lt p (show 0 < 65536 by omega)
  have hx : crc (crc 0 p) (zx m d) = crc (crc 0 p) m ^^^ crc 0 d := by
    have := crc_zx m d (crc 0 p) 0 hp (by omega) h
    rwa [Nat.xor_zero] at this
  rw [crc_append, crc_append, crc_append, crc_append, hx]
  constructor
  · intro e
    have e1 := crc_inj q (by rw [← hx]; exact crc_lt _ hp) (crc_lt _ hp) e
    have e2 : crc 0 d ^^^ crc (crc 0 p) m = 0 ^^^ crc (crc 0 p) m := by rw [Nat.zero_xor, Nat.xor_comm]; exact e1
    exact xor_cancel e2
  · intro e; rw [e, Nat.xor_zero]
theorem edc_four {c : Nat} (hc : c < 4294967296) (h : edc 0 (eby c).data.toList = 0) : c = 0 :=
  (edc_inj _ (show 0 < 4294967296 by omega) hc (h.trans (edc_close c hc).symm)).symm
theorem crc_two {c : Nat} (hc : c < 65536) : crc 0 (cby c).data.toList = 0 ↔ c = 0 :=
  ⟨fun h => (crc_inj _ (show 0 < 65536 by omega) hc (h.trans (crc_close c hc).symm)).symm, fun h => by subst h; exact crc_close 0 hc⟩

theorem set_at (p r : List Int) (j : Nat) (v : Int) : (p ++ r).set (p.length + j) v = p ++ r.set j v := by
  rw [List.set_append_right _ _ (by omega)]; simp
/-- A list, parted before its place k, with four elements behind. -/
theorem part4 (l : List UInt8) (k : Nat) (h : k + 3 < l.length) : ∃ p x0 x1 x2 x3 q, l = p ++ (x0 :: x1 :: x2 :: x3 :: q) ∧ p.length = k := by
  refine ⟨l.take k, l[k], l[k + 1], l[k + 2], l[k + 3], l.drop (k + 4), ?_, by simp; omega⟩
  have e0 : l.drop k = l[k] :: l.drop (k + 1) := List.drop_eq_getElem_cons (by omega)
  have e1 : l.drop (k + 1) = l[k + 1] :: l.drop (k + 2) := List.drop_eq_getElem_cons (by omega)
  have e2 : l.drop (k + 2) = l[k + 2] :: l.drop (k + 3) := List.drop_eq_getElem_cons (by omega)
  have e3 : l.drop (k + 3) = l[k + 3] :: l.drop (k + 4) := List.drop_eq_getElem_cons (by omega)
  rw [← e3, ← e2, ← e1, ← e0, List.take_append_drop]
def toI (l : List UInt8) : List Int := l.map fun b => (b.toNat : Int)
theorem back (l : List UInt8) : (toI l).map (fun n => UInt8.ofNat n.toNat) = l := by
  unfold toI
  rw [List.map_map]
  conv => rhs; rw [← List.map_id l]
  congr 1
  funext b
  simp
theorem x8 (x : UInt8) (d : Nat) (hd : d < 256) : UInt8.ofNat (bits BinOp.xor IntKind.u8 (x.toNat : Int) (d : Int)).toNat = x ^^^ UInt8.ofNat d := by
  rw [u8_xor_nat _ _ x.toNat_lt hd]
  apply UInt8.toNat_inj.1
  rw [Int.toNat_natCast, UInt8.toNat_ofNat_of_lt' (xor_lt8 x.toNat_lt hd), UInt8.toNat_xor, UInt8.toNat_ofNat_of_lt' hd]
theorem four_list (p q : List UInt8) (x0 x1 x2 x3 : UInt8) (d0 d1 d2 d3 : Nat) (h0 : d0 < 256) (h1 : d1 < 256) (h2 : d2 < 256) (h3 : d3 < 256) :
    (strOfNums (((((toI (p ++ (x0 :: x1 :: x2 :: x3 :: q))).set p.length (bits BinOp.xor IntKind.u8 (x0.toNat : Int) (d0 : Int))).set (p.length + 1) (bits BinOp.xor IntKind.u8 (x1.toNat : Int) (d1 : Int))).set (p.length + 2) (bits BinOp.xor IntKind.u8 (x2.toNat : Int) (d2 : Int))).set (p.length + 3) (bits BinOp.xor IntKind.u8 (x3.toNat : Int) (d3 : Int)))).data.toList =
      p ++ (zx [x0, x1, x2, x3] [UInt8.ofNat d0, UInt8.ofNat d1, UInt8.ofNat d2, UInt8.ofNat d3] ++ q) := by
  have e : toI (p ++ (x0 :: x1 :: x2 :: x3 :: q)) = toI p ++ ((x0.toNat : Int) :: (x1.toNat : Int) :: (x2.toNat : Int) :: (x3.toNat : Int) :: toI q) := by simp [toI]
  have hl : (toI p).length = p.length := by simp [toI]
  rw [e, ← hl]
  have s0 := set_at (toI p) ((x0.toNat : Int) :: (x1.toNat : Int) :: (x2.toNat : Int) :: (x3.toNat : Int) :: toI q) 0 (bits BinOp.xor IntKind.u8 (x0.toNat : Int) (d0 : Int))
  rw [Nat.add_zero] at s0
  rw [s0, set_at, set_at, set_at, strOfNums_data, List.map_append, back]
  congr 1
  simp only [List.set_cons_zero, List.set_cons_succ, List.map_cons, x8 x0 d0 h0, x8 x1 d1 h1, x8 x2 d2 h2, x8 x3 d3 h3, back]
  rfl
theorem two_list (p q : List UInt8) (x0 x1 x2 x3 : UInt8) (d0 d1 : Nat) (h0 : d0 < 256) (h1 : d1 < 256) :
    (strOfNums (((toI (p ++ (x0 :: x1 :: x2 :: x3 :: q))).set p.length (bits BinOp.xor IntKind.u8 (x0.toNat : Int) (d0 : Int))).set (p.length + 1) (bits BinOp.xor IntKind.u8 (x1.toNat : Int) (d1 : Int)))).data.toList =
      p ++ (zx [x0, x1] [UInt8.ofNat d0, UInt8.ofNat d1] ++ (x2 :: x3 :: q)) := by
  have e : toI (p ++ (x0 :: x1 :: x2 :: x3 :: q)) = toI p ++ ((x0.toNat : Int) :: (x1.toNat : Int) :: (x2.toNat : Int) :: (x3.toNat : Int) :: toI q) := by simp [toI]
  have hl : (toI p).length = p.length := by simp [toI]
  rw [e, ← hl]
  have s0 := set_at (toI p) ((x0.toNat : Int) :: (x1.toNat : Int) :: (x2.toNat : Int) :: (x3.toNat : Int) :: toI q) 0 (bits BinOp.xor IntKind.u8 (x0.toNat : Int) (d0 : Int))
  rw [Nat.add_zero] at s0
  rw [s0, set_at, strOfNums_data, List.map_append, back]
  congr 1
  have b2 : UInt8.ofNat ((x2.toNat : Int)).toNat = x2 := by simp
  have b3 : UInt8.ofNat ((x3.toNat : Int)).toNat = x3 := by simp
  simp only [List.set_cons_zero, List.set_cons_succ, List.map_cons, x8 x0 d0 h0, x8 x1 d1 h1, b2, b3, back]
  rfl
end Go.Proofs.Ytefaabigpbndaaa

/-
  A change within four consecutive bytes changes the EDC; the bytes of a row of memory.
-/
import Derived.Test.YtieblfpdibpeeaaSPf
import Derived.Test.YtieblfpdibpeeaaSRa
import Derived.Test.YtieblfpdibpeeaaSeR
import Derived.Lib.ConvBytes
import Derived.RegionTactic
import Derived.BigRegion
import Derived.LoopN
namespace Go.Proofs.Ytieblfpdibpeeaa
open Go.RowKit Go.Lib
set_option linter.unusedVariables false
set_option linter.unusedSimpArgs false

theorem eb_self (c : Nat) (b : UInt8) (h : b.toNat = c % 256) : eb c b = c / 256 := by
  unfold eb; rw [h, Nat.xor_self, esN_zero, Nat.xor_zero]
theorem ofNat_int (n : Nat) (h : n < 256) (i : Int) (e : i = (n : Int)) : (UInt8.ofNat i.toNat).toNat = n := by
  rw [e, Int.toNat_natCast, UInt8.toNat_ofNat_of_lt' h]
theorem edc_append (c : Nat) (l m : List UInt8) : edc c (l ++ m) = edc (edc c l) m := by unfold edc; rw [List.foldl_append]
theorem edc_close (c : Nat) (hc : c < 4294967296) : edc c (eby c).data.toList = 0 := by
  unfold eby
  rw [strOfNums_data]
  show eb (eb (eb (eb c _) _) _) _ = 0
  rw [eb_self c _ (ofNat_int (c % 256) (by omega) _ (by omega)), eb_self (c / 256) _ (ofNat_int (c / 256 % 256) (by omega) _ (by omega)),
    eb_self (c / 256 / 256) _ (ofNat_int (c / 256 / 256 % 256) (by omega) _ (by omega)), eb_self (c / 256 / 256 / 256) _ (ofNat_int (c / 256 / 256 / 256 % 256) (by omega) _ (by omega))]
  omega
def zx (l m : List UInt8) : List UInt8 := List.zipWith (· ^^^ ·) l m
theorem eb_xor (c d : Nat) (x y : UInt8) : eb (c ^^^ d) (x ^^^ y) = eb c x ^^^ eb d y := by
  unfold eb
  have h1 : (c ^^^ d) / 256 = c / 256 ^^^ d / 256 := Nat.xor_div_two_pow (n := 8)
  have h2 : (c ^^^ d) % 256 = c % 256 ^^^ d % 256 := Nat.xor_mod_two_pow (n := 8)
  rw [h1, h2, UInt8.toNat_xor, xor_cross (c % 256), esN_xor, xor_cross]
theorem edc_zx : ∀ (l m : List UInt8) (c d : Nat), l.length = m.length → edc (c ^^^ d) (zx l m) = edc c l ^^^ edc d m
  | [], [], _, _, _ => rfl
  | x :: l, y :: m, c, d, h => by
    show edc (eb (c ^^^ d) (x ^^^ y)) (zx l m) = edc (eb c x) l ^^^ edc (eb d y) m
    rw [eb_xor]
    exact edc_zx l m _ _ (by simpa using h)
theorem xor_cancel {a b c : Nat} (h : a ^^^ c = b ^^^ c) : a = b := by
  have := congrArg (· ^^^ c) h
  simpa [Nat.xor_assoc, Nat.xor_self] using this
theorem es_top {n : Nat} (h : n < 4294967296) : es n / 2147483648 = n % 2 := by
  unfold es
  by_cases t : n % 2 = 1
  · have e : (n / 2 ^^^ 3623976961) / 2 ^ 31 = n / 2 / 2 ^ 31 ^^^ 3623976961 / 2 ^ 31 := Nat.xor_div_two_pow (n := 31)
    rw [if_pos t, show 2147483648 = 2 ^ 31 from rfl, e, show n / 2 / 2 ^ 31 = 0 by omega, t]
    rfl
  · rw [if_neg t]; omega
theorem es_inj {a b : Nat} (ha : a < 4294967296) (hb : b < 4294967296) (h : es a = es b) : a = b := by
  have t : a % 2 = b % 2 := by rw [← es_top ha, ← es_top hb, h]
  unfold es at h
  by_cases e : a % 2 = 1
  · rw [if_pos e, if_pos (by omega)] at h
    have := xor_cancel h; omega
  · rw [if_neg e, if_neg (by omega)] at h; omega
theorem esN_inj (k : Nat) {a b : Nat} (ha : a < 4294967296) (hb : b < 4294967296) (h : esN k a = esN k b) : a = b := by
  induction k with
  | zero => exact h
  | succ k ih => exact ih (es_inj (esN_lt ha k) (esN_lt hb k) h)
theorem edc_inj (l : List UInt8) {a b : Nat} (ha : a < 4294967296) (hb : b < 4294967296) (h : edc a l = edc b l) : a = b := by
  induction l generalizing a b with
  | nil => exact h
  | cons x l ih =>
    have h1 : eb a x = eb b x := ih (eb_lt x ha) (eb_lt x hb) h
    rw [eb_er, eb_er] at h1
    unfold er at h1
    exact xor_cancel (esN_inj 8 (xor_byte32 x ha) (xor_byte32 x hb) h1)
theorem edc_burst (p m d q : List UInt8) (h : m.length = d.length) : edc 0 (p ++ (zx m d ++ q)) = edc 0 (p ++ (m ++ q)) ↔ edc 0 d = 0 := by
  have hp := edc_lt p (show 0 < 4294967296 by omega)
  have hx : edc (edc 0 p) (zx m d) = edc (edc 0 p) m ^^^ edc 0 d := by
    have := edc_zx m d (edc 0 p) 0 h
    rwa [Nat.xor_zero] at this
  rw [edc_append, edc_append, edc_append, edc_append, hx]
  constructor
  · intro e
    have e1 := edc_inj q (by rw [← hx]; exact edc_lt _ hp) (edc_lt _ hp) e
    have e2 : edc 0 d ^^^ edc (edc 0 p) m = 0 ^^^ edc (edc 0 p) m := by rw [Nat.zero_xor, Nat.xor_comm]; exact e1
    exact xor_cancel e2
  · intro e; rw [e, Nat.xor_zero]
theorem edc_four {c : Nat} (hc : c < 4294967296) (h : edc 0 (eby c).data.toList = 0) : c = 0 :=
  (edc_inj _ (show 0 < 4294967296 by omega) hc (h.trans (edc_close c hc).symm)).symm
theorem set_at (p r : List Int) (j : Nat) (v : Int) : (p ++ r).set (p.length + j) v = p ++ r.set j v := by
  rw [List.set_append_right _ _ (by omega)]; simp
theorem part4 (l : List UInt8) (k : Nat) (h : k + 3 < l.length) : ∃ p x0 x1 x2 x3 q, l = p ++ (x0 :: x1 :: x2 :: x3 :: q) ∧ p.length = k := by
  refine ⟨l.take k, l[k], l[k + 1], l[k + 2], l[k + 3], l.drop (k + 4), ?_, by simp; omega⟩
  have e0 : l.drop k = l[k] :: l.drop (k + 1) := List.drop_eq_getElem_cons (by omega)
  have e1 : l.drop (k + 1) = l[k + 1] :: l.drop (k + 2) := List.drop_eq_getElem_cons (by omega)
  have e2 : l.drop (k + 2) = l[k + 2] :: l.drop (k + 3) := List.drop_eq_getElem_cons (by omega)
  have e3 : l.drop (k + 3) = l[k + 3] :: l.drop (k + 4) := List.drop_eq_getElem_cons (by omega)
  rw [← e3, ← e2, ← e1, ← e0, List.take_append_drop]
def toI (l : List UInt8) : List Int := l.map fun b => (b.toNat : Int)
theorem back (l : List UInt8) : (toI l).map (fun n => UInt8.ofNat n.toNat) = l := by
  unfold toI
  rw [List.map_map]
  conv => rhs; rw [← List.map_id l]
  congr 1
  funext b
  simp
theorem x8 (x : UInt8) (d : Nat) (hd : d < 256) : UInt8.ofNat (bits BinOp.xor IntKind.u8 (x.toNat : Int) (d : Int)).toNat = x ^^^ UInt8.ofNat d := by
  rw [u8_xor_nat _ _ x.toNat_lt hd]
  apply UInt8.toNat_inj.1
  rw [Int.toNat_natCast, UInt8.toNat_ofNat_of_lt' (xor_lt8 x.toNat_lt hd), UInt8.toNat_xor, UInt8.toNat_ofNat_of_lt' hd]
theorem four_list (p q : List UInt8) (x0 x1 x2 x3 : UInt8) (d0 d1 d2 d3 : Nat) (h0 : d0 < 256) (h1 : d1 < 256) (h2 : d2 < 256) (h3 : d3 < 256) :
    (strOfNums (((((toI (p ++ (x0 :: x1 :: x2 :: x3 :: q))).set p.length (bits BinOp.xor IntKind.u8 (x0.toNat : Int) (d0 : Int))).set (p.length + 1) (bits BinOp.xor IntKind.u8 (x1.toNat : Int) (d1 : Int))).set (p.length + 2) (bits BinOp.xor IntKind.u8 (x2.toNat : Int) (d2 : Int))).set (p.length + 3) (bits BinOp.xor IntKind.u8 (x3.toNat : Int) (d3 : Int)))).data.toList =
      p ++ (zx [x0, x1, x2, x3] [UInt8.ofNat d0, UInt8.ofNat d1, UInt8.ofNat d2, UInt8.ofNat d3] ++ q) := by
  have e : toI (p ++ (x0 :: x1 :: x2 :: x3 :: q)) = toI p ++ ((x0.toNat : Int) :: (x1.toNat : Int) :: (x2.toNat : Int) :: (x3.toNat : Int) :: toI q) := by simp [toI]
  have hl : (toI p).length = p.length := by simp [toI]
  rw [e, ← hl]
  have s0 := set_at (toI p) ((x0.toNat : Int) :: (x1.toNat : Int) :: (x2.toNat : Int) :: (x3.toNat : Int) :: toI q) 0 (bits BinOp.xor IntKind.u8 (x0.toNat : Int) (d0 : Int))
  rw [Nat.add_zero] at s0
  rw [s0, set_at, set_at, set_at, strOfNums_data, List.map_append, back]
  congr 1
  simp only [List.set_cons_zero, List.set_cons_succ, List.map_cons, x8 x0 d0 h0, x8 x1 d1 h1, x8 x2 d2 h2, x8 x3 d3 h3, back]
  rfl
structure IsB (w : World) (B n : Nat) (xs : List Int) : Prop where
  len : xs.length = n
  cell : ∀ j, j < n → w.cell? ⟨B, j, none⟩ = some (.int .u8 (xs.getD j 0))
  free : ∀ j, j < n → w.frozen? ⟨B, j, none⟩ = false
theorem IsB.drewN {w : World} {B n : Nat} {xs : List Int} (h : IsB w B n xs) (m : Nat) : IsB (w.drewN m) B n xs := ⟨h.len, h.cell, h.free⟩
theorem IsB.drew {w : World} {B n : Nat} {xs : List Int} (h : IsB w B n xs) : IsB w.drew B n xs := ⟨h.len, h.cell, h.free⟩
theorem IsB.set {w : World} {B n : Nat} {xs : List Int} (h : IsB w B n xs) (j : Nat) (hj : j < n) (v : Int) : IsB (w.setCell ⟨B, j, none⟩ (.int .u8 v)) B n (xs.set j v) := by
  refine ⟨by rw [List.length_set]; exact h.len, fun i hi => ?_, fun i hi => ?_⟩
  · by_cases e : j = i
    · subst e
      rw [World.cell?_setCell_same _ _ _ (h.cell j hj)]
      rw [List.getD_eq_getElem?_getD, List.getElem?_set_self (by rw [h.len]; exact hi)]
      rfl
    · rw [World.cell?_setCell_other _ _ _ _ (fun hh => e (congrArg Addr.off hh)), h.cell i hi]
      rw [List.getD_eq_getElem?_getD, List.getD_eq_getElem?_getD, List.getElem?_set_ne e]
  · rw [World.frozen?_setCell]; exact h.free i hi
theorem IsB.below {w w1 : World} {B n : Nat} {xs : List Int} (h : IsB w B n xs) (hb : Below w.heap.size w w1) (hB : B < w.heap.size) : IsB w1 B n xs :=
  ⟨h.len, fun j hj => (hb.cell (p := ⟨B, j, none⟩) hB).trans (h.cell j hj), fun j hj => (hb.frozen (p := ⟨B, j, none⟩) hB).trans (h.free j hj)⟩
def bys (s : ByteArray) : List Int := s.data.toList.map fun b => (b.toNat : Int)
theorem isB_made (w : World) (s : ByteArray) : IsB (bytesWorld w 5 s) w.heap.size s.size (bys s) ∧ Below w.heap.size w (bytesWorld w 5 s) ∧ (bytesWorld w 5 s).heap.size = w.heap.size + 1 := by
  refine ⟨⟨by simp [bys], fun j hj => ?_, fun j hj => ?_⟩, ⟨rfl, rfl, rfl, ?_, fun k hk => bytesWorld_at_old w _ s k hk⟩, bytesWorld_size w _ s⟩
  · rw [bytesWorld_cell w _ s j hj]
    have hl : j < s.data.toList.length := hj
    simp [bys, List.getD_eq_getElem?_getD, List.getElem?_eq_getElem hl]
  · have hc : j < (bytesCells w 5 s).size := by
      have : s.data.size = s.size := rfl
      simp [bytesCells]; omega
    simp [World.frozen?, bytesWorld_at_new]
    omega
  · rw [bytesWorld_size]; omega
theorem Try.conv_sb (s : ByteArray) : ∀ w : World, (convert 9 42 (.string s)).run Try.prog w = .ok (.slice (some ⟨w.heap.size, 0, none⟩) s.size (grownCap w s.size 0 5)) (bytesWorld w 5 s) :=
  fun w => Go.Lib.run_convert_string_bytes (P := Try.prog) w 9 42 5 s Try.underlying9 Try.underlying42 Try.underlying5
theorem Try.conv_bs {w : World} {B n cap : Nat} {xs : List Int} (h : IsB w B n xs) : (convert 42 9 (.slice (some ⟨B, 0, none⟩) n cap)).run Try.prog w = .ok (.string (strOfNums xs)) w := by
  refine run_convert_bytes_arg w 42 5 Try.underlying42 Try.underlying5 B 0 n cap xs h.len (fun i hi => ?_) 9 Try.underlying9
  rw [Nat.zero_add]; exact h.cell i hi
end Go.Proofs.Ytieblfpdibpeeaa

/-
  Bytes of the call's own that are changed one by one: what the law ChecksumBursts does to a copy of its string.
-/
import Derived.Test.YtefaabigpbndaaaCkI
import Derived.Lib.ConvBytes
import Derived.RegionTactic
import Derived.BigRegion
import Derived.LoopN
namespace Go.Proofs.Ytefaabigpbndaaa
open Go.RowKit Go.Lib
set_option linter.unusedVariables false
set_option linter.unusedSimpArgs false

/-- Block B begins with these bytes, and they may be written. -/
structure IsB (w : World) (B n : Nat) (xs : List Int) : Prop where
  len : xs.length = n
  cell : ∀ j, j < n → w.cell? ⟨B, j, none⟩ = some (.int .u8 (xs.getD j 0))
  free : ∀ j, j < n → w.frozen? ⟨B, j, none⟩ = false
theorem IsB.drewN {w : World} {B n : Nat} {xs : List Int} (h : IsB w B n xs) (m : Nat) : IsB (w.drewN m) B n xs := ⟨h.len, h.cell, h.free⟩
theorem IsB.drew {w : World} {B n : Nat} {xs : List Int} (h : IsB w B n xs) : IsB w.drew B n xs := ⟨h.len, h.cell, h.free⟩
theorem IsB.set {w : World} {B n : Nat} {xs : List Int} (h : IsB w B n xs) (j : Nat) (hj : j < n) (v : Int) : IsB (w.setCell ⟨B, j, none⟩ (.int .u8 v)) B n (xs.set j v) := by
  refine ⟨by rw [List.length_set]; exact h.len, fun i hi => ?_, fun i hi => ?_⟩
  · by_cases e : j = i
    · subst e
      rw [World.cell?_setCell_same _ _ _ (h.cell j hj)]
      rw [List.getD_eq_getElem?_getD, List.getElem?_set_self (by rw [h.len]; exact hi)]
      rfl
    · rw [World.cell?_setCell_other _ _ _ _ (fun hh => e (congrArg Addr.off hh)), h.cell i hi]
      rw [List.getD_eq_getElem?_getD, List.getD_eq_getElem?_getD, List.getElem?_set_ne e]
  · rw [World.frozen?_setCell]; exact h.free i hi
theorem IsB.below {w w1 : World} {B n : Nat} {xs : List Int} (h : IsB w B n xs) (hb : Below w.heap.size w w1) (hB : B < w.heap.size) : IsB w1 B n xs :=
  ⟨h.len, fun j hj => (hb.cell (p := ⟨B, j, none⟩) hB).trans (h.cell j hj), fun j hj => (hb.frozen (p := ⟨B, j, none⟩) hB).trans (h.free j hj)⟩
/-- The bytes of a string, as numbers. -/
def bys (s : ByteArray) : List Int := s.data.toList.map fun b => (b.toNat : Int)
theorem isB_made (w : World) (s : ByteArray) : IsB (bytesWorld w 5 s) w.heap.size s.size (bys s) ∧ Below w.heap.size w (bytesWorld w 5 s) ∧ (bytesWorld w 5 s).heap.size = w.heap.size + 1 := by
  refine ⟨⟨by simp [bys], fun j hj => ?_, fun j hj => ?_⟩, ⟨rfl, rfl, rfl, ?_, fun k hk => bytesWorld_at_old w _ s k hk⟩, bytesWorld_size w _ s⟩
  · rw [bytesWorld_cell w _ s j hj]
    have hl : j < s.data.toList.length := hj
    simp [bys, List.getD_eq_getElem?_getD, List.getElem?_eq_getElem hl]
  · have hc : j < (bytesCells w 5 s).size := by
      have : s.data.size = s.size := rfl
      simp [bytesCells]; omega
    simp [World.frozen?, bytesWorld_at_new]
    omega
  · rw [bytesWorld_size]; omega
theorem Try.conv_sb (s : ByteArray) : ∀ w : World, (convert 9 34 (.string s)).run Try.prog w = .ok (.slice (some ⟨w.heap.size, 0, none⟩) s.size (grownCap w s.size 0 5)) (bytesWorld w 5 s) :=
  fun w => Go.Lib.run_convert_string_bytes (P := Try.prog) w 9 34 5 s Try.underlying9 Try.underlying34 Try.underlying5
theorem Try.conv_bs {w : World} {B n cap : Nat} {xs : List Int} (h : IsB w B n xs) : (convert 34 9 (.slice (some ⟨B, 0, none⟩) n cap)).run Try.prog w = .ok (.string (strOfNums xs)) w := by
  refine run_convert_bytes_arg w 34 5 Try.underlying34 Try.underlying5 B 0 n cap xs h.len (fun i hi => ?_) 9 Try.underlying9
  rw [Nat.zero_add]; exact h.cell i hi

theorem bursts_no (a0 : ByteArray) (a1 a2 : Int) (b1 : 0 ≤ a1 ∧ a1 ≤ 65535) (b2 : 0 ≤ a2 ∧ a2 ≤ 4294967295) (h : 300 < a0.size ∨ a0.size < 4 ∨ a2 = 0) (w : World) :
    Calls Try.prog 6 #[.string a0, .int .u16 a1, .int .u32 a2] w fun e w' => e = .returned (.bool true) ∧ Below w.heap.size w w' := by
  by_cases h1 : 300 < a0.size
  · have d1 : decide (300 < (a0.size : Int)) = true := decide_eq_true (by omega)
    clear h
    go_enter Try.func6, Try.ntmps6
    go_wp2_with fail
    refine (awake_any _).mono ?_
    rintro e w1 ⟨rfl, hb1⟩
    go_wp2_with fail
    go_ret
    exact ⟨rfl, hb1⟩
  · have d1 : decide (300 < (a0.size : Int)) = false := decide_eq_false (by omega)
    by_cases h2 : a0.size < 4
    · have d2 : decide ((a0.size : Int) < 4) = true := decide_eq_true (by omega)
      clear h
      go_enter Try.func6, Try.ntmps6
      go_wp2_with fail
      refine (awake_any _).mono ?_
      rintro e w1 ⟨rfl, hb1⟩
      go_wp2_with fail
      go_ret
      exact ⟨rfl, hb1⟩
    · have d2 : decide ((a0.size : Int) < 4) = false := decide_eq_false (by omega)
      have h3 : a2 = 0 := by omega
      subst h3
      clear h
      go_enter Try.func6, Try.ntmps6
      go_wp2_with fail
      refine (awake_any _).mono ?_
      rintro e w1 ⟨rfl, hb1⟩
      go_wp2_with fail
      go_ret
      exact ⟨rfl, hb1⟩

/-- What the walk asks of one input: the bytes at the four places, and the codes. -/
structure BurstIn (a0 : ByteArray) (k c v0 v1 v2 v3 x y z u : Nat) : Prop where
  g0 : (bys a0).getD k 0 = (v0 : Int)
  g1 : (bys a0).getD (k + 1) 0 = (v1 : Int)
  g2 : (bys a0).getD (k + 2) 0 = (v2 : Int)
  g3 : (bys a0).getD (k + 3) 0 = (v3 : Int)
  e4 : edc 0 (strOfNums (((((bys a0).set k (bits BinOp.xor IntKind.u8 (v0 : Int) ((c : Int) % 256))).set (k + 1) (bits BinOp.xor IntKind.u8 (v1 : Int) ((c : Int) / 256 % 256))).set (k + 2) (bits BinOp.xor IntKind.u8 (v2 : Int) ((c : Int) / 65536 % 256))).set (k + 3) (bits BinOp.xor IntKind.u8 (v3 : Int) ((c : Int) / 16777216)))).data.toList = x
  e0 : edc 0 a0.data.toList = y
  ne : x ≠ y
  c2 : crc 0 (strOfNums (((bys a0).set k (bits BinOp.xor IntKind.u8 (v0 : Int) ((c : Int) % 256))).set (k + 1) (bits BinOp.xor IntKind.u8 (v1 : Int) ((c : Int) / 256 % 256)))).data.toList = z
  c0 : crc 0 a0.data.toList = u
  iff : z = u ↔ c % 65536 = 0
theorem burst_in (a0 : ByteArray) (k c : Nat) (hc : c < 4294967296) (h0 : 0 < c) (kl : k + 3 < a0.size) : ∃ v0 v1 v2 v3 x y z u : Nat, BurstIn a0 k c v0 v1 v2 v3 x y z u := by
  obtain ⟨p, x0, x1, x2, x3, q, hl, hp⟩ := part4 a0.data.toList k kl
  have hb : bys a0 = toI (p ++ (x0 :: x1 :: x2 :: x3 :: q)) := by rw [← hl]; rfl
  have gd : ∀ j v, (x0 :: x1 :: x2 :: x3 :: q)[j]? = some v → (bys a0).getD (k + j) 0 = (v.toNat : Int) := by
    intro j v hv
    rw [hb, ← hp, List.getD_eq_getElem?_getD, toI, List.getElem?_map, List.getElem?_append_right (by omega), Nat.add_sub_cancel_left, hv]; rfl
  have i0 : (c : Int) % 256 = ((c % 256 : Nat) : Int) := by omega
  have i1 : (c : Int) / 256 % 256 = ((c / 256 % 256 : Nat) : Int) := by omega
  have i2 : (c : Int) / 65536 % 256 = ((c / 65536 % 256 : Nat) : Int) := by omega
  have i3 : (c : Int) / 16777216 = ((c / 16777216 : Nat) : Int) := by omega
  have f4 := four_list p q x0 x1 x2 x3 (c % 256) (c / 256 % 256) (c / 65536 % 256) (c / 16777216) (by omega) (by omega) (by omega) (by omega)
  have f2 := two_list p q x0 x1 x2 x3 (c % 256) (c / 256 % 256) (by omega) (by omega)
  have hd4 : [UInt8.ofNat (c % 256), UInt8.ofNat (c / 256 % 256), UInt8.ofNat (c / 65536 % 256), UInt8.ofNat (c / 16777216)] = (eby c).data.toList := by
    unfold eby; rw [strOfNums_data, i0, i1, i2, i3]; simp only [List.map_cons, List.map_nil, Int.toNat_natCast]
  have hd2 : [UInt8.ofNat (c % 256), UInt8.ofNat (c / 256 % 256)] = (cby (c % 256 * 256 + c / 256 % 256)).data.toList := by
    unfold cby
    rw [strOfNums_data, show ((c % 256 * 256 + c / 256 % 256 : Nat) : Int) / 256 = ((c % 256 : Nat) : Int) by omega, show ((c % 256 * 256 + c / 256 % 256 : Nat) : Int) % 256 = ((c / 256 % 256 : Nat) : Int) by omega]
    simp only [List.map_cons, List.map_nil, Int.toNat_natCast]
  refine ⟨x0.toNat, x1.toNat, x2.toNat, x3.toNat, _, _, _, _, gd 0 x0 rfl, gd 1 x1 rfl, gd 2 x2 rfl, gd 3 x3 rfl, rfl, rfl, ?_, rfl, rfl, ?_⟩
  · intro e
    rw [hb, ← hp, i0, i1, i2, i3, f4, hd4, hl] at e
    have := (edc_burst p [x0, x1, x2, x3] _ q (by rw [← hd4]; rfl)).1 e
    have := edc_four hc this
    omega
  · rw [hb, ← hp, i0, i1, f2, hd2, hl]
    rw [show p ++ x0 :: x1 :: x2 :: x3 :: q = p ++ ([x0, x1] ++ (x2 :: x3 :: q)) from rfl]
    rw [crc_burst p [x0, x1] _ (x2 :: x3 :: q) (by rw [← hd2]; rfl), crc_two (by omega)]
    omega

set_option maxRecDepth 100000 in
set_option maxHeartbeats 1000000 in
theorem bursts_yes (a0 : ByteArray) (a1 : Int) (c : Nat) (b1 : 0 ≤ a1 ∧ a1 ≤ 65535) (b2 : c < 4294967296) (c0 : 0 < c) (h0 : a0.size ≤ 300) (h4 : 4 ≤ a0.size) (w : World) :
    Calls Try.prog 6 #[.string a0, .int .u16 a1, .int .u32 (c : Int)] w fun e w' => e = .returned (.bool true) ∧ Below w.heap.size w w' := by
  have d1 : decide (300 < (a0.size : Int)) = false := decide_eq_false (by omega)
  have d2 : decide ((a0.size : Int) < 4) = false := decide_eq_false (by omega)
  have d3 : ((c : Int) == 0) = false := by rw [beq_eq_false_iff_ne]; omega
  obtain ⟨k, hk⟩ : ∃ k : Nat, (k : Int) = a1 % ((a0.size : Int) - 3) := ⟨(a1 % ((a0.size : Int) - 3)).toNat, by have := Int.emod_nonneg a1 (show ((a0.size : Int) - 3) ≠ 0 by omega); omega⟩
  have kl : k + 3 < a0.size := by have := Int.emod_lt_of_pos a1 (show 0 < ((a0.size : Int) - 3) by omega); omega
  obtain ⟨v0, v1, v2, v3, x, y, z, u, I⟩ := burst_in a0 k c b2 c0 kl
  have J := hid I
  clear I
  have s0 : a0.size ≤ 140737488351232 := by omega
  have H4 : Hid (∀ w : World, Calls Try.prog 11 #[.string (strOfNums (((((bys a0).set k (bits BinOp.xor IntKind.u8 (v0 : Int) ((c : Int) % 256))).set (k + 1) (bits BinOp.xor IntKind.u8 (v1 : Int) ((c : Int) / 256 % 256))).set (k + 2) (bits BinOp.xor IntKind.u8 (v2 : Int) ((c : Int) / 65536 % 256))).set (k + 3) (bits BinOp.xor IntKind.u8 (v3 : Int) ((c : Int) / 16777216))))] w fun e w' => e = .returned (.int .u32 (x : Int)) ∧ Below w.heap.size w w') := fun w => by
    have := EDC_any (strOfNums (((((bys a0).set k (bits BinOp.xor IntKind.u8 (v0 : Int) ((c : Int) % 256))).set (k + 1) (bits BinOp.xor IntKind.u8 (v1 : Int) ((c : Int) / 256 % 256))).set (k + 2) (bits BinOp.xor IntKind.u8 (v2 : Int) ((c : Int) / 65536 % 256))).set (k + 3) (bits BinOp.xor IntKind.u8 (v3 : Int) ((c : Int) / 16777216)))) (by rw [strOfNums_size]; simp only [List.length_set, bys, List.length_map]; exact s0) w
    rw [J.out.e4] at this; exact this
  have H0 : Hid (∀ w : World, Calls Try.prog 11 #[.string a0] w fun e w' => e = .returned (.int .u32 (y : Int)) ∧ Below w.heap.size w w') := fun w => by
    have := EDC_any a0 s0 w
    rw [J.out.e0] at this; exact this
  have H2 : Hid (∀ w : World, Calls Try.prog 13 #[.string (strOfNums (((bys a0).set k (bits BinOp.xor IntKind.u8 (v0 : Int) ((c : Int) % 256))).set (k + 1) (bits BinOp.xor IntKind.u8 (v1 : Int) ((c : Int) / 256 % 256))))] w fun e w' => e = .returned (.int .u16 (z : Int)) ∧ Below w.heap.size w w') := fun w => by
    have := CRC16_any (strOfNums (((bys a0).set k (bits BinOp.xor IntKind.u8 (v0 : Int) ((c : Int) % 256))).set (k + 1) (bits BinOp.xor IntKind.u8 (v1 : Int) ((c : Int) / 256 % 256)))) (by rw [strOfNums_size]; simp only [List.length_set, bys, List.length_map]; exact s0) w
    rw [J.out.c2] at this; exact this
  have H1 : Hid (∀ w : World, Calls Try.prog 13 #[.string a0] w fun e w' => e = .returned (.int .u16 (u : Int)) ∧ Below w.heap.size w w') := fun w => by
    have := CRC16_any a0 s0 w
    rw [J.out.c0] at this; exact this
  have KS := hid (Try.conv_sb a0)
  have K := Try.conv_sb a0
  go_enter Try.func6, Try.ntmps6
  go_wp2_with fail
  refine (awake_any _).mono ?_
  rintro e w1 ⟨rfl, hb1⟩
  go_wp2_with fail
  rw [hk.symm]
  obtain ⟨M0, B0, M3⟩ := isB_made w1 a0
  generalize grownCap w1 a0.size 0 5 = cap
  generalize bytesWorld w1 5 a0 = W0 at M0 B0 M3 ⊢
  have M3' : w1.heap.size < W0.heap.size := by omega
  clear hk K d1 d2 d3 M3
  refine wp_loop_rounds 5 ?_
  have x0 : W0.cell? ⟨w1.heap.size, k, none⟩ = some (.int .u8 (v0 : Int)) := by
    rw [M0.cell k (by omega)]
    have : (bys a0).getD k 0 = (v0 : Int) := by rw [← J.out.g0]
    rw [this]
  have y0 := M0.free k (by omega)
  rw [rounds_succ]
  go_wp2_with fail
  go_region
  have M1 := (M0.set k (by omega) (bits BinOp.xor IntKind.u8 (v0 : Int) ((c : Int) % 256))).drew
  have B1 : Below w1.heap.size w1 ((W0.setCell ⟨w1.heap.size, k, none⟩ (.int .u8 (bits BinOp.xor IntKind.u8 (v0 : Int) ((c : Int) % 256)))).drew) := (B0.setCell (Nat.le_refl _) _).drew
  clear x0 y0 M0 B0
  generalize (W0.setCell ⟨w1.heap.size, k, none⟩ (.int .u8 (bits BinOp.xor IntKind.u8 (v0 : Int) ((c : Int) % 256)))).drew = W1 at M1 B1 ⊢
  go_wp2_with fail
  have x1 : W1.cell? ⟨w1.heap.size, k + 1, none⟩ = some (.int .u8 (v1 : Int)) := by
    rw [M1.cell (k + 1) (by omega)]
    have : ((bys a0).set k (bits BinOp.xor IntKind.u8 (v0 : Int) ((c : Int) % 256))).getD (k + 1) 0 = (v1 : Int) := by rw [← J.out.g1]; simp [List.getD_eq_getElem?_getD, List.getElem?_set]
    rw [this]
  have y1 := M1.free (k + 1) (by omega)
  rw [rounds_succ]
  go_wp2_with fail
  go_region
  have M2 := (M1.set (k + 1) (by omega) (bits BinOp.xor IntKind.u8 (v1 : Int) ((c : Int) / 256 % 256))).drew
  have B2 : Below w1.heap.size w1 ((W1.setCell ⟨w1.heap.size, k + 1, none⟩ (.int .u8 (bits BinOp.xor IntKind.u8 (v1 : Int) ((c : Int) / 256 % 256)))).drew) := (B1.setCell (Nat.le_refl _) _).drew
  clear x1 y1 M1 B1
  generalize (W1.setCell ⟨w1.heap.size, k + 1, none⟩ (.int .u8 (bits BinOp.xor IntKind.u8 (v1 : Int) ((c : Int) / 256 % 256)))).drew = W2 at M2 B2 ⊢
  go_wp2_with fail
  have x2 : W2.cell? ⟨w1.heap.size, k + 2, none⟩ = some (.int .u8 (v2 : Int)) := by
    rw [M2.cell (k + 2) (by omega)]
    have : (((bys a0).set k (bits BinOp.xor IntKind.u8 (v0 : Int) ((c : Int) % 256))).set (k + 1) (bits BinOp.xor IntKind.u8 (v1 : Int) ((c : Int) / 256 % 256))).getD (k + 2) 0 = (v2 : Int) := by rw [← J.out.g2]; simp [List.getD_eq_getElem?_getD, List.getElem?_set]
    rw [this]
  have y2 := M2.free (k + 2) (by omega)
  rw [rounds_succ]
  go_wp2_with fail
  go_region
  have M3 := (M2.set (k + 2) (by omega) (bits BinOp.xor IntKind.u8 (v2 : Int) ((c : Int) / 65536 % 256))).drew
  have B3 : Below w1.heap.size w1 ((W2.setCell ⟨w1.heap.size, k + 2, none⟩ (.int .u8 (bits BinOp.xor IntKind.u8 (v2 : Int) ((c : Int) / 65536 % 256)))).drew) := (B2.setCell (Nat.le_refl _) _).drew
  clear x2 y2 M2 B2
  generalize (W2.setCell ⟨w1.heap.size, k + 2, none⟩ (.int .u8 (bits BinOp.xor IntKind.u8 (v2 : Int) ((c : Int) / 65536 % 256)))).drew = W3 at M3 B3 ⊢
  go_wp2_with fail
  have x3 : W3.cell? ⟨w1.heap.size, k + 3, none⟩ = some (.int .u8 (v3 : Int)) := by
    rw [M3.cell (k + 3) (by omega)]
    have : ((((bys a0).set k (bits BinOp.xor IntKind.u8 (v0 : Int) ((c : Int) % 256))).set (k + 1) (bits BinOp.xor IntKind.u8 (v1 : Int) ((c : Int) / 256 % 256))).set (k + 2) (bits BinOp.xor IntKind.u8 (v2 : Int) ((c : Int) / 65536 % 256))).getD (k + 3) 0 = (v3 : Int) := by rw [← J.out.g3]; simp [List.getD_eq_getElem?_getD, List.getElem?_set]
    rw [this]
  have y3 := M3.free (k + 3) (by omega)
  rw [rounds_succ]
  go_wp2_with fail
  go_region
  have M4 := (M3.set (k + 3) (by omega) (bits BinOp.xor IntKind.u8 (v3 : Int) ((c : Int) / 16777216))).drew
  have B4 : Below w1.heap.size w1 ((W3.setCell ⟨w1.heap.size, k + 3, none⟩ (.int .u8 (bits BinOp.xor IntKind.u8 (v3 : Int) ((c : Int) / 16777216)))).drew) := (B3.setCell (Nat.le_refl _) _).drew
  clear x3 y3 M3 B3
  generalize (W3.setCell ⟨w1.heap.size, k + 3, none⟩ (.int .u8 (bits BinOp.xor IntKind.u8 (v3 : Int) ((c : Int) / 16777216)))).drew = W4 at M4 B4 ⊢
  go_wp2_with fail
  have K2 := Try.conv_bs (cap := cap) M4
  have K := KS.out
  have n1 : ((x : Int) == (y : Int)) = false := by rw [beq_eq_false_iff_ne]; have := J.out.ne; omega
  rw [rounds_succ]
  go_wp2_with fail
  refine (H4.out _).mono ?_
  rintro e w5 ⟨rfl, hb5⟩
  clear K2 M4
  go_wp2_with fail
  refine (H0.out _).mono ?_
  rintro e w6 ⟨rfl, hb6⟩
  obtain ⟨N0, N1, N3⟩ := isB_made w6 a0
  have c0' : (bytesWorld w6 5 a0).cell? ⟨w6.heap.size, k, none⟩ = some (.int .u8 (v0 : Int)) := by rw [N0.cell k (by omega), J.out.g0]
  have c1' : (bytesWorld w6 5 a0).cell? ⟨w6.heap.size, k + 1, none⟩ = some (.int .u8 (v1 : Int)) := by rw [N0.cell (k + 1) (by omega), J.out.g1]
  have f0' := N0.free k (by omega)
  have f1' := N0.free (k + 1) (by omega)
  have K3 := Try.conv_bs (cap := grownCap w6 a0.size 0 5) ((N0.set k (by omega) (bits BinOp.xor IntKind.u8 (v0 : Int) ((c : Int) % 256))).set (k + 1) (by omega) (bits BinOp.xor IntKind.u8 (v1 : Int) ((c : Int) / 256 % 256)))
  have m1 : bits .and .u32 (c : Int) 65535 = ((c % 65536 : Nat) : Int) := by
    rw [show (65535 : Int) = ((65535 : Nat) : Int) from rfl, u32_and_nat _ _ b2 (by omega), nat_mask16]
  have hbb : Below w.heap.size w w6 := bthen (bthen (hb1.trans (B4.mono hb1.size)) hb5) hb6
  have hfin : Below w.heap.size w (((bytesWorld w6 5 a0).setCell ⟨w6.heap.size, k, none⟩ (.int .u8 (bits BinOp.xor IntKind.u8 (v0 : Int) ((c : Int) % 256)))).setCell ⟨w6.heap.size, k + 1, none⟩ (.int .u8 (bits BinOp.xor IntKind.u8 (v1 : Int) ((c : Int) / 256 % 256)))) :=
    ((hbb.trans (N1.mono hbb.size)).setCell hbb.size _).setCell hbb.size _
  have HF := hid hfin
  by_cases hm : c % 65536 = 0
  · have t1 : (bits .and .u32 (c : Int) 65535 == 0) = true := by rw [m1, hm]; rfl
    have t2 : ((z : Int) == (u : Int)) = true := by rw [beq_iff_eq, J.out.iff.2 hm]
    clear m1 hm hfin N3
    go_wp2_with fail
    refine (H2.out _).mono ?_
    rintro e w7 ⟨rfl, hb7⟩
    go_wp2_with fail
    refine (H1.out _).mono ?_
    rintro e w8 ⟨rfl, hb8⟩
    go_wp2_with fail
    go_ret
    exact ⟨rfl, bthen (bthen HF.out hb7) hb8⟩
  · have t1 : (bits .and .u32 (c : Int) 65535 == 0) = false := by rw [m1, beq_eq_false_iff_ne]; omega
    have t2 : ((z : Int) == (u : Int)) = false := by rw [beq_eq_false_iff_ne]; intro e; exact hm (J.out.iff.1 (by omega))
    clear m1 hm hfin N3
    go_wp2_with fail
    refine (H2.out _).mono ?_
    rintro e w7 ⟨rfl, hb7⟩
    go_wp2_with fail
    refine (H1.out _).mono ?_
    rintro e w8 ⟨rfl, hb8⟩
    go_wp2_with fail
    go_ret
    exact ⟨rfl, bthen (bthen HF.out hb7) hb8⟩

theorem ChecksumBursts_walk (a0 : ByteArray) (a1 : Int) (a2 : Int) (w0 : a0.size ≤ maxLen) (w1 : (Lit.int .u16 a1).wf = true) (w2 : (Lit.int .u32 a2).wf = true) (w : World) :
    Calls Try.prog 6 #[.string a0, .int .u16 a1, .int .u32 a2] w fun e w' => e = .returned (.bool true) ∧ Below w.heap.size w w' := by
  have A1 := bounds_u16 w1
  have A2 := bounds_u32 w2
  by_cases h : 300 < a0.size ∨ a0.size < 4 ∨ a2 = 0
  · exact bursts_no a0 a1 a2 A1 A2 h w
  · obtain ⟨c, rfl⟩ := Int.eq_ofNat_of_zero_le A2.1
    exact bursts_yes a0 a1 c A1 (by omega) (by omega) (by omega) (by omega) w
end Go.Proofs.Ytefaabigpbndaaa

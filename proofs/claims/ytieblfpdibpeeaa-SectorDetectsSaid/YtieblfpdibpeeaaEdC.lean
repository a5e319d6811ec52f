/-
  The contracts of ExtendEDC, ExtendCRC16, EDC, CRC16 and Sum8 (package checksum): what plain functions on lists of bytes say.
-/
import Derived.Test.YtieblfpdibpeeaaEdB
namespace Go.Proofs.Ytieblfpdibpeeaa
open Go.RowKit Go.Lib
set_option linter.unusedVariables false
set_option linter.unusedSimpArgs false


/-- One byte into the EDC's register, by the table; all bytes of a list. -/
def eb (c : Nat) (b : UInt8) : Nat := c / 256 ^^^ esN 8 ((c % 256) ^^^ b.toNat)
def edc (c : Nat) (l : List UInt8) : Nat := l.foldl eb c
theorem xor_lt8 {a b : Nat} (ha : a < 256) (hb : b < 256) : a ^^^ b < 256 := Nat.xor_lt_two_pow (n := 8) ha hb
theorem eb_lt {c : Nat} (b : UInt8) (h : c < 4294967296) : eb c b < 4294967296 := by
  unfold eb
  exact Nat.xor_lt_two_pow (n := 32) (by omega) (esN_lt (by have := xor_lt8 (show c % 256 < 256 by omega) b.toNat_lt; omega) 8)
theorem edc_lt {c : Nat} (l : List UInt8) (h : c < 4294967296) : edc c l < 4294967296 := by
  unfold edc
  induction l generalizing c with
  | nil => exact h
  | cons b l ih => exact ih (eb_lt b h)
theorem take_snoc (s : ByteArray) (k : Nat) (h : k < s.size) : s.data.toList.take (k + 1) = s.data.toList.take k ++ [s[k]] := by
  rw [List.take_succ_eq_append_getElem (by simpa using h)]; rfl
theorem take_all (s : ByteArray) (k : Nat) (h : s.size ≤ k) : s.data.toList.take k = s.data.toList := List.take_of_length_le (by simpa using h)
theorem edc_snoc (c : Nat) (l : List UInt8) (b : UInt8) : edc c (l ++ [b]) = eb (edc c l) b := by unfold edc; rw [List.foldl_append]; rfl
set_option maxRecDepth 100000 in
theorem ExtendEDC_any (c : Nat) (hc : c < 4294967296) (s : ByteArray) (hs : s.size ≤ 140737488351232) (w : World) :
    Calls Try.prog 73 #[.int .u32 (c : Int), .string s] w fun e w' => e = .returned (.int .u32 (edc c s.data.toList : Nat)) ∧ Below w.heap.size w w' := by
  obtain ⟨hz, hsz⟩ := zero_of_info (P := Try.prog) Try.info32
  go_enter Try.func73, Try.ntmps73
  go_wp2_with fail
  refine (reflected_any _).mono ?_
  rintro e w1 ⟨rfl, hb⟩
  go_wp2_with (refine wpList_store_row rfl 104 _ _ rfl w1.heap.size 104 _ _ rfl rfl (heap_alloc_new w1 _) (by rw [hsz, TB_size]) (by rw [TB_size, Array.size_replicate]) (TB_one _ _ _) ?_)
  clear hz
  have hcell : ∀ j, j < 256 → ((w1.alloc (Obj.cells (Array.replicate 256 (Value.int IntKind.u32 0)) 104)).setRow w1.heap.size (TB IntKind.u32 (esN 8) 256)).cell? ⟨w1.heap.size, j, none⟩ = some (.int .u32 (esN 8 j : Nat)) := by
    intro j hj
    rw [cell_of_row _ _ j _ _ (0, 0) (setRow_heap _ _ _ _ _ _ (heap_alloc_new w1 _)), TB_at _ _ _ _ hj, if_pos hj]
  have hbel : Below w.heap.size w ((w1.alloc (Obj.cells (Array.replicate 256 (Value.int IntKind.u32 0)) 104)).setRow w1.heap.size (TB IntKind.u32 (esN 8) 256)) := below_setRow (balloc hb _) _ _ hb.size
  generalize (w1.alloc (Obj.cells (Array.replicate 256 (Value.int IntKind.u32 0)) 104)).setRow w1.heap.size (TB IntKind.u32 (esN 8) 256) = W2 at *
  have HC := hid hcell
  clear hcell hsz
  go_loop [0, 10] (fun x i => ∃ k : Nat, k ≤ s.size ∧ i = .int .i64 k ∧ x = .int .u32 (edc c (s.data.toList.take k) : Nat)) (fun _ i => s.size - (intOf i).toNat)
  case atStart => exact ⟨0, by omega, rfl, rfl⟩
  case round =>
    obtain ⟨k, hk, rfl, rfl⟩ := hrel
    have hn := edc_lt (s.data.toList.take k) hc
    by_cases hlt : k < s.size
    · have HK : Hid (edc c (s.data.toList.take (k + 1)) = eb (edc c (s.data.toList.take k)) s[k]) := by unfold Hid; rw [take_snoc s k hlt, edc_snoc]
      generalize edc c (s.data.toList.take k) = x at *
      have hbt := (s[k]).toNat_lt
      have hj : bits BinOp.xor IntKind.u8 ((x : Int) % 256) ((s[k]).toNat : Int) = ((x % 256 ^^^ (s[k]).toNat : Nat) : Int) := by
        rw [show ((x : Int) % 256) = ((x % 256 : Nat) : Int) by omega, u8_xor_nat _ _ (by omega) hbt]
      have hjl := xor_lt8 (show x % 256 < 256 by omega) hbt
      have hcl : W2.cell? ⟨w1.heap.size, (bits BinOp.xor IntKind.u8 ((x : Int) % 256) ((s[k]).toNat : Int)).toNat, none⟩ = some (.int .u32 (esN 8 (x % 256 ^^^ (s[k]).toNat) : Nat)) := by
        rw [hj]; exact HC.out _ hjl
      have HX : Hid (bits .xor .u32 ((x : Int) / 256) ((esN 8 (x % 256 ^^^ (s[k]).toNat) : Nat) : Int) = ((eb x s[k] : Nat) : Int)) := by
        unfold Hid eb
        rw [show ((x : Int) / 256) = ((x / 256 : Nat) : Int) by omega, u32_xor_nat _ _ (by omega) (esN_lt (by omega) 8)]
      have hj0 : 0 ≤ bits BinOp.xor IntKind.u8 ((x : Int) % 256) ((s[k]).toNat : Int) := by rw [hj]; omega
      have hj1 : bits BinOp.xor IntKind.u8 ((x : Int) % 256) ((s[k]).toNat : Int) < 256 := by rw [hj]; omega
      clear hj hjl
      go_wp2_with fail
      go_round
      case rel => exact ⟨k + 1, by omega, by go_num, by rw [HK.out]; exact int_eq HX.out⟩
      case measure => simp [intOf]; omega
    · have e8 : Hid (edc c (s.data.toList.take k) = edc c s.data.toList) := by unfold Hid; rw [take_all s k (by omega)]
      go_wp2_with fail
      go_ret
      exact ⟨ret_int (by rw [e8.out]), hbel⟩

end Go.Proofs.Ytieblfpdibpeeaa

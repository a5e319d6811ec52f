/-
  The contracts of math/bits's OnesCount8, OnesCount16 and OnesCount32, as this seat's program holds them: the numbers of one bits, byte by byte.
-/
import Derived.Test.YtefaabigpbndaaaCkL
namespace Go.Proofs.Ytefaabigpbndaaa
open Go.RowKit Go.Lib
set_option linter.unusedVariables false
set_option linter.unusedSimpArgs false

/-- The numbers of one bits of the bytes. -/
def pop8 : ByteArray := ⟨#[0, 1, 1, 2, 1, 2, 2, 3, 1, 2, 2, 3, 2, 3, 3, 4, 1, 2, 2, 3, 2, 3, 3, 4, 2, 3, 3, 4, 3, 4, 4, 5, 1, 2, 2, 3, 2, 3, 3, 4, 2, 3, 3, 4, 3, 4, 4, 5, 2, 3, 3, 4, 3, 4, 4, 5, 3, 4, 4, 5, 4, 5, 5, 6, 1, 2, 2, 3, 2, 3, 3, 4, 2, 3, 3, 4, 3, 4, 4, 5, 2, 3, 3, 4, 3, 4, 4, 5, 3, 4, 4, 5, 4, 5, 5, 6, 2, 3, 3, 4, 3, 4, 4, 5, 3, 4, 4, 5, 4, 5, 5, 6, 3, 4, 4, 5, 4, 5, 5, 6, 4, 5, 5, 6, 5, 6, 6, 7, 1, 2, 2, 3, 2, 3, 3, 4, 2, 3, 3, 4, 3, 4, 4, 5, 2, 3, 3, 4, 3, 4, 4, 5, 3, 4, 4, 5, 4, 5, 5, 6, 2, 3, 3, 4, 3, 4, 4, 5, 3, 4, 4, 5, 4, 5, 5, 6, 3, 4, 4, 5, 4, 5, 5, 6, 4, 5, 5, 6, 5, 6, 6, 7, 2, 3, 3, 4, 3, 4, 4, 5, 3, 4, 4, 5, 4, 5, 5, 6, 3, 4, 4, 5, 4, 5, 5, 6, 4, 5, 5, 6, 5, 6, 6, 7, 3, 4, 4, 5, 4, 5, 5, 6, 4, 5, 5, 6, 5, 6, 6, 7, 4, 5, 5, 6, 5, 6, 6, 7, 5, 6, 6, 7, 6, 7, 7, 8]⟩
theorem pop8_size : pop8.size = 256 := by decide +kernel
def pc8 (n : Nat) : Nat := (pop8.data.toList.getD n 0).toNat

theorem pop_at (i : Nat) (h : i < pop8.size) : (pop8[i]'h).toNat = pc8 i := by
  unfold pc8
  have hl : i < pop8.data.toList.length := h
  rw [List.getD_eq_getElem?_getD, List.getElem?_eq_getElem hl]; rfl
theorem pc8_le : ∀ n, n < 256 → pc8 n ≤ 8 := by decide +kernel

set_option maxRecDepth 100000 in
theorem Ones8_any (n : Nat) (hn : n < 256) (w : World) :
    Calls Try.prog 26 #[.int .u8 (n : Int)] w fun e w' => e = .returned (.int .i64 (pc8 n : Nat)) ∧ w = w' := by
  have hb : n < pop8.size := by rw [pop8_size]; exact hn
  go_enter Try.func26, Try.ntmps26
  go_wp2_with fail
  go_ret
  refine ⟨?_, rfl⟩
  have hv : wrap64 ((pop8[n]'hb).toNat : Int) = ((pc8 n : Nat) : Int) := by
    rw [pop_at n hb]; have := pc8_le n hn; unfold wrap64; omega
  exact ret_int hv

set_option maxRecDepth 100000 in
theorem Ones16_any (n : Nat) (hn : n < 65536) (w : World) :
    Calls Try.prog 28 #[.int .u16 (n : Int)] w fun e w' => e = .returned (.int .i64 (pc8 (n / 256) + pc8 (n % 256) : Nat)) ∧ ∃ m, w' = w.drewN m := by
  have e1 : bits .and .u16 (n : Int) 255 = ((n % 256 : Nat) : Int) := by
    rw [show (255 : Int) = ((255 : Nat) : Int) from rfl, u16_and_nat n 255 hn (by omega), nat_mask8]
  have f1 : (n : Int) / 256 < 256 := by omega
  have f2 : 0 ≤ (n : Int) / 256 := by omega
  have f3 : bits .and .u16 (n : Int) 255 < 256 := by rw [e1]; omega
  have f4 : 0 ≤ bits .and .u16 (n : Int) 255 := by rw [e1]; omega
  have E1 := hid e1
  clear e1
  go_enter Try.func28, Try.ntmps28
  go_wp2_with fail
  go_quiet (fail)
  go_wp2
  go_ret
  refine ⟨?_, nq, rfl⟩
  have g1 : n / 256 < pop8.size := by rw [pop8_size]; omega
  have g2 : (bits .and .u16 (n : Int) 255).toNat < pop8.size := by rw [pop8_size, E1.out]; omega
  have hv : (((pop8[n / 256]'g1).toNat : Int) + ((pop8[(bits .and .u16 (n : Int) 255).toNat]'g2).toNat : Int)) % 256 = ((pc8 (n / 256) + pc8 (n % 256) : Nat) : Int) := by
    have q1 := pc8_le (n / 256) (by omega)
    have q2 := pc8_le (n % 256) (by omega)
    rw [pop_at _ g1, pop_at _ g2, E1.out, Int.toNat_natCast]; omega
  exact ret_int hv

set_option maxRecDepth 100000 in
theorem Ones32_any (n : Nat) (hn : n < 4294967296) (w : World) :
    Calls Try.prog 27 #[.int .u32 (n : Int)] w fun e w' => e = .returned (.int .i64 (pc8 (n / 16777216) + pc8 (n / 65536 % 256) + pc8 (n / 256 % 256) + pc8 (n % 256) : Nat)) ∧ ∃ m, w' = w.drewN m := by
  have e1 : bits .and .u32 (n : Int) 255 = ((n % 256 : Nat) : Int) := by
    rw [show (255 : Int) = ((255 : Nat) : Int) from rfl, u32_and_nat n 255 hn (by omega), nat_mask8]
  have e2 : bits .and .u32 ((n : Int) / 256) 255 = ((n / 256 % 256 : Nat) : Int) := by
    rw [show (255 : Int) = ((255 : Nat) : Int) from rfl, show (n : Int) / 256 = ((n / 256 : Nat) : Int) by omega, u32_and_nat _ 255 (by omega) (by omega), nat_mask8]
  have e3 : bits .and .u32 ((n : Int) / 65536) 255 = ((n / 65536 % 256 : Nat) : Int) := by
    rw [show (255 : Int) = ((255 : Nat) : Int) from rfl, show (n : Int) / 65536 = ((n / 65536 : Nat) : Int) by omega, u32_and_nat _ 255 (by omega) (by omega), nat_mask8]
  have f1 : (n : Int) / 16777216 < 256 := by omega
  have f2 : 0 ≤ (n : Int) / 16777216 := by omega
  have f3 : bits .and .u32 (n : Int) 255 < 256 := by rw [e1]; omega
  have f4 : 0 ≤ bits .and .u32 (n : Int) 255 := by rw [e1]; omega
  have f5 : bits .and .u32 ((n : Int) / 256) 255 < 256 := by rw [e2]; omega
  have f6 : 0 ≤ bits .and .u32 ((n : Int) / 256) 255 := by rw [e2]; omega
  have f7 : bits .and .u32 ((n : Int) / 65536) 255 < 256 := by rw [e3]; omega
  have f8 : 0 ≤ bits .and .u32 ((n : Int) / 65536) 255 := by rw [e3]; omega
  have E1 := hid e1
  have E2 := hid e2
  have E3 := hid e3
  clear e1 e2 e3
  go_enter Try.func27, Try.ntmps27
  go_wp2_with fail
  go_quiet (fail)
  go_wp2
  go_ret
  refine ⟨?_, nq, rfl⟩
  have g1 : n / 16777216 < pop8.size := by rw [pop8_size]; omega
  have g2 : (bits .and .u32 ((n : Int) / 65536) 255).toNat < pop8.size := by rw [pop8_size, E3.out]; omega
  have g3 : (bits .and .u32 ((n : Int) / 256) 255).toNat < pop8.size := by rw [pop8_size, E2.out]; omega
  have g4 : (bits .and .u32 (n : Int) 255).toNat < pop8.size := by rw [pop8_size, E1.out]; omega
  have hv : (((pop8[n / 16777216]'g1).toNat : Int) + ((pop8[(bits .and .u32 ((n : Int) / 65536) 255).toNat]'g2).toNat : Int) + ((pop8[(bits .and .u32 ((n : Int) / 256) 255).toNat]'g3).toNat : Int) + ((pop8[(bits .and .u32 (n : Int) 255).toNat]'g4).toNat : Int)) % 256 = ((pc8 (n / 16777216) + pc8 (n / 65536 % 256) + pc8 (n / 256 % 256) + pc8 (n % 256) : Nat) : Int) := by
    have q1 := pc8_le (n / 16777216) (by omega)
    have q2 := pc8_le (n / 65536 % 256) (by omega)
    have q3 := pc8_le (n / 256 % 256) (by omega)
    have q4 := pc8_le (n % 256) (by omega)
    rw [pop_at _ g1, pop_at _ g2, pop_at _ g3, pop_at _ g4, E1.out, E2.out, E3.out, Int.toNat_natCast, Int.toNat_natCast, Int.toNat_natCast]; omega
  exact ret_int hv
end Go.Proofs.Ytefaabigpbndaaa

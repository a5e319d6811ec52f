/-
  The contracts of the tables (package checksum): table at the two closures, reflected and direct.
-/
import Derived.Test.YtieblfpdibpeeaaEdA
namespace Go.Proofs.Ytieblfpdibpeeaa
open Go.RowKit Go.Lib
set_option linter.unusedVariables false
set_option linter.unusedSimpArgs false


theorem Try.info32 : (Try.prog.info? 104).map (fun i => (i.zero, i.size)) = some (some (.agg (Array.replicate 256 (.int .u32 0))), 256) := by kernel_rfl
/-- The cells of a table of which the first i entries are made. -/
def TB (k : IntKind) (f : Nat → Nat) (i : Nat) : Array Value := ((List.range 256).map fun j => if j < i then Value.int k (f j : Nat) else .int k 0).toArray
theorem TB_size (k : IntKind) (f : Nat → Nat) (i : Nat) : (TB k f i).size = 256 := by
  simp only [TB, List.size_toArray, List.length_map, List.length_range]
theorem TB_at (k : IntKind) (f : Nat → Nat) (i j : Nat) (hj : j < 256) : (TB k f i)[j]? = some (if j < i then Value.int k (f j : Nat) else .int k 0) := by
  simp only [TB, List.getElem?_toArray, List.getElem?_map, List.getElem?_range hj, Option.map_some]
theorem TB_zero (k : IntKind) (f : Nat → Nat) : TB k f 0 = Array.replicate 256 (.int k 0) := by
  apply Array.ext_getElem?
  intro j
  by_cases hj : j < 256
  · rw [TB_at k f 0 j hj]; simp [hj]
  · rw [Array.getElem?_eq_none (by rw [TB_size]; omega), Array.getElem?_eq_none (by simp; omega)]
theorem TB_succ (k : IntKind) (f : Nat → Nat) (i : Nat) (hi : i < 256) : (TB k f i).setIfInBounds i (.int k (f i : Nat)) = TB k f (i + 1) := by
  apply Array.ext_getElem?
  intro j
  by_cases hj : j < 256
  · rw [TB_at k f (i + 1) j hj, Array.getElem?_setIfInBounds]
    by_cases e : i = j
    · subst e; rw [if_pos rfl, if_pos (by rw [TB_size]; exact hi), if_pos (by omega)]
    · rw [if_neg e, TB_at k f i j hj]
      by_cases h : j < i
      · rw [if_pos h, if_pos (by omega)]
      · rw [if_neg h, if_neg (by omega)]
  · rw [Array.getElem?_eq_none (by rw [Array.size_setIfInBounds, TB_size]; omega), Array.getElem?_eq_none (by rw [TB_size]; omega)]
theorem TB_one (k : IntKind) (f : Nat → Nat) (i : Nat) : (TB k f i).all (·.oneCell') = true := by
  rw [Array.all_eq_true_iff_forall_mem]
  intro x hx
  simp only [TB, List.mem_toArray, List.mem_map] at hx
  obtain ⟨j, _, rfl⟩ := hx
  split <;> rfl

set_option maxRecDepth 100000 in
theorem table32_any (w : World) : Calls Try.prog 78 #[.func (Fn.func 79) #[] #[]] w fun e w' => e = .returned (.agg (TB .u32 (esN 8) 256)) ∧ Below w.heap.size w w' := by
  obtain ⟨hz, hs⟩ := zero_of_info (P := Try.prog) Try.info32
  go_enter Try.func78, Try.ntmps78
  go_wp2_with fail
  clear hz
  rw [← TB_zero .u32 (esN 8)]
  go_loopw [5] (fun i wr => ∃ k : Nat, k ≤ 256 ∧ i = .int .i64 k ∧ wr = (w.alloc (.cells (TB .u32 (esN 8) 0) 104)).alloc (.cells (TB .u32 (esN 8) k) 104)) (fun i _ => 256 - (intOf i).toNat)
  case atStart => exact ⟨0, by omega, rfl, rfl⟩
  case round =>
    obtain ⟨k, hk, rfl, rfl⟩ := hrel
    by_cases hlt : k < 256
    · have ht : (TB .u32 (esN 8) k)[k]? = some (.int .u32 0) := by rw [TB_at _ _ _ _ hlt, if_neg (by omega)]
      have hm : ((k : Int) : Int) % 256 = (k : Int) := by omega
      go_wp2_with fail
      refine (reflected1_any k hlt _).mono ?_
      rintro e w' ⟨rfl, rfl⟩
      go_wp2_with fail
      go_roundw
      case rel => exact ⟨k + 1, by omega, by go_num, by rw [TB_succ _ _ _ hlt]⟩
      case measure => simp [intOf]; omega
    · have e8 : Hid (k = 256) := (by omega : k = 256)
      go_wp2_with (first | (refine wpList_load_row rfl 104 _ rfl (w.heap.size + 1) rfl 104 _ (0, 0) _ (heap_alloc2_new w _ _) Try.underlying104 rfl (by rw [hs, TB_size]) ?_) | (refine wpList_store_row rfl 104 _ _ rfl w.heap.size 104 _ _ rfl rfl (heap_alloc2_old w _ _) (by rw [hs, TB_size]) (by rw [TB_size, TB_size]) (TB_one _ _ _) ?_))
      refine bodyPost_ret (v := .agg (TB .u32 (esN 8) k)) (results_cell_row rfl _ _ w.heap.size 104 _ (0, 0) _ rfl (setRow_heap _ _ _ _ _ _ (heap_alloc2_old w _ _)) Try.underlying104 rfl (by rw [hs, TB_size])) rfl ⟨by rw [e8.out], ?_⟩
      exact below_setRow (balloc (balloc (Below.refl _ _) _) _) _ _ (Nat.le_refl _)
set_option maxRecDepth 100000 in
theorem reflected_any (w : World) : Calls Try.prog 77 #[] w fun e w' => e = .returned (.agg (TB .u32 (esN 8) 256)) ∧ Below w.heap.size w w' := by
  obtain ⟨hz, hs⟩ := zero_of_info (P := Try.prog) Try.info32
  go_enter Try.func77, Try.ntmps77
  go_wp2_with fail
  clear hz
  refine (table32_any _).mono ?_
  rintro e w1 ⟨rfl, hb⟩
  have hh := block_below hb (heap_alloc_new w _)
  have hl : w.heap.size < w1.heap.size := (Array.getElem?_eq_some_iff.1 hh).1
  go_wp2_with (refine wpList_store_row rfl 104 _ _ rfl w.heap.size 104 _ _ rfl rfl hh (by rw [hs, TB_size]) (by rw [TB_size, Array.size_replicate]) (TB_one _ _ _) ?_)
  refine bodyPost_ret (v := .agg (TB .u32 (esN 8) 256)) (results_cell_row rfl _ _ w.heap.size 104 _ (0, 0) _ rfl (setRow_heap _ _ _ _ _ _ hh) Try.underlying104 rfl (by rw [hs, TB_size])) rfl ⟨rfl, ?_⟩
  exact below_setRow ((balloc (Below.refl _ _) _).trans (hb.mono (by simp))) _ _ (Nat.le_refl _)

end Go.Proofs.Ytieblfpdibpeeaa

/-
  Record where it returns an error.
-/
import Derived.Test.YtpcfjlfdjkifgaaPrF
namespace Go.Proofs.Ytpcfjlfdjkifgaa
open Go.RowKit Go.Lib
set_option linter.unusedVariables false
set_option linter.unusedSimpArgs false

theorem Record_size (s : Int) (hs : szB s = false) (st : Int) (v : Value) (w : World) :
    Calls Try.prog 21 #[.int .i64 s, .int .i64 st, v] w fun e w' => e = .returned (.tuple #[.slice none 0 0, .int .i64 1]) ∧ Below w.heap.size w w' := by
  have HS : Hid (∀ w : World, Calls Try.prog 34 #[.int .i64 s] w fun e w' => e = .returned (.bool false) ∧ w = w') := fun w => by
    have := sized_any s w
    rwa [hs] at this
  clear hs
  go_enter Try.func21, Try.ntmps21
  go_wp2_with fail
  refine (HS.out _).mono ?_
  rintro e w1 ⟨rfl, rfl⟩
  go_wp2_with fail
  go_ret2
  exact ⟨rfl, balloc (Below.refl _ _) _⟩

set_option maxRecDepth 20000 in
set_option maxHeartbeats 1000000 in
theorem Record_bad (s : Nat) (hs : 1 ≤ s ∧ s ≤ 1024) (st : Int) (v : Value) (bs : List ByteArray) (hl : okL bs = false) (hn : bs.length ≤ 4096) (w : World) (hv : SR w v bs) :
    Calls Try.prog 21 #[.int .i64 (s : Int), .int .i64 st, v] w fun e w' => e = .returned (.tuple #[.slice none 0 0, .int .i64 1]) ∧ Below w.heap.size w w' := by
  have HS : Hid (∀ w : World, Calls Try.prog 34 #[.int .i64 (s : Int)] w fun e w' => e = .returned (.bool true) ∧ w = w') := fun w => by
    have := sized_any (s : Int) w
    rwa [show szB (s : Int) = true from decide_eq_true (by omega)] at this
  obtain ⟨i, b, h1, h2, h3⟩ := okL_no hl
  have hi : i < bs.length := by
    by_cases q : i < bs.length
    · exact q
    · rw [List.getElem?_eq_none (by omega)] at h1; simp at h1
  obtain ⟨g, o, cap, rfl, hc1, hc2, hc3⟩ := hv.form (by omega)
  have hgl : g < w.heap.size := World.block_lt_of_cell? w _ (hc3 i b h1)
  have H3 := hid h3
  have HC := hid hc3
  have H1 := hid h1
  clear hl hc3 h3 h1 hv
  generalize hN : bs.length = n at *
  go_enter Try.func21, Try.ntmps21
  go_wp2_with fail
  refine (HS.out _).mono ?_
  rintro e w1 ⟨rfl, rfl⟩
  go_wp2_with fail
  go_loop [25] (fun c => ∃ k : Nat, k ≤ i ∧ c = .int .i64 k) (fun c => n - (RowKit.intOf c).toNat)
  case atStart => exact ⟨0, by omega, rfl⟩
  case round =>
    obtain ⟨k, hk, rfl⟩ := hrel
    have d1 : decide ((k : Int) < (n : Int)) = true := decide_eq_true (by omega)
    have l1 : (k : Int) < (n : Int) := by omega
    by_cases e : k = i
    · subst e
      have hcell : w.cell? ⟨g, o + k, none⟩ = some (.string b) := HC.out k b H1.out
      have d2 : ((b.size : Int) != 2048) = true := by rw [bne_iff_ne]; omega
      go_wp2_with fail
      go_ret2
      exact ⟨rfl, balloc (Below.refl _ _) _⟩
    · obtain ⟨c, hc⟩ : ∃ c, bs[k]? = some c := ⟨bs[k]'(by omega), List.getElem?_eq_getElem (by omega)⟩
      have hcell : w.cell? ⟨g, o + k, none⟩ = some (.string c) := HC.out k c hc
      have d2 : ((c.size : Int) != 2048) = false := by rw [H3.out k c (by omega) hc]; rfl
      clear hc
      go_wp2_with fail
      go_round
      case rel => exact ⟨k + 1, by omega, by go_num⟩
      case measure => simp [RowKit.intOf]; omega

set_option maxRecDepth 20000 in
set_option maxHeartbeats 1000000 in
theorem Record_range (s : Nat) (hs : 1 ≤ s ∧ s ≤ 40) (st : Int) (v : Value) (bs : List ByteArray) (hl : okL bs = true) (hn : bs.length ≤ 20) (hst : st < 0 ∨ 449849 < st ∨ 449849 < st + ((npk s bs.length * (s + 7) : Nat) : Int) - 1) (w : World) (hv : SR w v bs) :
    Calls Try.prog 21 #[.int .i64 (s : Int), .int .i64 st, v] w fun e w' => e = .returned (.tuple #[.slice none 0 0, .int .i64 2]) ∧ Below w.heap.size w w' := by
  have HS : Hid (∀ w : World, Calls Try.prog 34 #[.int .i64 (s : Int)] w fun e w' => e = .returned (.bool true) ∧ w = w') := fun w => by
    have := sized_any (s : Int) w
    rwa [show szB (s : Int) = true from decide_eq_true (by omega)] at this
  have HO := hid (okL_get hl)
  have HV := hid hv
  have hnp : npk s bs.length ≤ 20 := Nat.le_trans (npk_le s _ hs.1) hn
  have hT : npk s bs.length * (s + 7) ≤ 940 := by have := Nat.mul_le_mul hnp (show s + 7 ≤ 47 by omega); omega
  obtain ⟨p, cap, rfl⟩ := hv.len
  clear hl hv
  generalize hN : bs.length = n at *
  have q3 : ((n : Int) + (s : Int) - 1) / (s : Int) = ((npk s n : Nat) : Int) := by unfold npk; rw [Int.natCast_ediv, show ((n + s - 1 : Nat) : Int) = (n : Int) + (s : Int) - 1 by omega]
  have q5 : IntKind.i64.wrap (((n : Int) + (s : Int) - 1) / (s : Int) * ((s : Int) + 7)) = ((npk s n * (s + 7) : Nat) : Int) := by
    rw [q3, show (s : Int) + 7 = ((s + 7 : Nat) : Int) by omega, ← Int.natCast_mul]; exact IntWalk.i64_in _ (by omega)
  clear q3
  go_enter Try.func21, Try.ntmps21
  go_wp2_with fail
  refine (HS.out _).mono ?_
  rintro e w1 ⟨rfl, rfl⟩
  go_wp2_with fail
  go_loop [25] (fun c => ∃ k : Nat, k ≤ n ∧ c = .int .i64 k) (fun c => n - (RowKit.intOf c).toNat)
  case atStart => exact ⟨0, by omega, rfl⟩
  case round =>
    obtain ⟨k, hk, rfl⟩ := hrel
    by_cases hlt : k < n
    · have d1 : decide ((k : Int) < (n : Int)) = true := decide_eq_true (by omega)
      have l1 : (k : Int) < (n : Int) := by omega
      obtain ⟨g, o, cap2, he, hc1, hc2, hc3⟩ := HV.out.form (by omega)
      obtain ⟨c, hc⟩ : ∃ c, bs[k]? = some c := ⟨bs[k]'(by omega), List.getElem?_eq_getElem (by omega)⟩
      injection he with he1 he2 he3
      subst he1 he3
      have hgl := World.block_lt_of_cell? w _ (hc3 k c hc)
      have hgl2 : g < w.heap.size := hgl
      have hcell := alloc_cell (o := .cells #[.int .i64 st] 3) (hc3 k c hc)
      have hcell0 := hc3 k c hc
      have d2 : ((c.size : Int) != 2048) = false := by rw [HO.out k c hc]; rfl
      clear hc hc3 he2
      go_wp2_with fail
      go_round
      case rel => exact ⟨k + 1, by omega, by go_num⟩
      case measure => simp [RowKit.intOf]; omega
    · have d1 : decide ((k : Int) < (n : Int)) = false := decide_eq_false (by omega)
      generalize hTT : npk s n * (s + 7) = T at *
      by_cases c1 : st < 0
      · have e1 : decide (st < 0) = true := decide_eq_true c1
        go_wp2_with fail
        go_ret2
        exact ⟨rfl, balloc (Below.refl _ _) _⟩
      · have e1 : decide (st < 0) = false := decide_eq_false c1
        by_cases c2 : 449849 < st
        · have e2 : decide (449849 < st) = true := decide_eq_true c2
          go_wp2_with fail
          go_ret2
          exact ⟨rfl, balloc (Below.refl _ _) _⟩
        · have e2 : decide (449849 < st) = false := decide_eq_false c2
          have e5 : IntKind.i64.wrap (st + (T : Int)) = st + (T : Int) := IntWalk.i64_in _ (by omega)
          have e6 : IntKind.i64.wrap (st + (T : Int) - 1) = st + (T : Int) - 1 := IntWalk.i64_in _ (by omega)
          have e3 : decide (449849 < st + (T : Int) - 1) = true := decide_eq_true (by omega)
          go_wp2_with fail
          go_ret2
          exact ⟨rfl, balloc (Below.refl _ _) _⟩
end Go.Proofs.Ytpcfjlfdjkifgaa

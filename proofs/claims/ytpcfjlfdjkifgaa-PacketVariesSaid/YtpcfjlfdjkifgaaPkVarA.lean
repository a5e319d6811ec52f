/-
  The contract of package packet's Variable: the place that the plain functions say; of what was in memory nothing changes.
-/
import Derived.Test.YtpcfjlfdjkifgaaPkVarP
namespace Go.Proofs.Ytpcfjlfdjkifgaa
open Go.RowKit Go.Lib
set_option linter.unusedVariables false
set_option linter.unusedSimpArgs false

theorem ret_tup {a b c e a' b' c' e' : Int} (h : (a, b, c, e) = (a', b', c', e')) : Ending.returned (.tuple #[.agg #[.int .i64 a, .int .i64 b, .int .i64 c], .int .i64 e]) = .returned (.tuple #[.agg #[.int .i64 a', .int .i64 b', .int .i64 c'], .int .i64 e']) := by
  simp only [Prod.mk.injEq] at h
  obtain ⟨rfl, rfl, rfl, rfl⟩ := h
  rfl

/-- No sizes, or too many. -/
theorem Variable_count (A : Option Addr) (n c : Nat) (xs : List Int) (t : Int) (w : World) (hr : RI w A n xs) (h : n = 0 ∨ 1024 < n) (hm : n ≤ 9223372036854775807) :
    Calls Try.prog 17 #[.slice A n c, .int .i64 t] w fun e w' => e = .returned (.tuple #[.agg #[.int .i64 0, .int .i64 0, .int .i64 0], .int .i64 1]) ∧ Below w.heap.size w w' := by
  rcases h with h | h
  · subst h
    go_enter Try.func17, Try.ntmps17
    go_wp2_with fail
    exact bodyPost_ret (v := .tuple #[.agg #[.int .i64 0, .int .i64 0, .int .i64 0], .int .i64 1]) (by simp [results, Try.results17, go_sem]) rfl ⟨rfl, (Below.refl _ _).alloc (Nat.le_refl _) _⟩
  · have d0 : ((n : Int) == 0) = false := by rw [beq_eq_false_iff_ne]; omega
    have d1 : decide (1024 < (n : Int)) = true := decide_eq_true (by omega)
    go_enter Try.func17, Try.ntmps17
    go_wp2_with fail
    exact bodyPost_ret (v := .tuple #[.agg #[.int .i64 0, .int .i64 0, .int .i64 0], .int .i64 1]) (by simp [results, Try.results17, go_sem]) rfl ⟨rfl, (Below.refl _ _).alloc (Nat.le_refl _) _⟩

/-- A size that is none. -/
theorem Variable_size (A : Option Addr) (n c : Nat) (xs : List Int) (t : Int) (w : World) (hr : RI w A n xs) (h1 : 0 < n) (h2 : n ≤ 1024) (m : Nat) (hm : m < n) (hbad : szB (xs.getD m 0) = false) (hok : ∀ j, j < m → szB (xs.getD j 0) = true) :
    Calls Try.prog 17 #[.slice A n c, .int .i64 t] w fun e w' => e = .returned (.tuple #[.agg #[.int .i64 0, .int .i64 0, .int .i64 0], .int .i64 1]) ∧ Below w.heap.size w w' := by
  obtain ⟨b, off, rfl, hb, hc⟩ := hr.at_ h1
  have HC := hid hc
  have HK := hid hok
  have HB := hid hbad
  clear hc hok hbad hr
  have d0 : ((n : Int) == 0) = false := by rw [beq_eq_false_iff_ne]; omega
  have d1 : decide (1024 < (n : Int)) = false := decide_eq_false (by omega)
  go_enter Try.func17, Try.ntmps17
  go_wp2_with fail
  clear d0 d1
  go_loop [21] (fun i => ∃ k : Nat, k ≤ m ∧ i = .int .i64 k) (fun i => n - (intOf i).toNat)
  case atStart => exact ⟨0, by omega, rfl⟩
  case round =>
    obtain ⟨k, hk, rfl⟩ := hrel
    have hcell : w.cell? ⟨b, off + k, none⟩ = some (.int .i64 (xs.getD k 0)) := HC.out k (by omega)
    have d2 : decide ((k : Int) < (n : Int)) = true := decide_eq_true (by omega)
    by_cases e : k = m
    · have hs : szB (xs.getD k 0) = false := by rw [e]; exact HB.out
      clear e
      generalize xs.getD k 0 = x at *
      go_wp2_with fail
      refine (sized_any _ _).mono ?_
      rintro e w' ⟨rfl, rfl⟩
      go_wp2_with fail
      exact bodyPost_ret (v := .tuple #[.agg #[.int .i64 0, .int .i64 0, .int .i64 0], .int .i64 1]) (by simp [results, Try.results17, go_sem]) rfl ⟨rfl, (Below.refl _ _).alloc (Nat.le_refl _) _⟩
    · have hs : szB (xs.getD k 0) = true := HK.out k (by omega)
      generalize xs.getD k 0 = x at *
      go_wp2_with fail
      refine (sized_any _ _).mono ?_
      rintro e w' ⟨rfl, rfl⟩
      go_wp2_with fail
      go_round
      case rel => exact ⟨k + 1, by omega, by go_num⟩
      case measure => simp [intOf]; omega

/-- Sizes that are all right, and a sector that is not negative. -/
theorem Variable_go (A : Option Addr) (n c : Nat) (xs : List Int) (t : Int) (w : World) (hr : RI w A n xs) (h1 : 0 < n) (h2 : n ≤ 1024) (hall : allS xs = true) (t0 : 0 ≤ t) (t1 : t ≤ 9223372036854775807) :
    Calls Try.prog 17 #[.slice A n c, .int .i64 t] w fun e w' => e = .returned (.tuple #[.agg #[.int .i64 (vGo xs t 0).1, .int .i64 (vGo xs t 0).2.1, .int .i64 (vGo xs t 0).2.2.1], .int .i64 (vGo xs t 0).2.2.2]) ∧ Below w.heap.size w w' := by
  obtain ⟨R, hR⟩ : ∃ R, R = vGo xs t 0 := ⟨_, rfl⟩
  rw [← hR]
  have HR := hid hR
  clear hR
  obtain ⟨b, off, rfl, hb, hc⟩ := hr.at_ h1
  have HC := hid hc
  have HK : Hid (∀ j, j < n → szB (xs.getD j 0) = true) := fun j hj => allS_at hall j (by rw [hr.len]; exact hj)
  have HL := hid hr.len
  clear hc hr hall
  have d0 : ((n : Int) == 0) = false := by rw [beq_eq_false_iff_ne]; omega
  have d1 : decide (1024 < (n : Int)) = false := decide_eq_false (by omega)
  go_enter Try.func17, Try.ntmps17
  go_wp2_with fail
  clear d0 d1
  go_loop [21] (fun i => ∃ k : Nat, k ≤ n ∧ i = .int .i64 k) (fun i => n - (intOf i).toNat)
  case atStart => exact ⟨0, by omega, rfl⟩
  case round =>
    obtain ⟨k, hk, rfl⟩ := hrel
    by_cases hlt : k < n
    · have hcell : w.cell? ⟨b, off + k, none⟩ = some (.int .i64 (xs.getD k 0)) := HC.out k (by omega)
      have hs : szB (xs.getD k 0) = true := HK.out k (by omega)
      have d2 : decide ((k : Int) < (n : Int)) = true := decide_eq_true (by omega)
      generalize xs.getD k 0 = x at *
      go_wp2_with fail
      refine (sized_any _ _).mono ?_
      rintro e w' ⟨rfl, rfl⟩
      go_wp2_with fail
      go_round
      case rel => exact ⟨k + 1, by omega, by go_num⟩
      case measure => simp [intOf]; omega
    · have d2 : decide ((k : Int) < (n : Int)) = false := decide_eq_false (by omega)
      go_wp2_with fail
      clear d2
      have hz : w.heap.size < (w.alloc (Obj.cells #[Value.int IntKind.i64 0, Value.int IntKind.i64 0, Value.int IntKind.i64 0] 27)).heap.size := by simp
      go_loop [1, 32] (fun v i => ∃ (k : Nat) (s : Int), k ≤ n ∧ i = .int .i64 k ∧ v = .int .i64 s ∧ 0 ≤ s ∧ s ≤ 9223372036854775807 ∧ Hid (vGo (xs.drop k) s k = R)) (fun _ i => n - (intOf i).toNat)
      case atStart => exact ⟨0, t, by omega, rfl, rfl, t0, t1, HR.out.symm⟩
      case round =>
        obtain ⟨k, s, hk, rfl, rfl, s0, s1, HV⟩ := hrel
        by_cases hlt : k < n
        · have hcell : w.cell? ⟨b, off + k, none⟩ = some (.int .i64 (xs.getD k 0)) := HC.out k (by omega)
          have hs := szB_true (HK.out k (by omega))
          have HD := hid (vGo_drop xs k (by rw [HL.out]; exact hlt) s)
          have d2 : decide ((k : Int) < (n : Int)) = true := decide_eq_true (by omega)
          have d3 : decide (0 ≤ s) = true := decide_eq_true s0
          generalize xs.getD k 0 = x at *
          by_cases hin : s < x + 7
          · have HE : Hid (R = ((k : Int), (plP x s).1, (plP x s).2, 0)) := by unfold Hid; rw [← HV.out, HD.out, if_pos hin]
            go_wp2_with fail
            refine (place_any (k : Int) x s _ hs.1 hs.2 s0 hin).mono ?_
            rintro e w1 ⟨rfl, hb1⟩
            obtain ⟨hz1, k0, k1, k2⟩ := keep3 hb1
            obtain ⟨hc1, hf1⟩ := bcell hb1
            have hbb : Below w.heap.size w w1 := ((Below.refl _ _).alloc (Nat.le_refl _) _).trans (hb1.mono (by simp))
            go_wp2_with fail
            refine bodyPost_ret (v := .tuple #[.agg #[.int .i64 k, .int .i64 (plP x s).1, .int .i64 (plP x s).2], .int .i64 0]) (by simp [results, Try.results17, go_sem, k0, k1, k2]) rfl ⟨by rw [HE.out], ?_⟩
            exact ((hbb.setCell (Nat.le_refl _) _).setCell (Nat.le_refl _) _).setCell (Nat.le_refl _) _
          · have HE : Hid (vGo (xs.drop (k + 1)) (s - (x + 7)) ((k + 1 : Nat) : Int) = R) := by unfold Hid; rw [← HV.out, HD.out, if_neg hin]
            clear HV HD
            have d4 : decide (s - (x + 7) < 0) = false := decide_eq_false (by omega)
            go_wp2_with fail
            go_round
            case rel => exact ⟨k + 1, s - (x + 7), by omega, by go_num, rfl, by omega, by omega, HE⟩
            case measure => simp [intOf]; omega
        · have HE : Hid (R = (0, 0, 0, 2)) := by unfold Hid; rw [← HV.out]; exact vGo_end xs k (by rw [HL.out]; omega) s k
          have d2 : decide ((k : Int) < (n : Int)) = false := decide_eq_false (by omega)
          go_wp2_with fail
          exact bodyPost_ret (v := .tuple #[.agg #[.int .i64 0, .int .i64 0, .int .i64 0], .int .i64 2]) (by simp [results, Try.results17, go_sem]) rfl ⟨by rw [HE.out], (Below.refl _ _).alloc (Nat.le_refl _) _⟩

theorem wrap_neg {t x : Int} (h0 : -9223372036854775808 ≤ t) (h1 : t < 0) (h2 : 8 ≤ x) (h3 : x ≤ 1031) : wrap64 (t - x) < 0 ∨ (2000000000 - 1031 ≤ wrap64 (t - x) ∧ wrap64 (t - x) ≤ 9223372036854775807) := by
  unfold wrap64; omega

/-- Sizes that are all right, and a negative sector. -/
theorem Variable_neg (A : Option Addr) (n c : Nat) (xs : List Int) (t : Int) (w : World) (hr : RI w A n xs) (h1 : 0 < n) (h2 : n ≤ 1024) (hall : allS xs = true) (t0 : t < 0) (t1 : -9223372036854775808 ≤ t) :
    Calls Try.prog 17 #[.slice A n c, .int .i64 t] w fun e w' => e = .returned (.tuple #[.agg #[.int .i64 0, .int .i64 0, .int .i64 0], .int .i64 2]) ∧ Below w.heap.size w w' := by
  have HT := hid t1
  clear t1
  obtain ⟨b, off, rfl, hb, hc⟩ := hr.at_ h1
  have HC := hid hc
  have HK : Hid (∀ j, j < n → szB (xs.getD j 0) = true) := fun j hj => allS_at hall j (by rw [hr.len]; exact hj)
  have HL := hid hr.len
  clear hc hr hall
  have d0 : ((n : Int) == 0) = false := by rw [beq_eq_false_iff_ne]; omega
  have d1 : decide (1024 < (n : Int)) = false := decide_eq_false (by omega)
  go_enter Try.func17, Try.ntmps17
  go_wp2_with fail
  clear d0 d1
  go_loop [21] (fun i => ∃ k : Nat, k ≤ n ∧ i = .int .i64 k) (fun i => n - (intOf i).toNat)
  case atStart => exact ⟨0, by omega, rfl⟩
  case round =>
    obtain ⟨k, hk, rfl⟩ := hrel
    by_cases hlt : k < n
    · have hcell : w.cell? ⟨b, off + k, none⟩ = some (.int .i64 (xs.getD k 0)) := HC.out k (by omega)
      have hs : szB (xs.getD k 0) = true := HK.out k (by omega)
      have d2 : decide ((k : Int) < (n : Int)) = true := decide_eq_true (by omega)
      generalize xs.getD k 0 = x at *
      go_wp2_with fail
      refine (sized_any _ _).mono ?_
      rintro e w' ⟨rfl, rfl⟩
      go_wp2_with fail
      go_round
      case rel => exact ⟨k + 1, by omega, by go_num⟩
      case measure => simp [intOf]; omega
    · have d2 : decide ((k : Int) < (n : Int)) = false := decide_eq_false (by omega)
      go_wp2_with fail
      clear d2
      go_loop [1, 32] (fun v i => ∃ (k : Nat) (s : Int), k ≤ n ∧ i = .int .i64 k ∧ v = .int .i64 s ∧ ((k = 0 ∧ s = t) ∨ (1 ≤ k ∧ 2000000000 - 1031 * (k : Int) ≤ s ∧ s ≤ 9223372036854775807))) (fun _ i => n - (intOf i).toNat)
      case atStart => exact ⟨0, t, by omega, rfl, rfl, .inl ⟨rfl, rfl⟩⟩
      case round =>
        obtain ⟨k, s, hk, rfl, rfl, hor⟩ := hrel
        by_cases hlt : k < n
        · have hcell : w.cell? ⟨b, off + k, none⟩ = some (.int .i64 (xs.getD k 0)) := HC.out k (by omega)
          have hs := szB_true (HK.out k (by omega))
          have d2 : decide ((k : Int) < (n : Int)) = true := decide_eq_true (by omega)
          generalize xs.getD k 0 = x at *
          by_cases hneg : s < 0
          · have ek : Hid (k = 0) := by unfold Hid; omega
            have d3 : decide (0 ≤ s) = false := decide_eq_false (by omega)
            have hw := wrap_neg (t := s) (x := x + 7) (by have := HT.out; omega) hneg (by omega) (by omega)
            clear hor
            rcases hw with hw | hw
            · have d4 : decide (wrap64 (s - (x + 7)) < 0) = true := decide_eq_true hw
              go_wp2_with fail
              exact bodyPost_ret (v := .tuple #[.agg #[.int .i64 0, .int .i64 0, .int .i64 0], .int .i64 2]) (by simp [results, Try.results17, go_sem]) rfl ⟨rfl, (Below.refl _ _).alloc (Nat.le_refl _) _⟩
            · have d4 : decide (wrap64 (s - (x + 7)) < 0) = false := decide_eq_false (by omega)
              go_wp2_with fail
              go_round
              case rel => exact ⟨k + 1, wrap64 (s - (x + 7)), by omega, by go_num, rfl, .inr ⟨by omega, by have := ek.out; omega, hw.2⟩⟩
              case measure => simp [intOf]; omega
          · have hb : 1 ≤ k ∧ 2000000000 - 1031 * (k : Int) ≤ s ∧ s ≤ 9223372036854775807 := by omega
            obtain ⟨c1, c2, c3⟩ := hb
            clear hor
            have d3 : decide (0 ≤ s) = true := decide_eq_true (by omega)
            have d5 : decide (s < x + 7) = false := decide_eq_false (by omega)
            have d4 : decide (s - (x + 7) < 0) = false := decide_eq_false (by omega)
            go_wp2_with fail
            go_round
            case rel => exact ⟨k + 1, s - (x + 7), by omega, by go_num, rfl, .inr ⟨by omega, by omega, by omega⟩⟩
            case measure => simp [intOf]; omega
        · have d2 : decide ((k : Int) < (n : Int)) = false := decide_eq_false (by omega)
          clear hor
          go_wp2_with fail
          exact bodyPost_ret (v := .tuple #[.agg #[.int .i64 0, .int .i64 0, .int .i64 0], .int .i64 2]) (by simp [results, Try.results17, go_sem]) rfl ⟨rfl, (Below.refl _ _).alloc (Nat.le_refl _) _⟩

theorem Variable_any (A : Option Addr) (n c : Nat) (xs : List Int) (t : Int) (w : World) (hr : RI w A n xs) (hm : n ≤ 9223372036854775807) (t0 : -9223372036854775808 ≤ t) (t1 : t ≤ 9223372036854775807) :
    Calls Try.prog 17 #[.slice A n c, .int .i64 t] w fun e w' => e = .returned (.tuple #[.agg #[.int .i64 (varP xs t).1, .int .i64 (varP xs t).2.1, .int .i64 (varP xs t).2.2.1], .int .i64 (varP xs t).2.2.2]) ∧ Below w.heap.size w w' := by
  by_cases hc : n = 0 ∨ 1024 < n
  · rw [varP_bad xs t (by rw [hr.len]; omega)]
    exact Variable_count A n c xs t w hr hc hm
  · by_cases ha : allS xs = true
    · by_cases ht : t < 0
      · rw [varP_neg xs t (by rw [hr.len]; omega) (by rw [hr.len]; omega) ha ht]
        exact Variable_neg A n c xs t w hr (by omega) (by omega) ha ht t0
      · rw [varP_go xs t (by rw [hr.len]; omega) (by rw [hr.len]; omega) ha (by omega)]
        exact Variable_go A n c xs t w hr (by omega) (by omega) ha (by omega) t1
    · have ha' : allS xs = false := by simpa using ha
      rw [varP_bad xs t (.inr (.inr ha'))]
      obtain ⟨m, hm1, hbad, hok⟩ := allS_first ha'
      exact Variable_size A n c xs t w hr (by omega) (by omega) m (by rw [← hr.len]; exact hm1) hbad hok
end Go.Proofs.Ytpcfjlfdjkifgaa

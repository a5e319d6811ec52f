/-
  The contract of the reference's Variable (package masterdiscref11): the same plain functions as package packet's.
-/
import Derived.Test.YtpcfjlfdjkifgaaPkVarA
import Derived.Test.YtpcfjlfdjkifgaaPkD
namespace Go.Proofs.Ytpcfjlfdjkifgaa
open Go.RowKit Go.Lib
set_option linter.unusedVariables false
set_option linter.unusedSimpArgs false

theorem refVariable_count (A : Option Addr) (n c : Nat) (xs : List Int) (t : Int) (w : World) (hr : RI w A n xs) (h : n = 0 ∨ 1024 < n) (hm : n ≤ 9223372036854775807) :
    Calls Try.prog 18 #[.slice A n c, .int .i64 t] w fun e w' => e = .returned (.tuple #[.agg #[.int .i64 0, .int .i64 0, .int .i64 0], .int .i64 1]) ∧ Below w.heap.size w w' := by
  rcases h with h | h
  · subst h
    go_enter Try.func18, Try.ntmps18
    go_wp2_with fail
    exact bodyPost_ret (v := .tuple #[.agg #[.int .i64 0, .int .i64 0, .int .i64 0], .int .i64 1]) (by simp [results, Try.results18, go_sem]) rfl ⟨rfl, (Below.refl _ _).alloc (Nat.le_refl _) _⟩
  · have d0 : ((n : Int) == 0) = false := by rw [beq_eq_false_iff_ne]; omega
    have d1 : decide (1024 < (n : Int)) = true := decide_eq_true (by omega)
    go_enter Try.func18, Try.ntmps18
    go_wp2_with fail
    exact bodyPost_ret (v := .tuple #[.agg #[.int .i64 0, .int .i64 0, .int .i64 0], .int .i64 1]) (by simp [results, Try.results18, go_sem]) rfl ⟨rfl, (Below.refl _ _).alloc (Nat.le_refl _) _⟩

theorem refVariable_size (A : Option Addr) (n c : Nat) (xs : List Int) (t : Int) (w : World) (hr : RI w A n xs) (h1 : 0 < n) (h2 : n ≤ 1024) (m : Nat) (hm : m < n) (hbad : szB (xs.getD m 0) = false) (hok : ∀ j, j < m → szB (xs.getD j 0) = true) :
    Calls Try.prog 18 #[.slice A n c, .int .i64 t] w fun e w' => e = .returned (.tuple #[.agg #[.int .i64 0, .int .i64 0, .int .i64 0], .int .i64 1]) ∧ Below w.heap.size w w' := by
  obtain ⟨b, off, rfl, hb, hc⟩ := hr.at_ h1
  have HC := hid hc
  have HK := hid hok
  have HB := hid hbad
  clear hc hok hbad hr
  have d0 : ((n : Int) == 0) = false := by rw [beq_eq_false_iff_ne]; omega
  have d1 : decide (1024 < (n : Int)) = false := decide_eq_false (by omega)
  go_enter Try.func18, Try.ntmps18
  go_wp2_with fail
  clear d0 d1
  go_loop [6] (fun i => ∃ k : Nat, k ≤ m ∧ i = .int .i64 k) (fun i => n - (intOf i).toNat)
  case atStart => exact ⟨0, by omega, rfl⟩
  case round =>
    obtain ⟨k, hk, rfl⟩ := hrel
    have hcell : w.cell? ⟨b, off + k, none⟩ = some (.int .i64 (xs.getD k 0)) := HC.out k (by omega)
    have d2 : decide ((k : Int) < (n : Int)) = true := decide_eq_true (by omega)
    by_cases e : k = m
    · have hs : szB (xs.getD k 0) = false := by rw [e]; exact HB.out
      clear e
      generalize xs.getD k 0 = x at *
      go_wp2_with fail
      refine (refSized_any _ _).mono ?_
      rintro e w' ⟨rfl, rfl⟩
      go_wp2_with fail
      exact bodyPost_ret (v := .tuple #[.agg #[.int .i64 0, .int .i64 0, .int .i64 0], .int .i64 1]) (by simp [results, Try.results18, go_sem]) rfl ⟨rfl, (Below.refl _ _).alloc (Nat.le_refl _) _⟩
    · have hs : szB (xs.getD k 0) = true := HK.out k (by omega)
      generalize xs.getD k 0 = x at *
      go_wp2_with fail
      refine (refSized_any _ _).mono ?_
      rintro e w' ⟨rfl, rfl⟩
      go_wp2_with fail
      go_round
      case rel => exact ⟨k + 1, by omega, by go_num⟩
      case measure => simp [intOf]; omega

theorem refVariable_neg (A : Option Addr) (n c : Nat) (xs : List Int) (t : Int) (w : World) (hr : RI w A n xs) (h1 : 0 < n) (h2 : n ≤ 1024) (hall : allS xs = true) (t0 : t < 0) :
    Calls Try.prog 18 #[.slice A n c, .int .i64 t] w fun e w' => e = .returned (.tuple #[.agg #[.int .i64 0, .int .i64 0, .int .i64 0], .int .i64 2]) ∧ Below w.heap.size w w' := by
  obtain ⟨b, off, rfl, hb, hc⟩ := hr.at_ h1
  have HC := hid hc
  have HK : Hid (∀ j, j < n → szB (xs.getD j 0) = true) := fun j hj => allS_at hall j (by rw [hr.len]; exact hj)
  have HL := hid hr.len
  clear hc hr hall
  have d0 : ((n : Int) == 0) = false := by rw [beq_eq_false_iff_ne]; omega
  have d1 : decide (1024 < (n : Int)) = false := decide_eq_false (by omega)
  go_enter Try.func18, Try.ntmps18
  go_wp2_with fail
  clear d0 d1
  go_loop [6] (fun i => ∃ k : Nat, k ≤ n ∧ i = .int .i64 k) (fun i => n - (intOf i).toNat)
  case atStart => exact ⟨0, by omega, rfl⟩
  case round =>
    obtain ⟨k, hk, rfl⟩ := hrel
    by_cases hlt : k < n
    · have hcell : w.cell? ⟨b, off + k, none⟩ = some (.int .i64 (xs.getD k 0)) := HC.out k (by omega)
      have hs : szB (xs.getD k 0) = true := HK.out k (by omega)
      have d2 : decide ((k : Int) < (n : Int)) = true := decide_eq_true (by omega)
      generalize xs.getD k 0 = x at *
      go_wp2_with fail
      refine (refSized_any _ _).mono ?_
      rintro e w' ⟨rfl, rfl⟩
      go_wp2_with fail
      go_round
      case rel => exact ⟨k + 1, by omega, by go_num⟩
      case measure => simp [intOf]; omega
    · have d2 : decide ((k : Int) < (n : Int)) = false := decide_eq_false (by omega)
      have d3 : decide (t < 0) = true := decide_eq_true t0
      go_wp2_with fail
      exact bodyPost_ret (v := .tuple #[.agg #[.int .i64 0, .int .i64 0, .int .i64 0], .int .i64 2]) (by simp [results, Try.results18, go_sem]) rfl ⟨rfl, (Below.refl _ _).alloc (Nat.le_refl _) _⟩

theorem refVariable_go (A : Option Addr) (n c : Nat) (xs : List Int) (t : Int) (w : World) (hr : RI w A n xs) (h1 : 0 < n) (h2 : n ≤ 1024) (hall : allS xs = true) (t0 : 0 ≤ t) (t1 : t ≤ 9223372036854775807) :
    Calls Try.prog 18 #[.slice A n c, .int .i64 t] w fun e w' => e = .returned (.tuple #[.agg #[.int .i64 (vGo xs t 0).1, .int .i64 (vGo xs t 0).2.1, .int .i64 (vGo xs t 0).2.2.1], .int .i64 (vGo xs t 0).2.2.2]) ∧ Below w.heap.size w w' := by
  obtain ⟨R, hR⟩ : ∃ R, R = vGo xs t 0 := ⟨_, rfl⟩
  rw [← hR]
  have HR := hid hR
  clear hR
  obtain ⟨b, off, rfl, hb, hc⟩ := hr.at_ h1
  have HC := hid hc
  have HK : Hid (∀ j, j < n → szB (xs.getD j 0) = true) := fun j hj => allS_at hall j (by rw [hr.len]; exact hj)
  have HL := hid hr.len
  clear hc hr hall
  have d0 : ((n : Int) == 0) = false := by rw [beq_eq_false_iff_ne]; omega
  have d1 : decide (1024 < (n : Int)) = false := decide_eq_false (by omega)
  go_enter Try.func18, Try.ntmps18
  go_wp2_with fail
  clear d0 d1
  go_loop [6] (fun i => ∃ k : Nat, k ≤ n ∧ i = .int .i64 k) (fun i => n - (intOf i).toNat)
  case atStart => exact ⟨0, by omega, rfl⟩
  case round =>
    obtain ⟨k, hk, rfl⟩ := hrel
    by_cases hlt : k < n
    · have hcell : w.cell? ⟨b, off + k, none⟩ = some (.int .i64 (xs.getD k 0)) := HC.out k (by omega)
      have hs : szB (xs.getD k 0) = true := HK.out k (by omega)
      have d2 : decide ((k : Int) < (n : Int)) = true := decide_eq_true (by omega)
      generalize xs.getD k 0 = x at *
      go_wp2_with fail
      refine (refSized_any _ _).mono ?_
      rintro e w' ⟨rfl, rfl⟩
      go_wp2_with fail
      go_round
      case rel => exact ⟨k + 1, by omega, by go_num⟩
      case measure => simp [intOf]; omega
    · have d2 : decide ((k : Int) < (n : Int)) = false := decide_eq_false (by omega)
      have d3 : decide (t < 0) = false := decide_eq_false (by omega)
      go_wp2_with fail
      clear d2 d3
      go_loop [1, 7] (fun v i => ∃ (k : Nat) (s : Int), k ≤ n ∧ i = .int .i64 k ∧ v = .int .i64 s ∧ 0 ≤ s ∧ s ≤ 9223372036854775807 ∧ Hid (vGo (xs.drop k) s k = R)) (fun _ i => n - (intOf i).toNat)
      case atStart => exact ⟨0, t, by omega, rfl, rfl, t0, t1, HR.out.symm⟩
      case round =>
        obtain ⟨k, s, hk, rfl, rfl, s0, s1, HV⟩ := hrel
        by_cases hlt : k < n
        · have hcell : w.cell? ⟨b, off + k, none⟩ = some (.int .i64 (xs.getD k 0)) := HC.out k (by omega)
          have hs := szB_true (HK.out k (by omega))
          have HD := hid (vGo_drop xs k (by rw [HL.out]; exact hlt) s)
          have d2 : decide ((k : Int) < (n : Int)) = true := decide_eq_true (by omega)
          generalize xs.getD k 0 = x at *
          by_cases hin : s < x + 7
          · have HE : Hid (R = ((k : Int), (plP x s).1, (plP x s).2, 0)) := by unfold Hid; rw [← HV.out, HD.out, if_pos hin]
            go_wp2_with fail
            refine (refPlace_any (k : Int) x s _ hs.1 hs.2 s0 hin).mono ?_
            rintro e w1 ⟨rfl, hb1⟩
            obtain ⟨hz1, k0, k1, k2⟩ := keep3 hb1
            obtain ⟨hc1, hf1⟩ := bcell hb1
            have hbb : Below w.heap.size w w1 := ((Below.refl _ _).alloc (Nat.le_refl _) _).trans (hb1.mono (by simp))
            go_wp2_with fail
            refine bodyPost_ret (v := .tuple #[.agg #[.int .i64 k, .int .i64 (plP x s).1, .int .i64 (plP x s).2], .int .i64 0]) (by simp [results, Try.results18, go_sem, k0, k1, k2]) rfl ⟨by rw [HE.out], ?_⟩
            exact ((hbb.setCell (Nat.le_refl _) _).setCell (Nat.le_refl _) _).setCell (Nat.le_refl _) _
          · have HE : Hid (vGo (xs.drop (k + 1)) (s - x - 7) ((k + 1 : Nat) : Int) = R) := by unfold Hid; rw [show s - x - 7 = s - (x + 7) by omega, ← HV.out, HD.out, if_neg hin]
            clear HV HD
            go_wp2_with fail
            go_round
            case rel => exact ⟨k + 1, s - x - 7, by omega, by go_num, rfl, by omega, by omega, HE⟩
            case measure => simp [intOf]; omega
        · have HE : Hid (R = (0, 0, 0, 2)) := by unfold Hid; rw [← HV.out]; exact vGo_end xs k (by rw [HL.out]; omega) s k
          have d2 : decide ((k : Int) < (n : Int)) = false := decide_eq_false (by omega)
          go_wp2_with fail
          exact bodyPost_ret (v := .tuple #[.agg #[.int .i64 0, .int .i64 0, .int .i64 0], .int .i64 2]) (by simp [results, Try.results18, go_sem]) rfl ⟨by rw [HE.out], (Below.refl _ _).alloc (Nat.le_refl _) _⟩

theorem refVariable_any (A : Option Addr) (n c : Nat) (xs : List Int) (t : Int) (w : World) (hr : RI w A n xs) (hm : n ≤ 9223372036854775807) (t0 : -9223372036854775808 ≤ t) (t1 : t ≤ 9223372036854775807) :
    Calls Try.prog 18 #[.slice A n c, .int .i64 t] w fun e w' => e = .returned (.tuple #[.agg #[.int .i64 (varP xs t).1, .int .i64 (varP xs t).2.1, .int .i64 (varP xs t).2.2.1], .int .i64 (varP xs t).2.2.2]) ∧ Below w.heap.size w w' := by
  by_cases hc : n = 0 ∨ 1024 < n
  · rw [varP_bad xs t (by rw [hr.len]; omega)]
    exact refVariable_count A n c xs t w hr hc hm
  · by_cases ha : allS xs = true
    · by_cases ht : t < 0
      · rw [varP_neg xs t (by rw [hr.len]; omega) (by rw [hr.len]; omega) ha ht]
        exact refVariable_neg A n c xs t w hr (by omega) (by omega) ha ht
      · rw [varP_go xs t (by rw [hr.len]; omega) (by rw [hr.len]; omega) ha (by omega)]
        exact refVariable_go A n c xs t w hr (by omega) (by omega) ha (by omega) t1
    · have ha' : allS xs = false := by simpa using ha
      rw [varP_bad xs t (.inr (.inr ha'))]
      obtain ⟨m, hm1, hbad, hok⟩ := allS_first ha'
      exact refVariable_size A n c xs t w hr (by omega) (by omega) m (by rw [← hr.len]; exact hm1) hbad hok
end Go.Proofs.Ytpcfjlfdjkifgaa

/-
  For PacketRecords: the reference's Valid (package masterdiscref07), as at the seat of the sectors.
-/
import Derived.Test.YtpcfjlfdjkifgaaPrO
namespace Go.Proofs.Ytpcfjlfdjkifgaa
open Go.RowKit Go.Lib
set_option linter.unusedVariables false
set_option linter.unusedSimpArgs false

structure IsLay (m b d c o : Int) : Prop where
  or : m = 0 ∧ b = 1 ∧ d = 16 ∧ c = 2048 ∧ o = 0 ∨ m = 1 ∧ b = 2 ∧ d = 24 ∧ c = 2048 ∧ o = 16 ∨ m = 2 ∧ b = 2 ∧ d = 24 ∧ c = 2324 ∧ o = 16
def capE (m : Int) : Int × Int := if m = 0 ∨ m = 1 then (2048, 0) else if m = 2 then (2324, 0) else (0, 1)
def spanE (m : Int) : Int × Int × Int := if m = 0 then (0, 2064, 0) else if m = 1 then (16, 2056, 0) else if m = 2 then (16, 2332, 0) else (0, 0, 1)
theorem mode_cases (m : Int) : (∃ b d c o, IsLay m b d c o) ∨ (m < 0 ∨ 2 < m) := by
  by_cases h : m < 0 ∨ 2 < m
  · exact .inr h
  · have : m = 0 ∨ m = 1 ∨ m = 2 := by omega
    rcases this with rfl | rfl | rfl
    · exact .inl ⟨_, _, _, _, ⟨.inl ⟨rfl, rfl, rfl, rfl, rfl⟩⟩⟩
    · exact .inl ⟨_, _, _, _, ⟨.inr (.inl ⟨rfl, rfl, rfl, rfl, rfl⟩)⟩⟩
    · exact .inl ⟨_, _, _, _, ⟨.inr (.inr ⟨rfl, rfl, rfl, rfl, rfl⟩)⟩⟩
theorem IsLay.cap {m b d c o : Int} (h : IsLay m b d c o) : capE m = (c, 0) := by
  rcases h.or with ⟨rfl, rfl, rfl, rfl, rfl⟩ | ⟨rfl, rfl, rfl, rfl, rfl⟩ | ⟨rfl, rfl, rfl, rfl, rfl⟩ <;> rfl
theorem IsLay.span {m b d c o : Int} (h : IsLay m b d c o) : spanE m = (o, d + c - o, 0) := by
  rcases h.or with ⟨rfl, rfl, rfl, rfl, rfl⟩ | ⟨rfl, rfl, rfl, rfl, rfl⟩ | ⟨rfl, rfl, rfl, rfl, rfl⟩ <;> rfl
theorem IsLay.bd {m b d c o : Int} (h : IsLay m b d c o) : (d = 16 ∨ d = 24) ∧ (c = 2048 ∨ c = 2324) ∧ (o = 0 ∨ o = 16) ∧ (b = 1 ∨ b = 2) ∧ 0 ≤ m ∧ m ≤ 2 := by
  rcases h.or with ⟨rfl, rfl, rfl, rfl, rfl⟩ | ⟨rfl, rfl, rfl, rfl, rfl⟩ | ⟨rfl, rfl, rfl, rfl, rfl⟩ <;> decide
theorem cap_no {m : Int} (h : m < 0 ∨ 2 < m) : capE m = (0, 1) := by
  unfold capE; rw [if_neg (by omega), if_neg (by omega)]
theorem refCapacity_any (m : Int) (w : World) : Calls Try.prog 43 #[.int .i64 m] w fun e w' => e = .returned (.tuple #[.int .i64 (capE m).1, .int .i64 (capE m).2]) ∧ w = w' := by
  rcases mode_cases m with ⟨b, d, c, o, h⟩ | h
  · rw [h.cap]
    rcases h.or with ⟨rfl, rfl, rfl, rfl, rfl⟩ | ⟨rfl, rfl, rfl, rfl, rfl⟩ | ⟨rfl, rfl, rfl, rfl, rfl⟩
    all_goals
      go_enter Try.func43, Try.ntmps43
      go_wp2_with fail
      go_ret2
      exact ⟨rfl, rfl⟩
  · rw [cap_no h]
    have d0 : (m == 0) = false := by rw [beq_eq_false_iff_ne]; omega
    have d1 : (m == 1) = false := by rw [beq_eq_false_iff_ne]; omega
    have d2 : (m == 2) = false := by rw [beq_eq_false_iff_ne]; omega
    clear h
    go_enter Try.func43, Try.ntmps43
    go_wp2_with fail
    go_ret2
    exact ⟨rfl, rfl⟩
theorem octet_any (n : Int) (w : World) : Calls Try.prog 44 #[.int .i64 n] w fun e w' => e = .returned (.bool (decide (0 ≤ n ∧ n ≤ 255))) ∧ w = w' := by
  by_cases h0 : 0 ≤ n
  · have d0 : decide (0 ≤ n) = true := decide_eq_true h0
    have HO : Hid (decide (0 ≤ n ∧ n ≤ 255) = decide (n ≤ 255)) := decide_eq_decide.2 (by omega)
    go_enter Try.func44, Try.ntmps44
    go_wp2_with fail
    go_ret
    exact ⟨by first | rfl | (rw [HO.out]; rfl), rfl⟩
  · have d0 : decide (0 ≤ n) = false := decide_eq_false h0
    have HO : Hid (decide (0 ≤ n ∧ n ≤ 255) = false) := decide_eq_false (by omega)
    go_enter Try.func44, Try.ntmps44
    go_wp2_with fail
    go_ret
    exact ⟨by first | rfl | (rw [HO.out]; rfl), rfl⟩
def subB (m f c s k : Int) : Bool := if m = 0 then decide (f = 0 ∧ c = 0 ∧ s = 0 ∧ k = 0) else decide (0 ≤ f ∧ f ≤ 255 ∧ 0 ≤ c ∧ c ≤ 31 ∧ 0 ≤ s ∧ s ≤ 255 ∧ 0 ≤ k ∧ k ≤ 255 ∧ (s / 32 % 2 = 1 ↔ m = 2))
def vB (l m f c s k n : Int) : Bool := decide ((0 ≤ m ∧ m ≤ 2) ∧ -150 ≤ l ∧ l ≤ 449849 ∧ n = (capE m).1) && subB m f c s k
theorem form_bit (s : Int) (h0 : 0 ≤ s) (h1 : s ≤ 255) : (bits .and .i64 s 32 != 0) = decide (s / 32 % 2 = 1) := by
  obtain ⟨k, rfl⟩ := Int.eq_ofNat_of_zero_le h0
  have : ∀ k : Fin 256, (bits .and .i64 ((k.val : Nat) : Int) 32 != 0) = decide (((k.val : Nat) : Int) / 32 % 2 = 1) := by decide +kernel
  exact this ⟨k, by omega⟩
theorem form_quo (s : Int) (h0 : 0 ≤ s) (h1 : s ≤ 255) : ((s / 32 % 2) == 1) = decide (s / 32 % 2 = 1) := by
  by_cases h : s / 32 % 2 = 1
  · rw [decide_eq_true h]; exact beq_iff_eq.2 h
  · rw [decide_eq_false h]; exact beq_eq_false_iff_ne.2 h
theorem refValid_any (l m f c s k : Int) (d : ByteArray) (hl : -9223372036854775808 ≤ l ∧ l ≤ 9223372036854775807) (w : World) :
    Calls Try.prog 39 #[.agg #[.int .i64 l, .int .i64 m, .int .i64 f, .int .i64 c, .int .i64 s, .int .i64 k, .string d]] w fun e w' => e = .returned (.bool (vB l m f c s k d.size)) ∧ Below w.heap.size w w' := by
  rcases mode_cases m with ⟨lb, ld, lc, lo, h⟩ | h
  · have HL : Hid (∀ w : World, Calls Try.prog 43 #[.int .i64 m] w fun e w' => e = .returned (.tuple #[.int .i64 lc, .int .i64 0]) ∧ w = w') := fun w => by
      have := refCapacity_any m w
      rwa [h.cap] at this
    have HC : Hid (capE m = (lc, 0)) := h.cap
    obtain ⟨g1, g2, g3, g4, g5⟩ := h.bd
    have HI := hid h
    clear h
    by_cases hn : (d.size : Int) = lc
    · have e1 : ((d.size : Int) != lc) = false := by rw [hn]; simp
      by_cases hr : -150 ≤ l ∧ l ≤ 449849
      · have r1 : decide (l < -150) = false := decide_eq_false (by omega)
        have r2 : decide (449849 < l) = false := decide_eq_false (by omega)
        have HV : Hid (vB l m f c s k d.size = subB m f c s k) := by
          unfold Hid vB
          rw [HC.out, decide_eq_true ⟨⟨g5.1, g5.2⟩, hr.1, hr.2, hn⟩]; rfl
        clear hn hr
        by_cases h0 : m = 0
        · have d0 : (m == 0) = true := by rw [h0]; rfl
          have HS : Hid (subB m f c s k = decide (f = 0 ∧ c = 0 ∧ s = 0 ∧ k = 0)) := by unfold Hid subB; rw [if_pos h0]
          clear h0
          go_enter Try.func39, Try.ntmps39
          go_wp2_with fail
          refine (HL.out _).mono ?_
          rintro e w1 ⟨rfl, rfl⟩
          go_wp2_with fail
          all_goals
            go_ret
            exact ⟨ret_bool (by rw [HV.out, HS.out]; symm; first | exact decide_eq_true (by omega) | exact decide_eq_false (by omega)), by (repeat (first | exact Below.refl _ _ | assumption | refine balloc ?_ _ | refine bdrew ?_ | refine bdrN ?_ _ | refine bset _ (by first | omega | (simp; done) | (simp; omega)) ?_ | refine brow _ _ (by first | omega | (simp; done) | (simp; omega)) ?_ | (apply bthen; rotate_left; assumption)))⟩
        · have d0 : (m == 0) = false := beq_eq_false_iff_ne.2 h0
          have HS : Hid (subB m f c s k = decide (0 ≤ f ∧ f ≤ 255 ∧ 0 ≤ c ∧ c ≤ 31 ∧ 0 ≤ s ∧ s ≤ 255 ∧ 0 ≤ k ∧ k ≤ 255 ∧ (s / 32 % 2 = 1 ↔ m = 2))) := by unfold Hid subB; rw [if_neg h0]
          clear h0
          go_enter Try.func39, Try.ntmps39
          go_wp2_with fail
          refine (HL.out _).mono ?_
          rintro e w1 ⟨rfl, rfl⟩
          go_wp2_with fail
          refine (octet_any f _).mono ?_
          rintro e w3 ⟨rfl, rfl⟩
          by_cases h1 : 0 ≤ f ∧ f ≤ 255
          · rw [decide_eq_true h1]
            go_wp2_with fail
            refine (octet_any k _).mono ?_
            rintro e w3 ⟨rfl, rfl⟩
            by_cases h4 : 0 ≤ k ∧ k ≤ 255
            · rw [decide_eq_true h4]
              by_cases h2 : 0 ≤ c
              · have u1 : decide (0 ≤ c) = true := decide_eq_true h2
                by_cases h2' : c ≤ 31
                · have u2 : decide (c ≤ 31) = true := decide_eq_true h2'
                  go_wp2_with fail
                  refine (octet_any s _).mono ?_
                  rintro e w3 ⟨rfl, rfl⟩
                  by_cases h3 : 0 ≤ s ∧ s ≤ 255
                  · rw [decide_eq_true h3]
                    have hbit := form_quo s h3.1 h3.2
                    have HF : Hid (subB m f c s k = (decide (s / 32 % 2 = 1) == (m == 2))) := by
                      rw [HS.out]
                      by_cases q : s / 32 % 2 = 1 <;> by_cases q2 : m = 2
                      · rw [decide_eq_true q, beq_iff_eq.2 q2]; exact decide_eq_true (by omega)
                      · rw [decide_eq_true q, beq_eq_false_iff_ne.2 q2]; exact decide_eq_false (by omega)
                      · rw [decide_eq_false q, beq_iff_eq.2 q2]; exact decide_eq_false (by omega)
                      · rw [decide_eq_false q, beq_eq_false_iff_ne.2 q2]; exact decide_eq_true (by omega)
                    generalize decide (s / 32 % 2 = 1) = B1 at *
                    generalize hB2 : (m == 2) = B2 at *
                    go_wp2_with fail
                    go_ret
                    exact ⟨by rw [HV.out, HF.out]; rfl, by (repeat (first | exact Below.refl _ _ | assumption | refine balloc ?_ _ | refine bdrew ?_ | refine bdrN ?_ _ | refine bset _ (by first | omega | (simp; done) | (simp; omega)) ?_ | refine brow _ _ (by first | omega | (simp; done) | (simp; omega)) ?_ | (apply bthen; rotate_left; assumption)))⟩
                  · rw [decide_eq_false h3]
                    have HF : Hid (subB m f c s k = false) := by rw [HS.out]; exact decide_eq_false (by omega)
                    go_wp2_with fail
                    go_ret
                    exact ⟨by rw [HV.out, HF.out]; rfl, by (repeat (first | exact Below.refl _ _ | assumption | refine balloc ?_ _ | refine bdrew ?_ | refine bdrN ?_ _ | refine bset _ (by first | omega | (simp; done) | (simp; omega)) ?_ | refine brow _ _ (by first | omega | (simp; done) | (simp; omega)) ?_ | (apply bthen; rotate_left; assumption)))⟩
                · have u2 : decide (c ≤ 31) = false := decide_eq_false h2'
                  have HF : Hid (subB m f c s k = false) := by rw [HS.out]; exact decide_eq_false (by omega)
                  go_wp2_with fail
                  go_ret
                  exact ⟨by rw [HV.out, HF.out]; rfl, by (repeat (first | exact Below.refl _ _ | assumption | refine balloc ?_ _ | refine bdrew ?_ | refine bdrN ?_ _ | refine bset _ (by first | omega | (simp; done) | (simp; omega)) ?_ | refine brow _ _ (by first | omega | (simp; done) | (simp; omega)) ?_ | (apply bthen; rotate_left; assumption)))⟩
              · have u1 : decide (0 ≤ c) = false := decide_eq_false h2
                have HF : Hid (subB m f c s k = false) := by rw [HS.out]; exact decide_eq_false (by omega)
                go_wp2_with fail
                go_ret
                exact ⟨by rw [HV.out, HF.out]; rfl, by (repeat (first | exact Below.refl _ _ | assumption | refine balloc ?_ _ | refine bdrew ?_ | refine bdrN ?_ _ | refine bset _ (by first | omega | (simp; done) | (simp; omega)) ?_ | refine brow _ _ (by first | omega | (simp; done) | (simp; omega)) ?_ | (apply bthen; rotate_left; assumption)))⟩
            · rw [decide_eq_false h4]
              have HF : Hid (subB m f c s k = false) := by rw [HS.out]; exact decide_eq_false (by omega)
              go_wp2_with fail
              go_ret
              exact ⟨by rw [HV.out, HF.out]; rfl, by (repeat (first | exact Below.refl _ _ | assumption | refine balloc ?_ _ | refine bdrew ?_ | refine bdrN ?_ _ | refine bset _ (by first | omega | (simp; done) | (simp; omega)) ?_ | refine brow _ _ (by first | omega | (simp; done) | (simp; omega)) ?_ | (apply bthen; rotate_left; assumption)))⟩
          · rw [decide_eq_false h1]
            have HF : Hid (subB m f c s k = false) := by rw [HS.out]; exact decide_eq_false (by omega)
            go_wp2_with fail
            go_ret
            exact ⟨by rw [HV.out, HF.out]; rfl, by (repeat (first | exact Below.refl _ _ | assumption | refine balloc ?_ _ | refine bdrew ?_ | refine bdrN ?_ _ | refine bset _ (by first | omega | (simp; done) | (simp; omega)) ?_ | refine brow _ _ (by first | omega | (simp; done) | (simp; omega)) ?_ | (apply bthen; rotate_left; assumption)))⟩
      · have HV : Hid (vB l m f c s k d.size = false) := by
          unfold Hid vB
          rw [decide_eq_false (by omega)]; rfl
        by_cases hr1 : l < -150
        · have r1 : decide (l < -150) = true := decide_eq_true hr1
          clear hn hr hr1
          go_enter Try.func39, Try.ntmps39
          go_wp2_with fail
          refine (HL.out _).mono ?_
          rintro e w1 ⟨rfl, rfl⟩
          go_wp2_with fail
          go_ret
          exact ⟨by rw [HV.out]; rfl, by (repeat (first | exact Below.refl _ _ | assumption | refine balloc ?_ _ | refine bdrew ?_ | refine bdrN ?_ _ | refine bset _ (by first | omega | (simp; done) | (simp; omega)) ?_ | refine brow _ _ (by first | omega | (simp; done) | (simp; omega)) ?_ | (apply bthen; rotate_left; assumption)))⟩
        · have r1 : decide (l < -150) = false := decide_eq_false hr1
          have r2 : decide (449849 < l) = true := decide_eq_true (by omega)
          clear hn hr hr1
          go_enter Try.func39, Try.ntmps39
          go_wp2_with fail
          refine (HL.out _).mono ?_
          rintro e w1 ⟨rfl, rfl⟩
          go_wp2_with fail
          go_ret
          exact ⟨by rw [HV.out]; rfl, by (repeat (first | exact Below.refl _ _ | assumption | refine balloc ?_ _ | refine bdrew ?_ | refine bdrN ?_ _ | refine bset _ (by first | omega | (simp; done) | (simp; omega)) ?_ | refine brow _ _ (by first | omega | (simp; done) | (simp; omega)) ?_ | (apply bthen; rotate_left; assumption)))⟩
    · have e1 : ((d.size : Int) != lc) = true := bne_iff_ne.2 hn
      have HV : Hid (vB l m f c s k d.size = false) := by
        unfold Hid vB
        rw [HC.out, decide_eq_false (by intro h; exact hn h.2.2.2)]; rfl
      clear hn
      go_enter Try.func39, Try.ntmps39
      go_wp2_with fail
      refine (HL.out _).mono ?_
      rintro e w1 ⟨rfl, rfl⟩
      go_wp2_with fail
      go_ret
      exact ⟨by rw [HV.out]; rfl, by (repeat (first | exact Below.refl _ _ | assumption | refine balloc ?_ _ | refine bdrew ?_ | refine bdrN ?_ _ | refine bset _ (by first | omega | (simp; done) | (simp; omega)) ?_ | refine brow _ _ (by first | omega | (simp; done) | (simp; omega)) ?_ | (apply bthen; rotate_left; assumption)))⟩
  · have HL : Hid (∀ w : World, Calls Try.prog 43 #[.int .i64 m] w fun e w' => e = .returned (.tuple #[.int .i64 0, .int .i64 1]) ∧ w = w') := fun w => by
      have := refCapacity_any m w
      rwa [cap_no h] at this
    have HV : Hid (vB l m f c s k d.size = false) := by
      unfold Hid vB
      rw [decide_eq_false (by omega)]; rfl
    clear h
    go_enter Try.func39, Try.ntmps39
    go_wp2_with fail
    refine (HL.out _).mono ?_
    rintro e w1 ⟨rfl, rfl⟩
    go_wp2_with fail
    go_ret
    exact ⟨by rw [HV.out]; rfl, by (repeat (first | exact Below.refl _ _ | assumption | refine balloc ?_ _ | refine bdrew ?_ | refine bdrN ?_ _ | refine bset _ (by first | omega | (simp; done) | (simp; omega)) ?_ | refine brow _ _ (by first | omega | (simp; done) | (simp; omega)) ?_ | (apply bthen; rotate_left; assumption)))⟩
end Go.Proofs.Ytpcfjlfdjkifgaa

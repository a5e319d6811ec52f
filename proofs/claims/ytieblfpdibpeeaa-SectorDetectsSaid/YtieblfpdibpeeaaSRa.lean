/-
  Contracts of Valid and Build (package sector) at contents of any length.
-/
import Derived.Test.YtieblfpdibpeeaaSeK
namespace Go.Proofs.Ytieblfpdibpeeaa
open Go.RowKit Go.Lib
set_option linter.unusedVariables false
set_option linter.unusedSimpArgs false

theorem Valid_wide (l m f c s k : Int) (d : ByteArray) (hl : -9223372036854775808 ≤ l ∧ l ≤ 9223372036854775807) (w : World) :
    Calls Try.prog 13 #[.agg #[.int .i64 l, .int .i64 m, .int .i64 f, .int .i64 c, .int .i64 s, .int .i64 k, .string d]] w fun e w' => e = .returned (.bool (vB l m f c s k d.size)) ∧ Below w.heap.size w w' := by
  obtain ⟨ma, mb, mc, me, HM', he⟩ := ToMSF_ex l hl
  have HM := hid HM'
  clear HM'
  rcases mode_cases m with ⟨lb, ld, lc, lo, h⟩ | h
  · have HL := hid (fun w => layouts_ok m lb ld lc lo h w)
    have HC : Hid (capE m = (lc, 0)) := h.cap
    obtain ⟨g1, g2, g3, g4, g5⟩ := h.bd
    have HI := hid h
    clear h
    by_cases hr : -150 ≤ l ∧ l ≤ 449849
    · rw [decide_eq_true hr] at he
      have hr' := hid hr
      by_cases hn : (d.size : Int) = lc
      · have e1 : ((d.size : Int) != lc) = false := by rw [hn]; simp
        have HV : Hid (vB l m f c s k d.size = subB m f c s k) := by
          unfold Hid vB
          rw [HC.out, decide_eq_true ⟨⟨g5.1, g5.2⟩, hr.1, hr.2, hn⟩]; rfl
        clear hr hn
        by_cases h0 : m = 0
        · have d0 : (m == 0) = true := by rw [h0]; rfl
          have HS : Hid (subB m f c s k = decide (f = 0 ∧ c = 0 ∧ s = 0 ∧ k = 0)) := by unfold Hid subB; rw [if_pos h0]
          clear h0
          go_enter Try.func13, Try.ntmps13
          go_wp2_with fail
          refine (HL.out _).mono ?_
          rintro e w1 ⟨rfl, hb1⟩
          obtain ⟨k0, k1, k2, k3, k4, k5, k6, kz⟩ := keep7 hb1
          go_wp2_with fail
          refine (HM.out _).mono ?_
          rintro e w2 ⟨rfl, hb2⟩
          replace k0 := below_cell hb2 (alloc_cell k0); replace k1 := below_cell hb2 (alloc_cell k1); replace k2 := below_cell hb2 (alloc_cell k2); replace k3 := below_cell hb2 (alloc_cell k3); replace k4 := below_cell hb2 (alloc_cell k4); replace k5 := below_cell hb2 (alloc_cell k5); replace k6 := below_cell hb2 (alloc_cell k6)
          obtain ⟨j0, j1, j2, j3, jz⟩ := keep4 hb2
          have kz2 := Nat.lt_trans kz jz
          go_wp2_with fail
          all_goals
            go_ret
            exact ⟨ret_bool (by rw [HV.out, HS.out]; symm; first | exact decide_eq_true (by omega) | exact decide_eq_false (by omega)), by (repeat (first | exact Below.refl _ _ | assumption | refine balloc ?_ _ | refine bdrew ?_ | refine bdrN ?_ _ | refine bset _ (by first | omega | (simp; done) | (simp; omega)) ?_ | refine brow _ _ (by first | omega | (simp; done) | (simp; omega)) ?_ | (apply bthen; rotate_left; assumption)))⟩
        · have d0 : (m == 0) = false := beq_eq_false_iff_ne.2 h0
          have HS : Hid (subB m f c s k = decide (0 ≤ f ∧ f ≤ 255 ∧ 0 ≤ c ∧ c ≤ 31 ∧ 0 ≤ s ∧ s ≤ 255 ∧ 0 ≤ k ∧ k ≤ 255 ∧ (s / 32 % 2 = 1 ↔ m = 2))) := by unfold Hid subB; rw [if_neg h0]
          clear h0
          go_enter Try.func13, Try.ntmps13
          go_wp2_with fail
          refine (HL.out _).mono ?_
          rintro e w1 ⟨rfl, hb1⟩
          obtain ⟨k0, k1, k2, k3, k4, k5, k6, kz⟩ := keep7 hb1
          go_wp2_with fail
          refine (HM.out _).mono ?_
          rintro e w2 ⟨rfl, hb2⟩
          replace k0 := below_cell hb2 (alloc_cell k0); replace k1 := below_cell hb2 (alloc_cell k1); replace k2 := below_cell hb2 (alloc_cell k2); replace k3 := below_cell hb2 (alloc_cell k3); replace k4 := below_cell hb2 (alloc_cell k4); replace k5 := below_cell hb2 (alloc_cell k5); replace k6 := below_cell hb2 (alloc_cell k6)
          obtain ⟨j0, j1, j2, j3, jz⟩ := keep4 hb2
          have kz2 := Nat.lt_trans kz jz
          go_wp2_with fail
          refine (between_any f 255 _).mono ?_
          rintro e w3 ⟨rfl, rfl⟩
          by_cases h1 : 0 ≤ f ∧ f ≤ 255
          · rw [decide_eq_true h1]
            go_wp2_with fail
            refine (between_any c 31 _).mono ?_
            rintro e w3 ⟨rfl, rfl⟩
            by_cases h2 : 0 ≤ c ∧ c ≤ 31
            · rw [decide_eq_true h2]
              go_wp2_with fail
              refine (between_any s 255 _).mono ?_
              rintro e w3 ⟨rfl, rfl⟩
              by_cases h3 : 0 ≤ s ∧ s ≤ 255
              · rw [decide_eq_true h3]
                go_wp2_with fail
                refine (between_any k 255 _).mono ?_
                rintro e w3 ⟨rfl, rfl⟩
                by_cases h4 : 0 ≤ k ∧ k ≤ 255
                · rw [decide_eq_true h4]
                  have hbit := form_bit s h3.1 h3.2
                  have HF : Hid (subB m f c s k = (decide (s / 32 % 2 = 1) == (m == 2))) := by
                    rw [HS.out]
                    by_cases q : s / 32 % 2 = 1 <;> by_cases q2 : m = 2
                    · rw [decide_eq_true q, beq_iff_eq.2 q2]; exact decide_eq_true (by omega)
                    · rw [decide_eq_true q, beq_eq_false_iff_ne.2 q2]; exact decide_eq_false (by omega)
                    · rw [decide_eq_false q, beq_iff_eq.2 q2]; exact decide_eq_false (by omega)
                    · rw [decide_eq_false q, beq_eq_false_iff_ne.2 q2]; exact decide_eq_true (by omega)
                  generalize decide (s / 32 % 2 = 1) = B1 at *
                  generalize hB2 : (m == 2) = B2 at *
                  go_wp2_with fail
                  go_ret
                  exact ⟨by rw [HV.out, HF.out]; rfl, by (repeat (first | exact Below.refl _ _ | assumption | refine balloc ?_ _ | refine bdrew ?_ | refine bdrN ?_ _ | refine bset _ (by first | omega | (simp; done) | (simp; omega)) ?_ | refine brow _ _ (by first | omega | (simp; done) | (simp; omega)) ?_ | (apply bthen; rotate_left; assumption)))⟩
                · rw [decide_eq_false h4]
                  have HF : Hid (subB m f c s k = false) := by rw [HS.out]; exact decide_eq_false (by omega)
                  go_wp2_with fail
                  go_ret
                  exact ⟨by rw [HV.out, HF.out]; rfl, by (repeat (first | exact Below.refl _ _ | assumption | refine balloc ?_ _ | refine bdrew ?_ | refine bdrN ?_ _ | refine bset _ (by first | omega | (simp; done) | (simp; omega)) ?_ | refine brow _ _ (by first | omega | (simp; done) | (simp; omega)) ?_ | (apply bthen; rotate_left; assumption)))⟩
              · rw [decide_eq_false h3]
                have HF : Hid (subB m f c s k = false) := by rw [HS.out]; exact decide_eq_false (by omega)
                go_wp2_with fail
                go_ret
                exact ⟨by rw [HV.out, HF.out]; rfl, by (repeat (first | exact Below.refl _ _ | assumption | refine balloc ?_ _ | refine bdrew ?_ | refine bdrN ?_ _ | refine bset _ (by first | omega | (simp; done) | (simp; omega)) ?_ | refine brow _ _ (by first | omega | (simp; done) | (simp; omega)) ?_ | (apply bthen; rotate_left; assumption)))⟩
            · rw [decide_eq_false h2]
              have HF : Hid (subB m f c s k = false) := by rw [HS.out]; exact decide_eq_false (by omega)
              go_wp2_with fail
              go_ret
              exact ⟨by rw [HV.out, HF.out]; rfl, by (repeat (first | exact Below.refl _ _ | assumption | refine balloc ?_ _ | refine bdrew ?_ | refine bdrN ?_ _ | refine bset _ (by first | omega | (simp; done) | (simp; omega)) ?_ | refine brow _ _ (by first | omega | (simp; done) | (simp; omega)) ?_ | (apply bthen; rotate_left; assumption)))⟩
          · rw [decide_eq_false h1]
            have HF : Hid (subB m f c s k = false) := by rw [HS.out]; exact decide_eq_false (by omega)
            go_wp2_with fail
            go_ret
            exact ⟨by rw [HV.out, HF.out]; rfl, by (repeat (first | exact Below.refl _ _ | assumption | refine balloc ?_ _ | refine bdrew ?_ | refine bdrN ?_ _ | refine bset _ (by first | omega | (simp; done) | (simp; omega)) ?_ | refine brow _ _ (by first | omega | (simp; done) | (simp; omega)) ?_ | (apply bthen; rotate_left; assumption)))⟩
      · have e1 : ((d.size : Int) != lc) = true := bne_iff_ne.2 hn
        have HV : Hid (vB l m f c s k d.size = false) := by
          unfold Hid vB
          rw [HC.out, decide_eq_false (by intro h; exact hn h.2.2.2)]; rfl
        clear hr hn
        go_enter Try.func13, Try.ntmps13
        go_wp2_with fail
        refine (HL.out _).mono ?_
        rintro e w1 ⟨rfl, hb1⟩
        obtain ⟨k0, k1, k2, k3, k4, k5, k6, kz⟩ := keep7 hb1
        go_wp2_with fail
        refine (HM.out _).mono ?_
        rintro e w2 ⟨rfl, hb2⟩
        replace k0 := below_cell hb2 (alloc_cell k0); replace k1 := below_cell hb2 (alloc_cell k1); replace k2 := below_cell hb2 (alloc_cell k2); replace k3 := below_cell hb2 (alloc_cell k3); replace k4 := below_cell hb2 (alloc_cell k4); replace k5 := below_cell hb2 (alloc_cell k5); replace k6 := below_cell hb2 (alloc_cell k6)
        obtain ⟨j0, j1, j2, j3, jz⟩ := keep4 hb2
        have kz2 := Nat.lt_trans kz jz
        go_wp2_with fail
        go_ret
        exact ⟨by rw [HV.out]; rfl, by (repeat (first | exact Below.refl _ _ | assumption | refine balloc ?_ _ | refine bdrew ?_ | refine bdrN ?_ _ | refine bset _ (by first | omega | (simp; done) | (simp; omega)) ?_ | refine brow _ _ (by first | omega | (simp; done) | (simp; omega)) ?_ | (apply bthen; rotate_left; assumption)))⟩
    · rw [decide_eq_false hr] at he
      have HV : Hid (vB l m f c s k d.size = false) := by
        unfold Hid vB
        rw [decide_eq_false (by omega)]; rfl
      clear hr
      go_enter Try.func13, Try.ntmps13
      go_wp2_with fail
      refine (HL.out _).mono ?_
      rintro e w1 ⟨rfl, hb1⟩
      obtain ⟨k0, k1, k2, k3, k4, k5, k6, kz⟩ := keep7 hb1
      go_wp2_with fail
      refine (HM.out _).mono ?_
      rintro e w2 ⟨rfl, hb2⟩
      replace k0 := below_cell hb2 (alloc_cell k0); replace k1 := below_cell hb2 (alloc_cell k1); replace k2 := below_cell hb2 (alloc_cell k2); replace k3 := below_cell hb2 (alloc_cell k3); replace k4 := below_cell hb2 (alloc_cell k4); replace k5 := below_cell hb2 (alloc_cell k5); replace k6 := below_cell hb2 (alloc_cell k6)
      obtain ⟨j0, j1, j2, j3, jz⟩ := keep4 hb2
      have kz2 := Nat.lt_trans kz jz
      go_wp2_with fail
      go_ret
      exact ⟨by rw [HV.out]; rfl, by (repeat (first | exact Below.refl _ _ | assumption | refine balloc ?_ _ | refine bdrew ?_ | refine bdrN ?_ _ | refine bset _ (by first | omega | (simp; done) | (simp; omega)) ?_ | refine brow _ _ (by first | omega | (simp; done) | (simp; omega)) ?_ | (apply bthen; rotate_left; assumption)))⟩
  · have HL := hid (fun w => layouts_no m h w)
    have HV : Hid (vB l m f c s k d.size = false) := by
      unfold Hid vB
      rw [decide_eq_false (by omega)]; rfl
    clear h he
    go_enter Try.func13, Try.ntmps13
    go_wp2_with fail
    refine (HL.out _).mono ?_
    rintro e w1 ⟨rfl, hb1⟩
    obtain ⟨k0, k1, k2, k3, k4, k5, k6, kz⟩ := keep7 hb1
    go_wp2_with fail
    refine (HM.out _).mono ?_
    rintro e w2 ⟨rfl, hb2⟩
    go_wp2_with fail
    go_ret
    exact ⟨by rw [HV.out]; rfl, by (repeat (first | exact Below.refl _ _ | assumption | refine balloc ?_ _ | refine bdrew ?_ | refine bdrN ?_ _ | refine bset _ (by first | omega | (simp; done) | (simp; omega)) ?_ | refine brow _ _ (by first | omega | (simp; done) | (simp; omega)) ?_ | (apply bthen; rotate_left; assumption)))⟩
theorem Build_none (l m f c s k : Int) (d : ByteArray) (hv : vB l m f c s k d.size = false) (hl : -9223372036854775808 ≤ l ∧ l ≤ 9223372036854775807) (w : World) :
    Calls Try.prog 11 #[.agg #[.int .i64 l, .int .i64 m, .int .i64 f, .int .i64 c, .int .i64 s, .int .i64 k, .string d]] w fun e w' => e = .returned (.tuple #[.string { data := #[] }, .int .i64 1]) ∧ Below w.heap.size w w' := by
  have HV : Hid (∀ w : World, Calls Try.prog 13 #[.agg #[.int .i64 l, .int .i64 m, .int .i64 f, .int .i64 c, .int .i64 s, .int .i64 k, .string d]] w fun e w' => e = .returned (.bool false) ∧ Below w.heap.size w w') := fun w => by
    have := Valid_wide l m f c s k d hl w
    rwa [hv] at this
  clear hv hl
  go_enter Try.func11, Try.ntmps11
  go_wp2_with fail
  refine (HV.out _).mono ?_
  rintro e w1 ⟨rfl, hb1⟩
  go_wp2_with fail
  go_ret2
  exact ⟨rfl, by (repeat (first | exact Below.refl _ _ | assumption | refine balloc ?_ _ | refine bdrew ?_ | refine bdrN ?_ _ | refine bset _ (by first | omega | (simp; done) | (simp; omega)) ?_ | refine brow _ _ (by first | omega | (simp; done) | (simp; omega)) ?_ | (apply bthen; rotate_left; assumption)))⟩
theorem Build_wide (l m f c s k : Int) (d : ByteArray) (hl : -9223372036854775808 ≤ l ∧ l ≤ 9223372036854775807) (w : World) :
    Calls Try.prog 11 #[.agg #[.int .i64 l, .int .i64 m, .int .i64 f, .int .i64 c, .int .i64 s, .int .i64 k, .string d]] w fun e w' => e = .returned (.tuple #[.string (buildE l m f c s k d).1, .int .i64 (buildE l m f c s k d).2]) ∧ Below w.heap.size w w' := by
  by_cases hv : vB l m f c s k d.size = true
  · have e : buildE l m f c s k d = (buildS l m f c s k d, 0) := if_pos hv
    rw [e]
    rcases vB_mode hv with rfl | ⟨lc, hI⟩
    · exact Build_ok0 l f c s k d hv hl w
    · exact Build_ok1 l m lc f c s k d hI hv hl w
  · have e : buildE l m f c s k d = ({ data := #[] }, 1) := if_neg hv
    rw [e]
    exact Build_none l m f c s k d (by simpa using hv) hl w
end Go.Proofs.Ytieblfpdibpeeaa

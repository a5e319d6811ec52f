/-
  Contracts of the two functions Valid.
-/
import Derived.Test.YtieblfpdibpeeaaSeE
namespace Go.Proofs.Ytieblfpdibpeeaa
open Go.RowKit Go.Lib
set_option linter.unusedVariables false
set_option linter.unusedSimpArgs false

theorem between_any (n h : Int) (w : World) : Calls Try.prog 37 #[.int .i64 n, .int .i64 h] w fun e w' => e = .returned (.bool (decide (0 ≤ n ∧ n ≤ h))) ∧ w = w' := by
  by_cases h0 : 0 ≤ n
  · have d0 : decide (0 ≤ n) = true := decide_eq_true h0
    have HO : Hid (decide (0 ≤ n ∧ n ≤ h) = decide (n ≤ h)) := decide_eq_decide.2 (by omega)
    go_enter Try.func37, Try.ntmps37
    go_wp2_with fail
    go_ret
    exact ⟨by first | rfl | (rw [HO.out]; rfl), rfl⟩
  · have d0 : decide (0 ≤ n) = false := decide_eq_false h0
    have HO : Hid (decide (0 ≤ n ∧ n ≤ h) = false) := decide_eq_false (by omega)
    go_enter Try.func37, Try.ntmps37
    go_wp2_with fail
    go_ret
    exact ⟨by first | rfl | (rw [HO.out]; rfl), rfl⟩
theorem octet_any (n : Int) (w : World) : Calls Try.prog 38 #[.int .i64 n] w fun e w' => e = .returned (.bool (decide (0 ≤ n ∧ n ≤ 255))) ∧ w = w' := by
  by_cases h0 : 0 ≤ n
  · have d0 : decide (0 ≤ n) = true := decide_eq_true h0
    have HO : Hid (decide (0 ≤ n ∧ n ≤ 255) = decide (n ≤ 255)) := decide_eq_decide.2 (by omega)
    go_enter Try.func38, Try.ntmps38
    go_wp2_with fail
    go_ret
    exact ⟨by first | rfl | (rw [HO.out]; rfl), rfl⟩
  · have d0 : decide (0 ≤ n) = false := decide_eq_false h0
    have HO : Hid (decide (0 ≤ n ∧ n ≤ 255) = false) := decide_eq_false (by omega)
    go_enter Try.func38, Try.ntmps38
    go_wp2_with fail
    go_ret
    exact ⟨by first | rfl | (rw [HO.out]; rfl), rfl⟩

theorem ToMSF_ex (l : Int) (hl : -9223372036854775808 ≤ l ∧ l ≤ 9223372036854775807) : ∃ a b c e : Int, (∀ w : World, Calls Try.prog 27 #[.int .i64 l] w fun e' w' => e' = .returned (.tuple #[.agg #[.int .i64 a, .int .i64 b, .int .i64 c], .int .i64 e]) ∧ Below w.heap.size w w') ∧ (e != 0) = !decide (-150 ≤ l ∧ l ≤ 449849) := by
  by_cases h : -150 ≤ l ∧ l ≤ 449849
  · exact ⟨_, _, _, 0, fun w => ToMSF_ok l (l + 150) (by omega) (by omega) (by omega) w, by rw [decide_eq_true h]; rfl⟩
  · exact ⟨0, 0, 0, 2, fun w => ToMSF_no l (by omega) hl w, by rw [decide_eq_false h]; rfl⟩

/-- Are the contents of a sector valid? -/
def subB (m f c s k : Int) : Bool := if m = 0 then decide (f = 0 ∧ c = 0 ∧ s = 0 ∧ k = 0) else decide (0 ≤ f ∧ f ≤ 255 ∧ 0 ≤ c ∧ c ≤ 31 ∧ 0 ≤ s ∧ s ≤ 255 ∧ 0 ≤ k ∧ k ≤ 255 ∧ (s / 32 % 2 = 1 ↔ m = 2))
def vB (l m f c s k n : Int) : Bool := decide ((0 ≤ m ∧ m ≤ 2) ∧ -150 ≤ l ∧ l ≤ 449849 ∧ n = (capE m).1) && subB m f c s k
theorem form_bit (s : Int) (h0 : 0 ≤ s) (h1 : s ≤ 255) : (bits .and .i64 s 32 != 0) = decide (s / 32 % 2 = 1) := by
  obtain ⟨k, rfl⟩ := Int.eq_ofNat_of_zero_le h0
  have : ∀ k : Fin 256, (bits .and .i64 ((k.val : Nat) : Int) 32 != 0) = decide (((k.val : Nat) : Int) / 32 % 2 = 1) := by decide +kernel
  exact this ⟨k, by omega⟩

/-- A sector's value. -/
def secV (l m f c s k : Int) (d : ByteArray) : Value := .agg #[.int .i64 l, .int .i64 m, .int .i64 f, .int .i64 c, .int .i64 s, .int .i64 k, .string d]

/-- A struct of seven cells that was laid before a call is there behind it. -/
theorem keep7 {w1 w2 : World} {a b c d e f g : Value} {t : TypeId} (hb : Below (w1.alloc (.cells #[a, b, c, d, e, f, g] t)).heap.size (w1.alloc (.cells #[a, b, c, d, e, f, g] t)) w2) :
    w2.cell? ⟨w1.heap.size, 0, none⟩ = some a ∧ w2.cell? ⟨w1.heap.size, 1, none⟩ = some b ∧ w2.cell? ⟨w1.heap.size, 2, none⟩ = some c ∧ w2.cell? ⟨w1.heap.size, 3, none⟩ = some d ∧
      w2.cell? ⟨w1.heap.size, 4, none⟩ = some e ∧ w2.cell? ⟨w1.heap.size, 5, none⟩ = some f ∧ w2.cell? ⟨w1.heap.size, 6, none⟩ = some g ∧ w1.heap.size < w2.heap.size := by
  have hs : w1.heap.size < (w1.alloc (.cells #[a, b, c, d, e, f, g] t)).heap.size := by simp
  refine ⟨below_cell hb (by simp), below_cell hb (by simp), below_cell hb (by simp), below_cell hb (by simp), below_cell hb (by simp), below_cell hb (by simp), below_cell hb (by simp), Nat.lt_of_lt_of_le hs hb.size⟩
theorem keep4 {w1 w2 : World} {a b c d : Value} {t : TypeId} (hb : Below (w1.alloc (.cells #[a, b, c, d] t)).heap.size (w1.alloc (.cells #[a, b, c, d] t)) w2) :
    w2.cell? ⟨w1.heap.size, 0, none⟩ = some a ∧ w2.cell? ⟨w1.heap.size, 1, none⟩ = some b ∧ w2.cell? ⟨w1.heap.size, 2, none⟩ = some c ∧ w2.cell? ⟨w1.heap.size, 3, none⟩ = some d ∧ w1.heap.size < w2.heap.size := by
  have hs : w1.heap.size < (w1.alloc (.cells #[a, b, c, d] t)).heap.size := by simp
  refine ⟨below_cell hb (by simp), below_cell hb (by simp), below_cell hb (by simp), below_cell hb (by simp), Nat.lt_of_lt_of_le hs hb.size⟩

theorem Valid_any (l m f c s k : Int) (d : ByteArray) (hl : -9223372036854775808 ≤ l ∧ l ≤ 9223372036854775807) (hz : d.size ≤ 140737488351232) (w : World) :
    Calls Try.prog 13 #[.agg #[.int .i64 l, .int .i64 m, .int .i64 f, .int .i64 c, .int .i64 s, .int .i64 k, .string d]] w fun e w' => e = .returned (.bool (vB l m f c s k d.size)) ∧ Below w.heap.size w w' := by
  obtain ⟨ma, mb, mc, me, HM', he⟩ := ToMSF_ex l hl
  have HM := hid HM'
  clear HM'
  rcases mode_cases m with ⟨lb, ld, lc, lo, h⟩ | h
  · have HL := hid (fun w => layouts_ok m lb ld lc lo h w)
    have HC : Hid (capE m = (lc, 0)) := h.cap
    obtain ⟨g1, g2, g3, g4, g5⟩ := h.bd
    have HI := hid h
    clear h
    by_cases hr : -150 ≤ l ∧ l ≤ 449849
    · rw [decide_eq_true hr] at he
      have hr' := hid hr
      by_cases hn : (d.size : Int) = lc
      · have e1 : ((d.size : Int) != lc) = false := by rw [hn]; simp
        have HV : Hid (vB l m f c s k d.size = subB m f c s k) := by
          unfold Hid vB
          rw [HC.out, decide_eq_true ⟨⟨g5.1, g5.2⟩, hr.1, hr.2, hn⟩]; rfl
        clear hr hn
        by_cases h0 : m = 0
        · have d0 : (m == 0) = true := by rw [h0]; rfl
          have HS : Hid (subB m f c s k = decide (f = 0 ∧ c = 0 ∧ s = 0 ∧ k = 0)) := by unfold Hid subB; rw [if_pos h0]
          clear h0
          go_enter Try.func13, Try.ntmps13
          go_wp2_with fail
          refine (HL.out _).mono ?_
          rintro e w1 ⟨rfl, hb1⟩
          obtain ⟨k0, k1, k2, k3, k4, k5, k6, kz⟩ := keep7 hb1
          go_wp2_with fail
          refine (HM.out _).mono ?_
          rintro e w2 ⟨rfl, hb2⟩
          replace k0 := below_cell hb2 (alloc_cell k0); replace k1 := below_cell hb2 (alloc_cell k1); replace k2 := below_cell hb2 (alloc_cell k2); replace k3 := below_cell hb2 (alloc_cell k3); replace k4 := below_cell hb2 (alloc_cell k4); replace k5 := below_cell hb2 (alloc_cell k5); replace k6 := below_cell hb2 (alloc_cell k6)
          obtain ⟨j0, j1, j2, j3, jz⟩ := keep4 hb2
          have kz2 := Nat.lt_trans kz jz
          go_wp2_with fail
          all_goals
            go_ret
            exact ⟨ret_bool (by rw [HV.out, HS.out]; symm; first | exact decide_eq_true (by omega) | exact decide_eq_false (by omega)), by (repeat (first | exact Below.refl _ _ | assumption | refine balloc ?_ _ | refine bdrew ?_ | refine bdrN ?_ _ | refine bset _ (by first | omega | (simp; done) | (simp; omega)) ?_ | refine brow _ _ (by first | omega | (simp; done) | (simp; omega)) ?_ | (apply bthen; rotate_left; assumption)))⟩
        · have d0 : (m == 0) = false := beq_eq_false_iff_ne.2 h0
          have HS : Hid (subB m f c s k = decide (0 ≤ f ∧ f ≤ 255 ∧ 0 ≤ c ∧ c ≤ 31 ∧ 0 ≤ s ∧ s ≤ 255 ∧ 0 ≤ k ∧ k ≤ 255 ∧ (s / 32 % 2 = 1 ↔ m = 2))) := by unfold Hid subB; rw [if_neg h0]
          clear h0
          go_enter Try.func13, Try.ntmps13
          go_wp2_with fail
          refine (HL.out _).mono ?_
          rintro e w1 ⟨rfl, hb1⟩
          obtain ⟨k0, k1, k2, k3, k4, k5, k6, kz⟩ := keep7 hb1
          go_wp2_with fail
          refine (HM.out _).mono ?_
          rintro e w2 ⟨rfl, hb2⟩
          replace k0 := below_cell hb2 (alloc_cell k0); replace k1 := below_cell hb2 (alloc_cell k1); replace k2 := below_cell hb2 (alloc_cell k2); replace k3 := below_cell hb2 (alloc_cell k3); replace k4 := below_cell hb2 (alloc_cell k4); replace k5 := below_cell hb2 (alloc_cell k5); replace k6 := below_cell hb2 (alloc_cell k6)
          obtain ⟨j0, j1, j2, j3, jz⟩ := keep4 hb2
          have kz2 := Nat.lt_trans kz jz
          go_wp2_with fail
          refine (between_any f 255 _).mono ?_
          rintro e w3 ⟨rfl, rfl⟩
          by_cases h1 : 0 ≤ f ∧ f ≤ 255
          · rw [decide_eq_true h1]
            go_wp2_with fail
            refine (between_any c 31 _).mono ?_
            rintro e w3 ⟨rfl, rfl⟩
            by_cases h2 : 0 ≤ c ∧ c ≤ 31
            · rw [decide_eq_true h2]
              go_wp2_with fail
              refine (between_any s 255 _).mono ?_
              rintro e w3 ⟨rfl, rfl⟩
              by_cases h3 : 0 ≤ s ∧ s ≤ 255
              · rw [decide_eq_true h3]
                go_wp2_with fail
                refine (between_any k 255 _).mono ?_
                rintro e w3 ⟨rfl, rfl⟩
                by_cases h4 : 0 ≤ k ∧ k ≤ 255
                · rw [decide_eq_true h4]
                  have hbit := form_bit s h3.1 h3.2
                  have HF : Hid (subB m f c s k = (decide (s / 32 % 2 = 1) == (m == 2))) := by
                    rw [HS.out]
                    by_cases q : s / 32 % 2 = 1 <;> by_cases q2 : m = 2
                    · rw [decide_eq_true q, beq_iff_eq.2 q2]; exact decide_eq_true (by omega)
                    · rw [decide_eq_true q, beq_eq_false_iff_ne.2 q2]; exact decide_eq_false (by omega)
                    · rw [decide_eq_false q, beq_iff_eq.2 q2]; exact decide_eq_false (by omega)
                    · rw [decide_eq_false q, beq_eq_false_iff_ne.2 q2]; exact decide_eq_true (by omega)
                  generalize decide (s / 32 % 2 = 1) = B1 at *
                  generalize hB2 : (m == 2) = B2 at *
                  go_wp2_with fail
                  go_ret
                  exact ⟨by rw [HV.out, HF.out]; rfl, by (repeat (first | exact Below.refl _ _ | assumption | refine balloc ?_ _ | refine bdrew ?_ | refine bdrN ?_ _ | refine bset _ (by first | omega | (simp; done) | (simp; omega)) ?_ | refine brow _ _ (by first | omega | (simp; done) | (simp; omega)) ?_ | (apply bthen; rotate_left; assumption)))⟩
                · rw [decide_eq_false h4]
                  have HF : Hid (subB m f c s k = false) := by rw [HS.out]; exact decide_eq_false (by omega)
                  go_wp2_with fail
                  go_ret
                  exact ⟨by rw [HV.out, HF.out]; rfl, by (repeat (first | exact Below.refl _ _ | assumption | refine balloc ?_ _ | refine bdrew ?_ | refine bdrN ?_ _ | refine bset _ (by first | omega | (simp; done) | (simp; omega)) ?_ | refine brow _ _ (by first | omega | (simp; done) | (simp; omega)) ?_ | (apply bthen; rotate_left; assumption)))⟩
              · rw [decide_eq_false h3]
                have HF : Hid (subB m f c s k = false) := by rw [HS.out]; exact decide_eq_false (by omega)
                go_wp2_with fail
                go_ret
                exact ⟨by rw [HV.out, HF.out]; rfl, by (repeat (first | exact Below.refl _ _ | assumption | refine balloc ?_ _ | refine bdrew ?_ | refine bdrN ?_ _ | refine bset _ (by first | omega | (simp; done) | (simp; omega)) ?_ | refine brow _ _ (by first | omega | (simp; done) | (simp; omega)) ?_ | (apply bthen; rotate_left; assumption)))⟩
            · rw [decide_eq_false h2]
              have HF : Hid (subB m f c s k = false) := by rw [HS.out]; exact decide_eq_false (by omega)
              go_wp2_with fail
              go_ret
              exact ⟨by rw [HV.out, HF.out]; rfl, by (repeat (first | exact Below.refl _ _ | assumption | refine balloc ?_ _ | refine bdrew ?_ | refine bdrN ?_ _ | refine bset _ (by first | omega | (simp; done) | (simp; omega)) ?_ | refine brow _ _ (by first | omega | (simp; done) | (simp; omega)) ?_ | (apply bthen; rotate_left; assumption)))⟩
          · rw [decide_eq_false h1]
            have HF : Hid (subB m f c s k = false) := by rw [HS.out]; exact decide_eq_false (by omega)
            go_wp2_with fail
            go_ret
            exact ⟨by rw [HV.out, HF.out]; rfl, by (repeat (first | exact Below.refl _ _ | assumption | refine balloc ?_ _ | refine bdrew ?_ | refine bdrN ?_ _ | refine bset _ (by first | omega | (simp; done) | (simp; omega)) ?_ | refine brow _ _ (by first | omega | (simp; done) | (simp; omega)) ?_ | (apply bthen; rotate_left; assumption)))⟩
      · have e1 : ((d.size : Int) != lc) = true := bne_iff_ne.2 hn
        have HV : Hid (vB l m f c s k d.size = false) := by
          unfold Hid vB
          rw [HC.out, decide_eq_false (by intro h; exact hn h.2.2.2)]; rfl
        clear hr hn
        go_enter Try.func13, Try.ntmps13
        go_wp2_with fail
        refine (HL.out _).mono ?_
        rintro e w1 ⟨rfl, hb1⟩
        obtain ⟨k0, k1, k2, k3, k4, k5, k6, kz⟩ := keep7 hb1
        go_wp2_with fail
        refine (HM.out _).mono ?_
        rintro e w2 ⟨rfl, hb2⟩
        replace k0 := below_cell hb2 (alloc_cell k0); replace k1 := below_cell hb2 (alloc_cell k1); replace k2 := below_cell hb2 (alloc_cell k2); replace k3 := below_cell hb2 (alloc_cell k3); replace k4 := below_cell hb2 (alloc_cell k4); replace k5 := below_cell hb2 (alloc_cell k5); replace k6 := below_cell hb2 (alloc_cell k6)
        obtain ⟨j0, j1, j2, j3, jz⟩ := keep4 hb2
        have kz2 := Nat.lt_trans kz jz
        go_wp2_with fail
        go_ret
        exact ⟨by rw [HV.out]; rfl, by (repeat (first | exact Below.refl _ _ | assumption | refine balloc ?_ _ | refine bdrew ?_ | refine bdrN ?_ _ | refine bset _ (by first | omega | (simp; done) | (simp; omega)) ?_ | refine brow _ _ (by first | omega | (simp; done) | (simp; omega)) ?_ | (apply bthen; rotate_left; assumption)))⟩
    · rw [decide_eq_false hr] at he
      have HV : Hid (vB l m f c s k d.size = false) := by
        unfold Hid vB
        rw [decide_eq_false (by omega)]; rfl
      clear hr
      go_enter Try.func13, Try.ntmps13
      go_wp2_with fail
      refine (HL.out _).mono ?_
      rintro e w1 ⟨rfl, hb1⟩
      obtain ⟨k0, k1, k2, k3, k4, k5, k6, kz⟩ := keep7 hb1
      go_wp2_with fail
      refine (HM.out _).mono ?_
      rintro e w2 ⟨rfl, hb2⟩
      replace k0 := below_cell hb2 (alloc_cell k0); replace k1 := below_cell hb2 (alloc_cell k1); replace k2 := below_cell hb2 (alloc_cell k2); replace k3 := below_cell hb2 (alloc_cell k3); replace k4 := below_cell hb2 (alloc_cell k4); replace k5 := below_cell hb2 (alloc_cell k5); replace k6 := below_cell hb2 (alloc_cell k6)
      obtain ⟨j0, j1, j2, j3, jz⟩ := keep4 hb2
      have kz2 := Nat.lt_trans kz jz
      go_wp2_with fail
      go_ret
      exact ⟨by rw [HV.out]; rfl, by (repeat (first | exact Below.refl _ _ | assumption | refine balloc ?_ _ | refine bdrew ?_ | refine bdrN ?_ _ | refine bset _ (by first | omega | (simp; done) | (simp; omega)) ?_ | refine brow _ _ (by first | omega | (simp; done) | (simp; omega)) ?_ | (apply bthen; rotate_left; assumption)))⟩
  · have HL := hid (fun w => layouts_no m h w)
    have HV : Hid (vB l m f c s k d.size = false) := by
      unfold Hid vB
      rw [decide_eq_false (by omega)]; rfl
    clear h he
    go_enter Try.func13, Try.ntmps13
    go_wp2_with fail
    refine (HL.out _).mono ?_
    rintro e w1 ⟨rfl, hb1⟩
    obtain ⟨k0, k1, k2, k3, k4, k5, k6, kz⟩ := keep7 hb1
    go_wp2_with fail
    refine (HM.out _).mono ?_
    rintro e w2 ⟨rfl, hb2⟩
    go_wp2_with fail
    go_ret
    exact ⟨by rw [HV.out]; rfl, by (repeat (first | exact Below.refl _ _ | assumption | refine balloc ?_ _ | refine bdrew ?_ | refine bdrN ?_ _ | refine bset _ (by first | omega | (simp; done) | (simp; omega)) ?_ | refine brow _ _ (by first | omega | (simp; done) | (simp; omega)) ?_ | (apply bthen; rotate_left; assumption)))⟩
end Go.Proofs.Ytieblfpdibpeeaa

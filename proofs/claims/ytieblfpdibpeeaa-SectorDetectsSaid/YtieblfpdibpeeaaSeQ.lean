/-
  The walk of the law SectorBuilds.
-/
import Derived.Test.YtieblfpdibpeeaaSeN
namespace Go.Proofs.Ytieblfpdibpeeaa
open Go.RowKit Go.Lib
set_option linter.unusedVariables false
set_option linter.unusedSimpArgs false

/-- What is held of the world while a region reads a sector next to calls. -/
theorem sec_keep {w w' w2 : World} {g : Nat} {a0 a1 a2 a3 a4 a5 a6 : Value} (h : w'.cell? ⟨g, 0, none⟩ = some a0 ∧ w'.cell? ⟨g, 1, none⟩ = some a1 ∧ w'.cell? ⟨g, 2, none⟩ = some a2 ∧ w'.cell? ⟨g, 3, none⟩ = some a3 ∧ w'.cell? ⟨g, 4, none⟩ = some a4 ∧ w'.cell? ⟨g, 5, none⟩ = some a5 ∧ w'.cell? ⟨g, 6, none⟩ = some a6 ∧ Below w.heap.size w w') (hb : Below w'.heap.size w' w2) :
    w2.cell? ⟨g, 0, none⟩ = some a0 ∧ w2.cell? ⟨g, 1, none⟩ = some a1 ∧ w2.cell? ⟨g, 2, none⟩ = some a2 ∧ w2.cell? ⟨g, 3, none⟩ = some a3 ∧ w2.cell? ⟨g, 4, none⟩ = some a4 ∧ w2.cell? ⟨g, 5, none⟩ = some a5 ∧ w2.cell? ⟨g, 6, none⟩ = some a6 ∧ Below w.heap.size w w2 := by
  obtain ⟨h0, h1, h2, h3, h4, h5, h6, h7⟩ := h
  exact ⟨below_cell hb h0, below_cell hb h1, below_cell hb h2, below_cell hb h3, below_cell hb h4, below_cell hb h5, below_cell hb h6, bthen h7 hb⟩

theorem SectorBuilds_walk (l m f c s k : Int) (d : ByteArray) (hl : -9223372036854775808 ≤ l ∧ l ≤ 9223372036854775807) (w : World) :
    Calls Try.prog 3 #[.agg #[.int .i64 l, .int .i64 m, .int .i64 f, .int .i64 c, .int .i64 s, .int .i64 k, .string d]] w fun e w' => e = .returned (.bool true) ∧ Below w.heap.size w w' := by
  by_cases hd : 2400 < d.size
  · have d1 : decide (2400 < (d.size : Int)) = true := decide_eq_true (by omega)
    clear hd
    go_enter Try.func3, Try.ntmps3
    go_wp2_with fail
    refine (awake_any _).mono ?_
    rintro e w1 ⟨rfl, hb1⟩
    obtain ⟨k0, k1, k2, k3, k4, k5, k6, kz⟩ := keep7 hb1
    go_wp2_with fail
    go_ret
    exact ⟨rfl, by (repeat (first | exact Below.refl _ _ | assumption | refine balloc ?_ _ | refine bdrew ?_ | refine bdrN ?_ _ | refine bset _ (by first | omega | (simp; done) | (simp; omega)) ?_ | refine brow _ _ (by first | omega | (simp; done) | (simp; omega)) ?_ | (apply bthen; rotate_left; assumption)))⟩
  · have d1 : decide (2400 < (d.size : Int)) = false := decide_eq_false (by omega)
    have H1 := hid (fun w => Build_any l m f c s k d hl (by omega) w)
    have H2 := hid (fun w => refBuild_any l m f c s k d hl (by omega) w)
    have H3 := hid (fun w => Valid_any l m f c s k d hl (by omega) w)
    have H4 := hid (fun w => refValid_any l m f c s k d hl (by omega) w)
    generalize (buildE l m f c s k d).1 = X at *
    generalize (buildE l m f c s k d).2 = E at *
    generalize vB l m f c s k d.size = V at *
    clear hd
    go_enter Try.func3, Try.ntmps3
    go_wp2_with fail
    refine (awake_any _).mono ?_
    rintro e w1 ⟨rfl, hb1⟩
    obtain ⟨k0, k1, k2, k3, k4, k5, k6, kz⟩ := keep7 hb1
    have L1 : Below w.heap.size w w1 := by (repeat (first | exact Below.refl _ _ | assumption | refine balloc ?_ _ | refine bdrew ?_ | refine bdrN ?_ _ | refine bset _ (by first | omega | (simp; done) | (simp; omega)) ?_ | refine brow _ _ (by first | omega | (simp; done) | (simp; omega)) ?_ | (apply bthen; rotate_left; assumption)))
    clear hb1
    go_wp2_with fail
    refine (H1.out _).mono ?_
    rintro e w2 ⟨rfl, hb2⟩
    replace k0 := below_cell hb2 k0; replace k1 := below_cell hb2 k1; replace k2 := below_cell hb2 k2; replace k3 := below_cell hb2 k3; replace k4 := below_cell hb2 k4; replace k5 := below_cell hb2 k5; replace k6 := below_cell hb2 k6
    have L2 := bthen L1 hb2
    clear hb2 L1
    go_wp2_with fail
    refine (H2.out _).mono ?_
    rintro e w3 ⟨rfl, hb3⟩
    replace k0 := below_cell hb3 k0; replace k1 := below_cell hb3 k1; replace k2 := below_cell hb3 k2; replace k3 := below_cell hb3 k3; replace k4 := below_cell hb3 k4; replace k5 := below_cell hb3 k5; replace k6 := below_cell hb3 k6
    have L3 := bthen L2 hb3
    clear hb3 L2
    go_wp2_with fail
    have hS := And.intro k0 (And.intro k1 (And.intro k2 (And.intro k3 (And.intro k4 (And.intro k5 (And.intro k6 L3))))))
    have q1 : (X.toList == X.toList) = true := beq_self_eq_true _
    have q2 : (V == V) = true := by cases V <;> rfl
    clear k0 k1 k2 k3 k4 k5 k6 L3
    go_region_held3 (fun w' => w'.cell? ⟨w.heap.size, 0, none⟩ = some (.int .i64 l) ∧ w'.cell? ⟨w.heap.size, 1, none⟩ = some (.int .i64 m) ∧ w'.cell? ⟨w.heap.size, 2, none⟩ = some (.int .i64 f) ∧ w'.cell? ⟨w.heap.size, 3, none⟩ = some (.int .i64 c) ∧ w'.cell? ⟨w.heap.size, 4, none⟩ = some (.int .i64 s) ∧ w'.cell? ⟨w.heap.size, 5, none⟩ = some (.int .i64 k) ∧ w'.cell? ⟨w.heap.size, 6, none⟩ = some (.string d) ∧ Below w.heap.size w w')
      (first | exact hS | exact sec_keep hS (bdrew (Below.refl _ _)) | exact sec_keep (by assumption) (by assumption) | assumption)
      (first | (go_at_call 13; refine (H3.out _).mono ?_; rintro e w4 ⟨rfl, hb4⟩) | (go_at_call 14; refine (H4.out _).mono ?_; rintro e w4 ⟨rfl, hb4⟩))
    all_goals
      rename_i hh
      go_wp2_with fail
      go_ret
      exact ⟨rfl, hh.2.2.2.2.2.2.2⟩
end Go.Proofs.Ytieblfpdibpeeaa

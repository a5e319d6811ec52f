/-
  Contracts of Decode (package address and the reference).
-/
import Derived.Test.YtieblfpdibpeeaaSeU
import Derived.Test.YtieblfpdibpeeaaSeX
namespace Go.Proofs.Ytieblfpdibpeeaa
open Go.RowKit Go.Lib
set_option linter.unusedVariables false
set_option linter.unusedSimpArgs false

set_option maxRecDepth 20000 in
theorem Decode_any (r : ByteArray) (hs : r.size = 2352) (w : World) :
    Calls Try.prog 40 #[.string r, .int .i64 12] w fun e w' => e = .returned (.tuple #[.agg #[.int .i64 (dE (at_ r 12) (at_ r 13) (at_ r 14)).1, .int .i64 (dE (at_ r 12) (at_ r 13) (at_ r 14)).2.1, .int .i64 (dE (at_ r 12) (at_ r 13) (at_ r 14)).2.2.1], .int .i64 (dE (at_ r 12) (at_ r 13) (at_ r 14)).2.2.2]) ∧ Below w.heap.size w w' := by
  have n12 : 12 < r.size := by omega
  have n13 : 13 < r.size := by omega
  have n14 : 14 < r.size := by omega
  have g12 := at_get r 12 n12
  have g13 := at_get r 13 n13
  have g14 := at_get r 14 n14
  have l12 : (12 : Int) < (r.size : Int) := by omega
  have l13 : (13 : Int) < (r.size : Int) := by omega
  have l14 : (14 : Int) < (r.size : Int) := by omega
  have i0 : IntKind.i64.wrap ((r.size : Int) - 3) = 2349 := by rw [hs]; rfl
  have HF0 := hid (fun w => FromBCD_any (at_ r 12) (at_lt r 12) w)
  have HF1 := hid (fun w => FromBCD_any (at_ r 13) (at_lt r 13) w)
  have HF2 := hid (fun w => FromBCD_any (at_ r 14) (at_lt r 14) w)
  have HJ := hid (fun w => join_any (fb (at_ r 12)).1 (fb (at_ r 13)).1 (fb (at_ r 14)).1 (fb_range _) (fb_range _) (fb_range _) w)
  generalize at_ r 12 = a at *
  generalize at_ r 13 = b at *
  generalize at_ r 14 = c at *
  clear hs
  by_cases h0 : (fb a).2 = 0
  · have d1 : ((fb a).2 != 0) = false := by rw [h0]; rfl
    by_cases h1 : (fb b).2 = 0
    · have d2 : ((fb b).2 != 0) = false := by rw [h1]; rfl
      by_cases h2 : (fb c).2 = 0
      · have d3 : ((fb c).2 != 0) = false := by rw [h2]; rfl
        by_cases h3 : okM (fb a).1 (fb b).1 (fb c).1 = true
        · have HD : Hid (dE a b c = ((fb a).1, (fb b).1, (fb c).1, 0)) := if_pos ⟨h0, h1, h2, h3⟩
          rw [h3] at HJ
          clear h0 h1 h2 h3
          generalize (fb a).1 = x at *
          generalize (fb b).1 = y at *
          generalize (fb c).1 = z at *
          generalize (fb a).2 = p at *
          generalize (fb b).2 = q at *
          generalize (fb c).2 = s at *
          go_enter Try.func40, Try.ntmps40
          go_wp2_with fail
          refine wp_loop_rounds 4 ?_
          rw [rounds_succ]
          go_wp2_with fail
          refine (HF0.out _).mono ?_
          rintro e w1 ⟨rfl, rfl⟩
          go_wp2_with fail
          rw [rounds_succ]
          go_wp2_with fail
          refine (HF1.out _).mono ?_
          rintro e w1 ⟨rfl, rfl⟩
          go_wp2_with fail
          rw [rounds_succ]
          go_wp2_with fail
          refine (HF2.out _).mono ?_
          rintro e w1 ⟨rfl, rfl⟩
          go_wp2_with fail
          rw [rounds_succ]
          go_wp2_with fail
          refine (HJ.out _).mono ?_
          rintro e w1 ⟨rfl, hb⟩
          have z0 : w.heap.size < w1.heap.size := by have := hb.size; simp at this; omega
          have k0 : w1.cell? ⟨w.heap.size, 0, none⟩ = some (.int .i64 0) := below_cell hb (by simp)
          have k1 : w1.cell? ⟨w.heap.size, 1, none⟩ = some (.int .i64 0) := below_cell hb (by simp)
          have k2 : w1.cell? ⟨w.heap.size, 2, none⟩ = some (.int .i64 0) := below_cell hb (by simp)
          have f0 : w1.frozen? ⟨w.heap.size, 0, none⟩ = false := (hb.frozen (p := ⟨w.heap.size, 0, none⟩) (by simp; omega)).trans (by simp)
          have f1 : w1.frozen? ⟨w.heap.size, 1, none⟩ = false := (hb.frozen (p := ⟨w.heap.size, 1, none⟩) (by simp; omega)).trans (by simp)
          have f2 : w1.frozen? ⟨w.heap.size, 2, none⟩ = false := (hb.frozen (p := ⟨w.heap.size, 2, none⟩) (by simp; omega)).trans (by simp)
          have L : Below w.heap.size w w1 := by (repeat (first | exact Below.refl _ _ | assumption | refine balloc ?_ _ | refine bdrew ?_ | refine bdrN ?_ _ | refine bset _ (by first | omega | (simp; done) | (simp; omega)) ?_ | refine brow _ _ (by first | omega | (simp; done) | (simp; omega)) ?_ | (apply bthen; rotate_left; assumption)))
          clear hb
          go_wp2_with fail
          refine bodyPost_ret (v := .tuple #[.agg #[.int .i64 x, .int .i64 y, .int .i64 z], .int .i64 0]) (by simp [results, Try.results40, go_sem, *]) rfl ⟨by rw [HD.out], ?_⟩
          (repeat (first | exact Below.refl _ _ | assumption | refine balloc ?_ _ | refine bdrew ?_ | refine bdrN ?_ _ | refine bset _ (by first | omega | (simp; done) | (simp; omega)) ?_ | refine brow _ _ (by first | omega | (simp; done) | (simp; omega)) ?_ | (apply bthen; rotate_left; assumption)))
        · have h3' : okM (fb a).1 (fb b).1 (fb c).1 = false := by simpa using h3
          have HD : Hid (dE a b c = (0, 0, 0, 10)) := if_neg (fun h => h3 h.2.2.2)
          rw [h3'] at HJ
          clear h0 h1 h2 h3 h3'
          generalize (fb a).1 = x at *
          generalize (fb b).1 = y at *
          generalize (fb c).1 = z at *
          generalize (fb a).2 = p at *
          generalize (fb b).2 = q at *
          generalize (fb c).2 = s at *
          go_enter Try.func40, Try.ntmps40
          go_wp2_with fail
          refine wp_loop_rounds 4 ?_
          rw [rounds_succ]
          go_wp2_with fail
          refine (HF0.out _).mono ?_
          rintro e w1 ⟨rfl, rfl⟩
          go_wp2_with fail
          rw [rounds_succ]
          go_wp2_with fail
          refine (HF1.out _).mono ?_
          rintro e w1 ⟨rfl, rfl⟩
          go_wp2_with fail
          rw [rounds_succ]
          go_wp2_with fail
          refine (HF2.out _).mono ?_
          rintro e w1 ⟨rfl, rfl⟩
          go_wp2_with fail
          rw [rounds_succ]
          go_wp2_with fail
          refine (HJ.out _).mono ?_
          rintro e w1 ⟨rfl, hb⟩
          have z0 : w.heap.size < w1.heap.size := by have := hb.size; simp at this; omega
          have k0 : w1.cell? ⟨w.heap.size, 0, none⟩ = some (.int .i64 0) := below_cell hb (by simp)
          have k1 : w1.cell? ⟨w.heap.size, 1, none⟩ = some (.int .i64 0) := below_cell hb (by simp)
          have k2 : w1.cell? ⟨w.heap.size, 2, none⟩ = some (.int .i64 0) := below_cell hb (by simp)
          have f0 : w1.frozen? ⟨w.heap.size, 0, none⟩ = false := (hb.frozen (p := ⟨w.heap.size, 0, none⟩) (by simp; omega)).trans (by simp)
          have f1 : w1.frozen? ⟨w.heap.size, 1, none⟩ = false := (hb.frozen (p := ⟨w.heap.size, 1, none⟩) (by simp; omega)).trans (by simp)
          have f2 : w1.frozen? ⟨w.heap.size, 2, none⟩ = false := (hb.frozen (p := ⟨w.heap.size, 2, none⟩) (by simp; omega)).trans (by simp)
          have L : Below w.heap.size w w1 := by (repeat (first | exact Below.refl _ _ | assumption | refine balloc ?_ _ | refine bdrew ?_ | refine bdrN ?_ _ | refine bset _ (by first | omega | (simp; done) | (simp; omega)) ?_ | refine brow _ _ (by first | omega | (simp; done) | (simp; omega)) ?_ | (apply bthen; rotate_left; assumption)))
          clear hb
          go_wp2_with fail
          refine bodyPost_ret (v := .tuple #[.agg #[.int .i64 0, .int .i64 0, .int .i64 0], .int .i64 10]) (by simp [results, Try.results40, go_sem, *]) rfl ⟨by rw [HD.out], ?_⟩
          (repeat (first | exact Below.refl _ _ | assumption | refine balloc ?_ _ | refine bdrew ?_ | refine bdrN ?_ _ | refine bset _ (by first | omega | (simp; done) | (simp; omega)) ?_ | refine brow _ _ (by first | omega | (simp; done) | (simp; omega)) ?_ | (apply bthen; rotate_left; assumption)))
      · have HD : Hid (dE a b c = (0, 0, 0, 10)) := if_neg (fun h => h2 h.2.2.1)
        have d3 : ((fb c).2 != 0) = true := bne_iff_ne.2 h2
        clear h0 h1 h2 HJ
        generalize (fb a).1 = x at *
        generalize (fb b).1 = y at *
        generalize (fb c).1 = z at *
        generalize (fb a).2 = p at *
        generalize (fb b).2 = q at *
        generalize (fb c).2 = s at *
        go_enter Try.func40, Try.ntmps40
        go_wp2_with fail
        refine wp_loop_rounds 4 ?_
        rw [rounds_succ]
        go_wp2_with fail
        refine (HF0.out _).mono ?_
        rintro e w1 ⟨rfl, rfl⟩
        go_wp2_with fail
        rw [rounds_succ]
        go_wp2_with fail
        refine (HF1.out _).mono ?_
        rintro e w1 ⟨rfl, rfl⟩
        go_wp2_with fail
        rw [rounds_succ]
        go_wp2_with fail
        refine (HF2.out _).mono ?_
        rintro e w1 ⟨rfl, rfl⟩
        go_wp2_with fail
        refine bodyPost_ret (v := .tuple #[.agg #[.int .i64 0, .int .i64 0, .int .i64 0], .int .i64 10]) (by simp [results, Try.results40, go_sem]) rfl ⟨by rw [HD.out], ?_⟩
        (repeat (first | exact Below.refl _ _ | assumption | refine balloc ?_ _ | refine bdrew ?_ | refine bdrN ?_ _ | refine bset _ (by first | omega | (simp; done) | (simp; omega)) ?_ | refine brow _ _ (by first | omega | (simp; done) | (simp; omega)) ?_ | (apply bthen; rotate_left; assumption)))
    · have HD : Hid (dE a b c = (0, 0, 0, 10)) := if_neg (fun h => h1 h.2.1)
      have d2 : ((fb b).2 != 0) = true := bne_iff_ne.2 h1
      clear h0 h1 HJ HF2
      generalize (fb a).1 = x at *
      generalize (fb b).1 = y at *
      generalize (fb a).2 = p at *
      generalize (fb b).2 = q at *
      go_enter Try.func40, Try.ntmps40
      go_wp2_with fail
      refine wp_loop_rounds 4 ?_
      rw [rounds_succ]
      go_wp2_with fail
      refine (HF0.out _).mono ?_
      rintro e w1 ⟨rfl, rfl⟩
      go_wp2_with fail
      rw [rounds_succ]
      go_wp2_with fail
      refine (HF1.out _).mono ?_
      rintro e w1 ⟨rfl, rfl⟩
      go_wp2_with fail
      refine bodyPost_ret (v := .tuple #[.agg #[.int .i64 0, .int .i64 0, .int .i64 0], .int .i64 10]) (by simp [results, Try.results40, go_sem]) rfl ⟨by rw [HD.out], ?_⟩
      (repeat (first | exact Below.refl _ _ | assumption | refine balloc ?_ _ | refine bdrew ?_ | refine bdrN ?_ _ | refine bset _ (by first | omega | (simp; done) | (simp; omega)) ?_ | refine brow _ _ (by first | omega | (simp; done) | (simp; omega)) ?_ | (apply bthen; rotate_left; assumption)))
  · have HD : Hid (dE a b c = (0, 0, 0, 10)) := if_neg (fun h => h0 h.1)
    have d1 : ((fb a).2 != 0) = true := bne_iff_ne.2 h0
    clear h0 HJ
    generalize (fb a).1 = x at *
    generalize (fb a).2 = p at *
    go_enter Try.func40, Try.ntmps40
    go_wp2_with fail
    refine wp_loop_rounds 4 ?_
    rw [rounds_succ]
    go_wp2_with fail
    refine (HF0.out _).mono ?_
    rintro e w1 ⟨rfl, rfl⟩
    go_wp2_with fail
    refine bodyPost_ret (v := .tuple #[.agg #[.int .i64 0, .int .i64 0, .int .i64 0], .int .i64 10]) (by simp [results, Try.results40, go_sem]) rfl ⟨by rw [HD.out], ?_⟩
    (repeat (first | exact Below.refl _ _ | assumption | refine balloc ?_ _ | refine bdrew ?_ | refine bdrN ?_ _ | refine bset _ (by first | omega | (simp; done) | (simp; omega)) ?_ | refine brow _ _ (by first | omega | (simp; done) | (simp; omega)) ?_ | (apply bthen; rotate_left; assumption)))

theorem refAValid_any (m s f : Int) (hm : 0 ≤ m ∧ m ≤ 99) (hs : 0 ≤ s ∧ s ≤ 99) (hf : 0 ≤ f ∧ f ≤ 99) (w : World) : Calls Try.prog 57 #[.agg #[.int .i64 m, .int .i64 s, .int .i64 f]] w fun e w' => e = .returned (.bool (okM m s f)) ∧ Below w.heap.size w w' := by
  have a0 : decide (0 ≤ m) = true := decide_eq_true hm.1
  have a1 : decide (m ≤ 99) = true := decide_eq_true hm.2
  have a2 : decide (0 ≤ s) = true := decide_eq_true hs.1
  have a3 : decide (0 ≤ f) = true := decide_eq_true hf.1
  by_cases h1 : s ≤ 59
  · have b1 : decide (s ≤ 59) = true := decide_eq_true h1
    by_cases h2 : f ≤ 74
    · have b2 : decide (f ≤ 74) = true := decide_eq_true h2
      have HO : Hid (okM m s f = true) := decide_eq_true (by omega)
      go_enter Try.func57, Try.ntmps57
      go_wp2_with fail
      go_ret
      exact ⟨by rw [HO.out]; rfl, by (repeat (first | exact Below.refl _ _ | assumption | refine balloc ?_ _ | refine bdrew ?_ | refine bdrN ?_ _ | refine bset _ (by first | omega | (simp; done) | (simp; omega)) ?_ | refine brow _ _ (by first | omega | (simp; done) | (simp; omega)) ?_ | (apply bthen; rotate_left; assumption)))⟩
    · have b2 : decide (f ≤ 74) = false := decide_eq_false h2
      have HO : Hid (okM m s f = false) := decide_eq_false (by omega)
      go_enter Try.func57, Try.ntmps57
      go_wp2_with fail
      go_ret
      exact ⟨by rw [HO.out]; rfl, by (repeat (first | exact Below.refl _ _ | assumption | refine balloc ?_ _ | refine bdrew ?_ | refine bdrN ?_ _ | refine bset _ (by first | omega | (simp; done) | (simp; omega)) ?_ | refine brow _ _ (by first | omega | (simp; done) | (simp; omega)) ?_ | (apply bthen; rotate_left; assumption)))⟩
  · have b1 : decide (s ≤ 59) = false := decide_eq_false h1
    have HO : Hid (okM m s f = false) := decide_eq_false (by omega)
    go_enter Try.func57, Try.ntmps57
    go_wp2_with fail
    go_ret
    exact ⟨by rw [HO.out]; rfl, by (repeat (first | exact Below.refl _ _ | assumption | refine balloc ?_ _ | refine bdrew ?_ | refine bdrN ?_ _ | refine bset _ (by first | omega | (simp; done) | (simp; omega)) ?_ | refine brow _ _ (by first | omega | (simp; done) | (simp; omega)) ?_ | (apply bthen; rotate_left; assumption)))⟩

set_option maxRecDepth 20000 in
theorem refDecode_any (r : ByteArray) (hs : r.size = 2352) (w : World) :
    Calls Try.prog 42 #[.string r, .int .i64 12] w fun e w' => e = .returned (.tuple #[.agg #[.int .i64 (dE (at_ r 12) (at_ r 13) (at_ r 14)).1, .int .i64 (dE (at_ r 12) (at_ r 13) (at_ r 14)).2.1, .int .i64 (dE (at_ r 12) (at_ r 13) (at_ r 14)).2.2.1], .int .i64 (dE (at_ r 12) (at_ r 13) (at_ r 14)).2.2.2]) ∧ Below w.heap.size w w' := by
  have n12 : 12 < r.size := by omega
  have n13 : 13 < r.size := by omega
  have n14 : 14 < r.size := by omega
  have g12 := at_get r 12 n12
  have g13 := at_get r 13 n13
  have g14 := at_get r 14 n14
  have l12 : (12 : Int) < (r.size : Int) := by omega
  have l13 : (13 : Int) < (r.size : Int) := by omega
  have l14 : (14 : Int) < (r.size : Int) := by omega
  have i0 : IntKind.i64.wrap ((r.size : Int) - 12) = 2340 := by rw [hs]; rfl
  have j0 : decide ((r.size : Int) < 12) = false := decide_eq_false (by omega)
  have HF0 := hid (fun w => refFromBCD_any (at_ r 12) (at_lt r 12) w)
  have HF1 := hid (fun w => refFromBCD_any (at_ r 13) (at_lt r 13) w)
  have HF2 := hid (fun w => refFromBCD_any (at_ r 14) (at_lt r 14) w)
  have HJ := hid (fun w => refAValid_any (fb (at_ r 12)).1 (fb (at_ r 13)).1 (fb (at_ r 14)).1 (fb_range _) (fb_range _) (fb_range _) w)
  generalize at_ r 12 = a at *
  generalize at_ r 13 = b at *
  generalize at_ r 14 = c at *
  clear hs
  by_cases h0 : (fb a).2 = 0
  · have d1 : ((fb a).2 != 0) = false := by rw [h0]; rfl
    by_cases h1 : (fb b).2 = 0
    · have d2 : ((fb b).2 != 0) = false := by rw [h1]; rfl
      by_cases h2 : (fb c).2 = 0
      · have d3 : ((fb c).2 != 0) = false := by rw [h2]; rfl
        by_cases h3 : okM (fb a).1 (fb b).1 (fb c).1 = true
        · have HD : Hid (dE a b c = ((fb a).1, (fb b).1, (fb c).1, 0)) := if_pos ⟨h0, h1, h2, h3⟩
          rw [h3] at HJ
          clear h0 h1 h2 h3
          generalize (fb a).1 = x at *
          generalize (fb b).1 = y at *
          generalize (fb c).1 = z at *
          generalize (fb a).2 = p at *
          generalize (fb b).2 = q at *
          generalize (fb c).2 = s at *
          go_enter Try.func42, Try.ntmps42
          go_wp2_with fail
          refine (HF0.out _).mono ?_
          rintro e w1 ⟨rfl, rfl⟩
          go_wp2_with fail
          refine (HF1.out _).mono ?_
          rintro e w1 ⟨rfl, rfl⟩
          go_wp2_with fail
          refine (HF2.out _).mono ?_
          rintro e w1 ⟨rfl, rfl⟩
          go_wp2_with fail
          refine (HJ.out _).mono ?_
          rintro e w1 ⟨rfl, hb⟩
          have z0 : w.heap.size < w1.heap.size := by have := hb.size; simp at this; omega
          have z1 : w.heap.size + 1 < w1.heap.size := by have := hb.size; simp at this; omega
          have k0 : w1.cell? ⟨w.heap.size, 0, none⟩ = some (.int .i64 0) := below_cell hb (by simp)
          have f0 : w1.frozen? ⟨w.heap.size, 0, none⟩ = false := (hb.frozen (p := ⟨w.heap.size, 0, none⟩) (by simp; omega)).trans (by simp)
          have k1 : w1.cell? ⟨w.heap.size, 1, none⟩ = some (.int .i64 0) := below_cell hb (by simp)
          have f1 : w1.frozen? ⟨w.heap.size, 1, none⟩ = false := (hb.frozen (p := ⟨w.heap.size, 1, none⟩) (by simp; omega)).trans (by simp)
          have k2 : w1.cell? ⟨w.heap.size, 2, none⟩ = some (.int .i64 0) := below_cell hb (by simp)
          have f2 : w1.frozen? ⟨w.heap.size, 2, none⟩ = false := (hb.frozen (p := ⟨w.heap.size, 2, none⟩) (by simp; omega)).trans (by simp)
          have m0 : w1.cell? ⟨w.heap.size + 1, 0, none⟩ = some (.int .i64 x) := below_cell hb (by simp)
          have m1 : w1.cell? ⟨w.heap.size + 1, 1, none⟩ = some (.int .i64 y) := below_cell hb (by simp)
          have m2 : w1.cell? ⟨w.heap.size + 1, 2, none⟩ = some (.int .i64 z) := below_cell hb (by simp)
          have L : Below w.heap.size w w1 := by (repeat (first | exact Below.refl _ _ | assumption | refine balloc ?_ _ | refine bdrew ?_ | refine bdrN ?_ _ | refine bset _ (by first | omega | (simp; done) | (simp; omega)) ?_ | refine brow _ _ (by first | omega | (simp; done) | (simp; omega)) ?_ | (apply bthen; rotate_left; assumption)))
          clear hb
          go_wp2_with fail
          refine bodyPost_ret (v := .tuple #[.agg #[.int .i64 x, .int .i64 y, .int .i64 z], .int .i64 0]) (by simp [results, Try.results42, go_sem, *]) rfl ⟨by rw [HD.out], ?_⟩
          (repeat (first | exact Below.refl _ _ | assumption | refine balloc ?_ _ | refine bdrew ?_ | refine bdrN ?_ _ | refine bset _ (by first | omega | (simp; done) | (simp; omega)) ?_ | refine brow _ _ (by first | omega | (simp; done) | (simp; omega)) ?_ | (apply bthen; rotate_left; assumption)))
        · have h3' : okM (fb a).1 (fb b).1 (fb c).1 = false := by simpa using h3
          have HD : Hid (dE a b c = (0, 0, 0, 10)) := if_neg (fun h => h3 h.2.2.2)
          rw [h3'] at HJ
          clear h0 h1 h2 h3 h3'
          generalize (fb a).1 = x at *
          generalize (fb b).1 = y at *
          generalize (fb c).1 = z at *
          generalize (fb a).2 = p at *
          generalize (fb b).2 = q at *
          generalize (fb c).2 = s at *
          go_enter Try.func42, Try.ntmps42
          go_wp2_with fail
          refine (HF0.out _).mono ?_
          rintro e w1 ⟨rfl, rfl⟩
          go_wp2_with fail
          refine (HF1.out _).mono ?_
          rintro e w1 ⟨rfl, rfl⟩
          go_wp2_with fail
          refine (HF2.out _).mono ?_
          rintro e w1 ⟨rfl, rfl⟩
          go_wp2_with fail
          refine (HJ.out _).mono ?_
          rintro e w1 ⟨rfl, hb⟩
          have z0 : w.heap.size < w1.heap.size := by have := hb.size; simp at this; omega
          have z1 : w.heap.size + 1 < w1.heap.size := by have := hb.size; simp at this; omega
          have k0 : w1.cell? ⟨w.heap.size, 0, none⟩ = some (.int .i64 0) := below_cell hb (by simp)
          have f0 : w1.frozen? ⟨w.heap.size, 0, none⟩ = false := (hb.frozen (p := ⟨w.heap.size, 0, none⟩) (by simp; omega)).trans (by simp)
          have k1 : w1.cell? ⟨w.heap.size, 1, none⟩ = some (.int .i64 0) := below_cell hb (by simp)
          have f1 : w1.frozen? ⟨w.heap.size, 1, none⟩ = false := (hb.frozen (p := ⟨w.heap.size, 1, none⟩) (by simp; omega)).trans (by simp)
          have k2 : w1.cell? ⟨w.heap.size, 2, none⟩ = some (.int .i64 0) := below_cell hb (by simp)
          have f2 : w1.frozen? ⟨w.heap.size, 2, none⟩ = false := (hb.frozen (p := ⟨w.heap.size, 2, none⟩) (by simp; omega)).trans (by simp)
          have m0 : w1.cell? ⟨w.heap.size + 1, 0, none⟩ = some (.int .i64 x) := below_cell hb (by simp)
          have m1 : w1.cell? ⟨w.heap.size + 1, 1, none⟩ = some (.int .i64 y) := below_cell hb (by simp)
          have m2 : w1.cell? ⟨w.heap.size + 1, 2, none⟩ = some (.int .i64 z) := below_cell hb (by simp)
          have L : Below w.heap.size w w1 := by (repeat (first | exact Below.refl _ _ | assumption | refine balloc ?_ _ | refine bdrew ?_ | refine bdrN ?_ _ | refine bset _ (by first | omega | (simp; done) | (simp; omega)) ?_ | refine brow _ _ (by first | omega | (simp; done) | (simp; omega)) ?_ | (apply bthen; rotate_left; assumption)))
          clear hb
          go_wp2_with fail
          refine bodyPost_ret (v := .tuple #[.agg #[.int .i64 0, .int .i64 0, .int .i64 0], .int .i64 10]) (by simp [results, Try.results42, go_sem, *]) rfl ⟨by rw [HD.out], ?_⟩
          (repeat (first | exact Below.refl _ _ | assumption | refine balloc ?_ _ | refine bdrew ?_ | refine bdrN ?_ _ | refine bset _ (by first | omega | (simp; done) | (simp; omega)) ?_ | refine brow _ _ (by first | omega | (simp; done) | (simp; omega)) ?_ | (apply bthen; rotate_left; assumption)))
      · have d3 : ((fb c).2 != 0) = true := bne_iff_ne.2 h2
        have HD : Hid (dE a b c = (0, 0, 0, 10)) := if_neg (fun h => h2 h.2.2.1)
        clear h0 h1 h2 HJ
        generalize (fb a).1 = x at *
        generalize (fb b).1 = y at *
        generalize (fb c).1 = z at *
        generalize (fb a).2 = p at *
        generalize (fb b).2 = q at *
        generalize (fb c).2 = s at *
        go_enter Try.func42, Try.ntmps42
        go_wp2_with fail
        refine (HF0.out _).mono ?_
        rintro e w1 ⟨rfl, rfl⟩
        go_wp2_with fail
        refine (HF1.out _).mono ?_
        rintro e w1 ⟨rfl, rfl⟩
        go_wp2_with fail
        refine (HF2.out _).mono ?_
        rintro e w1 ⟨rfl, rfl⟩
        go_wp2_with fail
        refine bodyPost_ret (v := .tuple #[.agg #[.int .i64 0, .int .i64 0, .int .i64 0], .int .i64 10]) (by simp [results, Try.results42, go_sem, *]) rfl ⟨by rw [HD.out], ?_⟩
        (repeat (first | exact Below.refl _ _ | assumption | refine balloc ?_ _ | refine bdrew ?_ | refine bdrN ?_ _ | refine bset _ (by first | omega | (simp; done) | (simp; omega)) ?_ | refine brow _ _ (by first | omega | (simp; done) | (simp; omega)) ?_ | (apply bthen; rotate_left; assumption)))
    · have d2 : ((fb b).2 != 0) = true := bne_iff_ne.2 h1
      have HD : Hid (dE a b c = (0, 0, 0, 10)) := if_neg (fun h => h1 h.2.1)
      clear h0 h1 HJ
      generalize (fb a).1 = x at *
      generalize (fb b).1 = y at *
      generalize (fb c).1 = z at *
      generalize (fb a).2 = p at *
      generalize (fb b).2 = q at *
      generalize (fb c).2 = s at *
      go_enter Try.func42, Try.ntmps42
      go_wp2_with fail
      refine (HF0.out _).mono ?_
      rintro e w1 ⟨rfl, rfl⟩
      go_wp2_with fail
      refine (HF1.out _).mono ?_
      rintro e w1 ⟨rfl, rfl⟩
      go_wp2_with fail
      refine (HF2.out _).mono ?_
      rintro e w1 ⟨rfl, rfl⟩
      go_wp2_with fail
      refine bodyPost_ret (v := .tuple #[.agg #[.int .i64 0, .int .i64 0, .int .i64 0], .int .i64 10]) (by simp [results, Try.results42, go_sem, *]) rfl ⟨by rw [HD.out], ?_⟩
      (repeat (first | exact Below.refl _ _ | assumption | refine balloc ?_ _ | refine bdrew ?_ | refine bdrN ?_ _ | refine bset _ (by first | omega | (simp; done) | (simp; omega)) ?_ | refine brow _ _ (by first | omega | (simp; done) | (simp; omega)) ?_ | (apply bthen; rotate_left; assumption)))
  · have d1 : ((fb a).2 != 0) = true := bne_iff_ne.2 h0
    have HD : Hid (dE a b c = (0, 0, 0, 10)) := if_neg (fun h => h0 h.1)
    clear h0 HJ
    generalize (fb a).1 = x at *
    generalize (fb b).1 = y at *
    generalize (fb c).1 = z at *
    generalize (fb a).2 = p at *
    generalize (fb b).2 = q at *
    generalize (fb c).2 = s at *
    go_enter Try.func42, Try.ntmps42
    go_wp2_with fail
    refine (HF0.out _).mono ?_
    rintro e w1 ⟨rfl, rfl⟩
    go_wp2_with fail
    refine (HF1.out _).mono ?_
    rintro e w1 ⟨rfl, rfl⟩
    go_wp2_with fail
    refine (HF2.out _).mono ?_
    rintro e w1 ⟨rfl, rfl⟩
    go_wp2_with fail
    refine bodyPost_ret (v := .tuple #[.agg #[.int .i64 0, .int .i64 0, .int .i64 0], .int .i64 10]) (by simp [results, Try.results42, go_sem, *]) rfl ⟨by rw [HD.out], ?_⟩
    (repeat (first | exact Below.refl _ _ | assumption | refine balloc ?_ _ | refine bdrew ?_ | refine bdrN ?_ _ | refine bset _ (by first | omega | (simp; done) | (simp; omega)) ?_ | refine brow _ _ (by first | omega | (simp; done) | (simp; omega)) ?_ | (apply bthen; rotate_left; assumption)))
end Go.Proofs.Ytieblfpdibpeeaa

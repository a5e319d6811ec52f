/-
  The walk of the law SectorCanonical.
-/
import Derived.Test.YtieblfpdibpeeaaSPf
namespace Go.Proofs.Ytieblfpdibpeeaa
open Go.RowKit Go.Lib
set_option linter.unusedVariables false
set_option linter.unusedSimpArgs false

set_option maxRecDepth 20000 in
set_option maxHeartbeats 1000000 in
theorem SectorCanonical_walk (a0 : ByteArray) (w0 : a0.size ≤ maxLen) (w : World) :
    Calls Try.prog 8 #[.string a0] w fun e w' => e = .returned (.bool true) ∧ Below w.heap.size w w' := by
  clear w0
  by_cases hd : 2400 < a0.size
  · have d1 : decide (2400 < (a0.size : Int)) = true := decide_eq_true (by omega)
    clear hd
    go_enter Try.func8, Try.ntmps8
    go_wp2_with fail
    refine (awake_any _).mono ?_
    rintro e w1 ⟨rfl, hb1⟩
    go_wp2_with fail
    go_ret
    exact ⟨rfl, hb1⟩
  · have d1 : decide (2400 < (a0.size : Int)) = false := decide_eq_false (by omega)
    obtain ⟨l, m, f, c, s, k, d, E, hP⟩ : ∃ l m f c s k d E, parseE a0 = ⟨l, m, f, c, s, k, d, E⟩ := ⟨_, _, _, _, _, _, _, _, rfl⟩
    have H3 : Hid (∀ w : World, Calls Try.prog 21 #[.string a0] w fun e w' => e = .returned (.tuple #[.agg #[.int .i64 l, .int .i64 m, .int .i64 f, .int .i64 c, .int .i64 s, .int .i64 k, .string d], .int .i64 E]) ∧ Below w.heap.size w w') := fun w => by
      have := Parse_any a0 (by omega) w
      rw [hP] at this
      exact this
    by_cases hE : E = 0
    · have hc := canon (r := a0) (by rw [hP]; exact hE)
      rw [hP] at hc
      obtain ⟨hv, hs, h1, h2⟩ := hc
      have hv' : vB l m f c s k d.size = true := hv
      have hl := vB_lba hv'
      have hz : d.size ≤ 140737488351232 := by
        obtain ⟨x, y, o, hI, _, hy, h4, _⟩ := vB_lay hv'
        have := hI.bd
        omega
      have hB : buildE l m f c s k d = (buildS l m f c s k d, 0) := if_pos hv'
      have H4 : Hid (∀ w : World, Calls Try.prog 11 #[.agg #[.int .i64 l, .int .i64 m, .int .i64 f, .int .i64 c, .int .i64 s, .int .i64 k, .string d]] w fun e w' => e = .returned (.tuple #[.string (buildS l m f c s k d), .int .i64 0]) ∧ Below w.heap.size w w') := fun w => by
        have := Build_any l m f c s k d (by omega) hz w
        rwa [hB] at this
      have H5 : Hid (∀ w : World, Calls Try.prog 13 #[.agg #[.int .i64 l, .int .i64 m, .int .i64 f, .int .i64 c, .int .i64 s, .int .i64 k, .string d]] w fun e w' => e = .returned (.bool true) ∧ Below w.heap.size w w') := fun w => by
        have := Valid_any l m f c s k d (by omega) hz w
        rwa [hv'] at this
      have hz1 : (((buildS l m f c s k d).size : Int) != (a0.size : Int)) = false := by rw [build_size hv', hs]; rfl
      have j1 : (2076 : Int) ≤ ((buildS l m f c s k d).size : Int) := by rw [build_size hv']; decide
      have j2 : 2076 ≤ (buildS l m f c s k d).size := by rw [build_size hv']; decide
      have j3 : (2076 : Int) ≤ (a0.size : Int) := by omega
      have j4 : 2076 ≤ a0.size := by omega
      have q1 : (((buildS l m f c s k d).extract 0 2076).toList == (a0.extract 0 2076).toList) = true := by
        rw [show (buildS l m f c s k d).extract 0 2076 = a0.extract 0 2076 from h1]; exact beq_self_eq_true _
      have q2 : m = 2 → ((buildS l m f c s k d).toList == a0.toList) = true := fun hm => by
        rw [show buildS l m f c s k d = a0 from h2 hm]; exact beq_self_eq_true _
      have e1 : (E != 0) = false := by rw [hE]; rfl
      generalize buildS l m f c s k d = S at *
      clear hP hd hv hv' hl hz hB hs h1 h2 hE
      go_enter Try.func8, Try.ntmps8
      go_wp2_with fail
      refine (awake_any _).mono ?_
      rintro e w1 ⟨rfl, L⟩
      go_wp2_with fail
      refine (H3.out _).mono ?_
      rintro e w2 ⟨rfl, hb⟩
      replace L := bthen L hb
      clear hb
      go_wp2_with fail
      refine (H4.out _).mono ?_
      rintro e w3 ⟨rfl, hb⟩
      have X := (Blk.made w2 [.int .i64 l, .int .i64 m, .int .i64 f, .int .i64 c, .int .i64 s, .int .i64 k, .string d] 25).below hb
      replace L := bthen (balloc L _) hb
      clear hb
      have x0 := X.cell 0 _ rfl; have x1 := X.cell 1 _ rfl; have x2 := X.cell 2 _ rfl; have x3 := X.cell 3 _ rfl; have x4 := X.cell 4 _ rfl; have x5 := X.cell 5 _ rfl; have x6 := X.cell 6 _ rfl
      go_wp2_with fail
      refine (H5.out _).mono ?_
      rintro e w4 ⟨rfl, hb⟩
      replace X := X.below hb
      replace L := bthen L hb
      clear hb x0 x1 x2 x3 x4 x5 x6
      have x0 := X.cell 0 _ rfl; have x1 := X.cell 1 _ rfl; have x2 := X.cell 2 _ rfl; have x3 := X.cell 3 _ rfl; have x4 := X.cell 4 _ rfl; have x5 := X.cell 5 _ rfl; have x6 := X.cell 6 _ rfl
      by_cases hm : m = 2
      · have m1 : (m == 2) = true := beq_iff_eq.2 hm
        have q3 := q2 hm
        clear q2 hm
        go_wp2_with fail
        go_ret
        exact ⟨rfl, L⟩
      · have m1 : (m == 2) = false := beq_eq_false_iff_ne.2 hm
        clear q2 hm
        go_wp2_with fail
        go_quiet (fail)
        go_wp2_with fail
        go_ret
        exact ⟨rfl, bdrN L _⟩
    · have hN := parse_no (r := a0) (by rw [hP]; exact hE)
      rw [hP] at hN
      have hN' : (⟨l, m, f, c, s, k, d, E⟩ : PR) = ⟨0, 0, 0, 0, 0, 0, { data := #[] }, E⟩ := hN
      injection hN' with n1 n2 n3 n4 n5 n6 n7
      subst n1 n2 n3 n4 n5 n6 n7
      have e1 : (E != 0) = true := bne_iff_ne.2 hE
      clear hP hd hE hN
      go_enter Try.func8, Try.ntmps8
      go_wp2_with fail
      refine (awake_any _).mono ?_
      rintro e w1 ⟨rfl, L⟩
      go_wp2_with fail
      refine (H3.out _).mono ?_
      rintro e w2 ⟨rfl, hb⟩
      replace L := bthen L hb
      clear hb
      go_wp2_with fail
      go_ret
      exact ⟨rfl, balloc L _⟩
end Go.Proofs.Ytieblfpdibpeeaa

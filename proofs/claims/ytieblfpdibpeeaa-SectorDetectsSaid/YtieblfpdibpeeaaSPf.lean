/-
  Contracts of Parse (package sector and the reference), and the walk of the law SectorParses.
-/
import Derived.Test.YtieblfpdibpeeaaSPc
import Derived.Test.YtieblfpdibpeeaaSPd
import Derived.Test.YtieblfpdibpeeaaSPe
namespace Go.Proofs.Ytieblfpdibpeeaa
open Go.RowKit Go.Lib
set_option linter.unusedVariables false
set_option linter.unusedSimpArgs false

theorem Parse_any (r : ByteArray) (hz : r.size ≤ 140737488351232) (w : World) :
    Calls Try.prog 21 #[.string r] w fun e w' => e = .returned (parseE r).val ∧ Below w.heap.size w w' := by
  by_cases h : (kindE r).2 = 0
  · obtain ⟨hs, hk⟩ := kind_byte h
    rcases hk with ⟨k1, _⟩ | ⟨k1, _, _⟩ | ⟨k1, _, _⟩
    · exact Parse_m0 r (Prod.ext k1 h) hs w
    · exact Parse_m1 r 1 2048 2072 (by decide) ⟨.inr (.inl ⟨rfl, rfl, rfl, rfl, rfl⟩)⟩ rfl (by decide) (Prod.ext k1 h) hs w
    · exact Parse_m1 r 2 2324 2348 (by decide) ⟨.inr (.inr ⟨rfl, rfl, rfl, rfl, rfl⟩)⟩ rfl (by decide) (Prod.ext k1 h) hs w
  · exact Parse_no r h hz w
theorem refParse_any (r : ByteArray) (hz : r.size ≤ 140737488351232) (w : World) :
    Calls Try.prog 22 #[.string r] w fun e w' => e = .returned (parseE r).val ∧ Below w.heap.size w w' := by
  by_cases h : (kindE r).2 = 0
  · obtain ⟨hs, hk⟩ := kind_byte h
    rcases hk with ⟨k1, _⟩ | ⟨k1, _, _⟩ | ⟨k1, _, _⟩
    · exact refParse_m0 r (Prod.ext k1 h) hs w
    · exact refParse_m1 r 1 2048 2072 (by decide) ⟨.inr (.inl ⟨rfl, rfl, rfl, rfl, rfl⟩)⟩ rfl (by decide) (Prod.ext k1 h) hs w
    · exact refParse_m1 r 2 2324 2348 (by decide) ⟨.inr (.inr ⟨rfl, rfl, rfl, rfl, rfl⟩)⟩ rfl (by decide) (Prod.ext k1 h) hs w
  · exact refParse_no r h hz w

set_option maxRecDepth 20000 in
set_option maxHeartbeats 1000000 in
theorem SectorParses_walk (a0 : ByteArray) (w0 : a0.size ≤ maxLen) (w : World) :
    Calls Try.prog 6 #[.string a0] w fun e w' => e = .returned (.bool true) ∧ Below w.heap.size w w' := by
  clear w0
  by_cases hd : 2400 < a0.size
  · have d1 : decide (2400 < (a0.size : Int)) = true := decide_eq_true (by omega)
    clear hd
    go_enter Try.func6, Try.ntmps6
    go_wp2_with fail
    refine (awake_any _).mono ?_
    rintro e w1 ⟨rfl, hb1⟩
    go_wp2_with fail
    go_ret
    exact ⟨rfl, hb1⟩
  · have d1 : decide (2400 < (a0.size : Int)) = false := decide_eq_false (by omega)
    have H1 := hid (fun w => Kind_any a0 (by omega) w)
    have H2 := hid (fun w => refKind_any a0 (by omega) w)
    have H5 := hid (fun w => Check_any a0 (by omega) w)
    have H6 := hid (fun w => refCheck_any a0 (by omega) w)
    obtain ⟨l, m, f, c, s, k, d, E, hP⟩ : ∃ l m f c s k d E, parseE a0 = ⟨l, m, f, c, s, k, d, E⟩ := ⟨_, _, _, _, _, _, _, _, rfl⟩
    have H3 : Hid (∀ w : World, Calls Try.prog 21 #[.string a0] w fun e w' => e = .returned (.tuple #[.agg #[.int .i64 l, .int .i64 m, .int .i64 f, .int .i64 c, .int .i64 s, .int .i64 k, .string d], .int .i64 E]) ∧ Below w.heap.size w w') := fun w => by
      have := Parse_any a0 (by omega) w
      rw [hP] at this
      exact this
    have H4 : Hid (∀ w : World, Calls Try.prog 22 #[.string a0] w fun e w' => e = .returned (.tuple #[.agg #[.int .i64 l, .int .i64 m, .int .i64 f, .int .i64 c, .int .i64 s, .int .i64 k, .string d], .int .i64 E]) ∧ Below w.heap.size w w') := fun w => by
      have := refParse_any a0 (by omega) w
      rw [hP] at this
      exact this
    clear hP hd
    have q1 : (d.toList == d.toList) = true := beq_self_eq_true _
    have q2 : (chkB a0 == chkB a0) = true := beq_self_eq_true _
    generalize chkB a0 = C at *
    generalize (kindE a0).1 = A at *
    generalize (kindE a0).2 = B at *
    go_enter Try.func6, Try.ntmps6
    go_wp2_with fail
    refine (awake_any _).mono ?_
    rintro e w1 ⟨rfl, L⟩
    go_wp2_with fail
    refine (H1.out _).mono ?_
    rintro e w2 ⟨rfl, rfl⟩
    go_wp2_with fail
    refine (H2.out _).mono ?_
    rintro e w2 ⟨rfl, rfl⟩
    go_wp2_with fail
    refine (H3.out _).mono ?_
    rintro e w2 ⟨rfl, hb⟩
    replace L := bthen L hb
    clear hb
    go_wp2_with fail
    refine (H4.out _).mono ?_
    rintro e w3 ⟨rfl, hb⟩
    have X := (Blk.made w2 [.int .i64 l, .int .i64 m, .int .i64 f, .int .i64 c, .int .i64 s, .int .i64 k, .string d] 25).below hb
    replace L := bthen (balloc L _) hb
    clear hb
    have Y := Blk.made w3 [.int .i64 l, .int .i64 m, .int .i64 f, .int .i64 c, .int .i64 s, .int .i64 k, .string d] 25
    have X2 := X.alloc (.cells #[.int .i64 l, .int .i64 m, .int .i64 f, .int .i64 c, .int .i64 s, .int .i64 k, .string d] 25)
    have x0 := X.cell 0 _ rfl; have x1 := X.cell 1 _ rfl; have x2 := X.cell 2 _ rfl; have x3 := X.cell 3 _ rfl; have x4 := X.cell 4 _ rfl; have x5 := X.cell 5 _ rfl; have x6 := X.cell 6 _ rfl
    have xz := X.lt
    clear X
    go_wp2_with fail
    refine (H5.out _).mono ?_
    rintro e w4 ⟨rfl, hb⟩
    replace L := bthen (balloc L _) hb
    clear hb
    go_wp2_with fail
    refine (H6.out _).mono ?_
    rintro e w5 ⟨rfl, hb⟩
    replace L := bthen L hb
    clear hb
    go_wp2_with fail
    go_ret
    exact ⟨rfl, L⟩
end Go.Proofs.Ytieblfpdibpeeaa

/-
  For PacketRecords: Split at a size that is not valid; whether any sector is valid.
-/
import Derived.Test.YtpcfjlfdjkifgaaPrL
namespace Go.Proofs.Ytpcfjlfdjkifgaa
open Go.RowKit Go.Lib
set_option linter.unusedVariables false
set_option linter.unusedSimpArgs false

theorem Split_size (s : Int) (hs : szB s = false) (v : Value) (w : World) :
    Calls Try.prog 19 #[.int .i64 s, v] w fun e w' => e = .returned (.tuple #[.slice none 0 0, .int .i64 1]) ∧ w = w' := by
  have HS : Hid (∀ w : World, Calls Try.prog 34 #[.int .i64 s] w fun e w' => e = .returned (.bool false) ∧ w = w') := fun w => by
    have := sized_any s w
    rwa [hs] at this
  clear hs
  go_enter Try.func19, Try.ntmps19
  go_wp2_with fail
  refine (HS.out _).mono ?_
  rintro e w1 ⟨rfl, rfl⟩
  go_wp2_with fail
  go_ret2
  exact ⟨rfl, rfl⟩

/-- Is a sector one of mode 1? -/
def vldB (l m f c s k n : Int) : Bool := decide (-150 ≤ l ∧ l ≤ 449849) && (decide (m = 0 ∧ f = 0 ∧ c = 0 ∧ s = 0 ∧ k = 0) && decide (n = 2048))
theorem vld_far (l m f c s k : Int) (d : ByteArray) (hl : l < -150 ∨ 449849 < l) (hb : -9223372036854775808 ≤ l ∧ l ≤ 9223372036854775807) (w : World) :
    Calls Try.prog 38 #[.agg #[.int .i64 l, .int .i64 m, .int .i64 f, .int .i64 c, .int .i64 s, .int .i64 k, .string d]] w fun e w' => e = .returned (.bool false) ∧ Below w.heap.size w w' := by
  have HM : Hid (∀ w : World, Calls Try.prog 42 #[.int .i64 l] w fun e w' => e = .returned (.tuple #[.agg #[.int .i64 0, .int .i64 0, .int .i64 0], .int .i64 2]) ∧ Below w.heap.size w w') := fun w => ToMSF_no l (by omega) hb w
  clear hl hb
  go_enter Try.func38, Try.ntmps38
  go_wp2_with fail
  refine (HM.out _).mono ?_
  rintro e w1 ⟨rfl, hb⟩
  have L : Below w.heap.size w w1 := bthen (balloc (Below.refl _ _) _) hb
  clear hb
  go_wp2_with fail
  go_ret
  exact ⟨rfl, balloc L _⟩
set_option maxRecDepth 20000 in
theorem vld_near (l m f c s k : Int) (d : ByteArray) (hl : -150 ≤ l ∧ l ≤ 449849) (w : World) :
    Calls Try.prog 38 #[.agg #[.int .i64 l, .int .i64 m, .int .i64 f, .int .i64 c, .int .i64 s, .int .i64 k, .string d]] w fun e w' => e = .returned (.bool (decide (m = 0 ∧ f = 0 ∧ c = 0 ∧ s = 0 ∧ k = 0) && decide ((d.size : Int) = 2048))) ∧ Below w.heap.size w w' := by
  have HM : Hid (∀ w : World, Calls Try.prog 42 #[.int .i64 l] w fun e w' => e = .returned (.tuple #[.agg #[.int .i64 ((l + 150) / 75 / 60), .int .i64 ((l + 150) / 75 % 60), .int .i64 ((l + 150) % 75)], .int .i64 0]) ∧ Below w.heap.size w w') := fun w => ToMSF_ok l (l + 150) (by omega) (by omega) (by omega) w
  have q1 : (d.toList == d.toList) = true := beq_self_eq_true _
  by_cases hz : m = 0 ∧ f = 0 ∧ c = 0 ∧ s = 0 ∧ k = 0
  · obtain ⟨rfl, rfl, rfl, rfl, rfl⟩ := hz
    have HB : Hid ((decide ((0 : Int) = 0 ∧ (0 : Int) = 0 ∧ (0 : Int) = 0 ∧ (0 : Int) = 0 ∧ (0 : Int) = 0) && decide ((d.size : Int) = 2048)) = ((d.size : Int) == 2048)) := by
      unfold Hid
      by_cases q : (d.size : Int) = 2048
      · rw [q]; decide
      · rw [decide_eq_false q, beq_eq_false_iff_ne.2 q, Bool.and_false]
    go_enter Try.func38, Try.ntmps38
    go_wp2_with fail
    refine (HM.out _).mono ?_
    rintro e w1 ⟨rfl, hb⟩
    have X := (Blk.made w [.int .i64 l, .int .i64 0, .int .i64 0, .int .i64 0, .int .i64 0, .int .i64 0, .string d] 53).below hb
    have L : Below w.heap.size w w1 := bthen (balloc (Below.refl _ _) _) hb
    clear hb
    have x0 := X.cell 0 _ rfl; have x1 := X.cell 1 _ rfl; have x2 := X.cell 2 _ rfl; have x3 := X.cell 3 _ rfl; have x4 := X.cell 4 _ rfl; have x5 := X.cell 5 _ rfl; have x6 := X.cell 6 _ rfl
    have xz := X.lt
    clear X
    go_wp2_with fail
    go_ret
    exact ⟨by rw [HB.out]; rfl, balloc L _⟩
  · have HB : Hid ((decide (m = 0 ∧ f = 0 ∧ c = 0 ∧ s = 0 ∧ k = 0) && decide ((d.size : Int) = 2048)) = false) := by
      unfold Hid; rw [decide_eq_false hz, Bool.false_and]
    have hz2 : ¬ (m = 0 ∧ f = 0 ∧ c = 0 ∧ s = 0 ∧ k = 0) := hz
    clear hz
    go_enter Try.func38, Try.ntmps38
    go_wp2_with fail
    refine (HM.out _).mono ?_
    rintro e w1 ⟨rfl, hb⟩
    have X := (Blk.made w [.int .i64 l, .int .i64 m, .int .i64 f, .int .i64 c, .int .i64 s, .int .i64 k, .string d] 53).below hb
    have L : Below w.heap.size w w1 := bthen (balloc (Below.refl _ _) _) hb
    clear hb
    have x0 := X.cell 0 _ rfl; have x1 := X.cell 1 _ rfl; have x2 := X.cell 2 _ rfl; have x3 := X.cell 3 _ rfl; have x4 := X.cell 4 _ rfl; have x5 := X.cell 5 _ rfl; have x6 := X.cell 6 _ rfl
    have xz := X.lt
    clear X
    go_wp2_with fail
    all_goals
      go_ret
      exact ⟨by rw [HB.out]; rfl, balloc L _⟩
end Go.Proofs.Ytpcfjlfdjkifgaa

/-
  The walk of the law SectorAddresses.
-/
import Derived.Test.YtieblfpdibpeeaaSAa
import Derived.Test.YtieblfpdibpeeaaSRa
import Derived.Test.YtieblfpdibpeeaaSPa
import Derived.Test.YtieblfpdibpeeaaSeR
import Derived.BigQuiet
namespace Go.Proofs.Ytieblfpdibpeeaa
open Go.RowKit Go.Lib
set_option linter.unusedVariables false
set_option linter.unusedSimpArgs false

/-- The loop: two strings that are equal outside the address and, in mode 0, the code. -/
structure Near (m : Int) (A B : ByteArray) : Prop where
  sa : A.size = 2352
  sb : B.size = 2352
  eq : ∀ i, ¬ (12 ≤ i ∧ i < 15) → ¬ (m = 0 ∧ 2064 ≤ i ∧ i < 2068) → at_ A i = at_ B i

set_option maxRecDepth 20000 in
set_option maxHeartbeats 2000000 in
theorem SectorAddresses_walk (l m f c s k : Int) (x : ByteArray) (p : Int) (hl : -9223372036854775808 ≤ l ∧ l ≤ 9223372036854775807) (hp : -9223372036854775808 ≤ p ∧ p ≤ 9223372036854775807) (w : World) :
    Calls Try.prog 4 #[.agg #[.int .i64 l, .int .i64 m, .int .i64 f, .int .i64 c, .int .i64 s, .int .i64 k, .string x], .int .i64 p] w fun e w' => e = .returned (.bool true) ∧ Below w.heap.size w w' := by
  have HA := hid (fun w => Build_wide l m f c s k x hl w)
  have HB := hid (fun w => Build_wide p m f c s k x hp w)
  by_cases hv : vB l m f c s k x.size = true
  · rw [show buildE l m f c s k x = (buildS l m f c s k x, 0) from if_pos hv] at HA
    by_cases hv' : vB p m f c s k x.size = true
    · rw [show buildE p m f c s k x = (buildS p m f c s k x, 0) from if_pos hv'] at HB
      have hN : Near m (buildS l m f c s k x) (buildS p m f c s k x) := ⟨build_size hv, build_size hv', fun i h1 h2 => addr_at hv i h1 h2⟩
      have hT := addr_inj hv hv'
      generalize buildS l m f c s k x = A at *
      generalize buildS p m f c s k x = B at *
      obtain ⟨sa, sb, hN⟩ := hN
      have HN := hid hN
      have z1 : ((A.size : Int) != 2352) = false := by rw [sa]; rfl
      have z2 : ((B.size : Int) != 2352) = false := by rw [sb]; rfl
      generalize hTb : (l == p) = Tb at *
      have i1 : (15 : Int) ≤ (A.size : Int) := by omega
      have i2 : 15 ≤ A.size := by omega
      have i3 : (15 : Int) ≤ (B.size : Int) := by omega
      have i4 : 15 ≤ B.size := by omega
      have i5 : (12 : Int) ≤ 15 := by omega
      have i6 : 12 ≤ 15 := by omega
      have SA := hid sa
      have SB := hid sb
      clear hN hv hv' sa sb hl hp
      go_enter Try.func4, Try.ntmps4
      go_wp2_with fail
      refine (awake_any _).mono ?_
      rintro e w1 ⟨rfl, hb⟩
      have X := (Blk.made w [.int .i64 l, .int .i64 m, .int .i64 f, .int .i64 c, .int .i64 s, .int .i64 k, .string x] 25).below hb
      have L : Below w.heap.size w w1 := bthen (balloc (Below.refl _ _) _) hb
      clear hb
      have x0 := X.cell 0 _ rfl; have x1 := X.cell 1 _ rfl; have x2 := X.cell 2 _ rfl; have x3 := X.cell 3 _ rfl; have x4 := X.cell 4 _ rfl; have x5 := X.cell 5 _ rfl; have x6 := X.cell 6 _ rfl
      have xz := X.lt
      go_wp2_with fail
      refine (HA.out _).mono ?_
      rintro e w2 ⟨rfl, hb⟩
      replace X := (X.alloc _).below hb
      have Y := (Blk.made w1 [.int .i64 p, .int .i64 m, .int .i64 f, .int .i64 c, .int .i64 s, .int .i64 k, .string x] 25).below hb
      replace L := bthen (balloc L _) hb
      clear hb x0 x1 x2 x3 x4 x5 x6 xz
      have y0 := Y.cell 0 _ rfl; have y1 := Y.cell 1 _ rfl; have y2 := Y.cell 2 _ rfl; have y3 := Y.cell 3 _ rfl; have y4 := Y.cell 4 _ rfl; have y5 := Y.cell 5 _ rfl; have y6 := Y.cell 6 _ rfl
      go_wp2_with fail
      refine (HB.out _).mono ?_
      rintro e w3 ⟨rfl, hb⟩
      replace X := X.below hb
      replace L := bthen L hb
      clear hb Y y0 y1 y2 y3 y4 y5 y6
      go_wp2_with fail
      go_loopw [44] (fun i wr => ∃ n : Nat, n ≤ A.size ∧ i = .int .i64 n ∧ Blk wr w.heap.size [.int .i64 l, .int .i64 m, .int .i64 f, .int .i64 c, .int .i64 s, .int .i64 k, .string x] ∧ Below w.heap.size w wr) (fun i _ => A.size - (RowKit.intOf i).toNat)
      case atStart => exact ⟨0, by omega, rfl, X, L⟩
      case round =>
        obtain ⟨n, hn, rfl, X, L⟩ := hrel
        by_cases hlt : n < A.size
        · have hltb : n < B.size := by have := SA.out; have := SB.out; omega
          have d1 : decide ((n : Int) < (A.size : Int)) = true := decide_eq_true (by omega)
          have hn2 : n < 2352 := by have := SA.out; omega
          have l1 : (n : Int) < (A.size : Int) := by omega
          have l2 : (n : Int) < (B.size : Int) := by omega
          have gA := at_get A n hlt
          have gB := at_get B n hltb
          have heq : ¬ (12 ≤ n ∧ n < 15) → ¬ (m = 0 ∧ 2064 ≤ n ∧ n < 2068) → at_ A n = at_ B n := HN.out n
          generalize at_ A n = a at *
          generalize at_ B n = b at *
          have x0 := X.cell 0 _ rfl; have x1 := X.cell 1 _ rfl; have x2 := X.cell 2 _ rfl; have x3 := X.cell 3 _ rfl; have x4 := X.cell 4 _ rfl; have x5 := X.cell 5 _ rfl; have x6 := X.cell 6 _ rfl
          by_cases hm : m = 0
          · have m1 : (m == 0) = true := beq_iff_eq.2 hm
            by_cases h1 : n < 12
            · have h12 : decide (12 ≤ (n : Int)) = false := decide_eq_false (by omega)
              have c1 : decide (2064 ≤ (n : Int)) = false := decide_eq_false (by omega)
              have q0 : ((a : Int) != (b : Int)) = false := by rw [heq (by omega) (by omega)]; exact bne_self_eq_false _
              clear heq
              go_wp2_with fail
              go_quiet (fail)
              go_wp2_with fail
              go_roundw
              case rel => exact ⟨n + 1, by omega, by go_num, X.drewN _, bdrN L _⟩
              case measure => simp [RowKit.intOf]; omega
            · by_cases h2 : n < 15
              · have h12 : decide (12 ≤ (n : Int)) = true := decide_eq_true (by omega)
                have h15 : decide ((n : Int) < 15) = true := decide_eq_true (by omega)
                have c1 : decide (2064 ≤ (n : Int)) = false := decide_eq_false (by omega)
                clear heq
                by_cases hq : (a : Int) = (b : Int)
                · have q0 : ((a : Int) != (b : Int)) = false := by rw [hq]; exact bne_self_eq_false _
                  clear hq
                  go_wp2_with fail
                  go_quiet (fail)
                  go_wp2_with fail
                  go_roundw
                  case rel => exact ⟨n + 1, by omega, by go_num, X.drewN _, bdrN L _⟩
                  case measure => simp [RowKit.intOf]; omega
                · have q0 : ((a : Int) != (b : Int)) = true := bne_iff_ne.2 hq
                  clear hq
                  go_wp2_with fail
                  go_quiet (fail)
                  go_wp2_with fail
                  go_roundw
                  case rel => exact ⟨n + 1, by omega, by go_num, X.drewN _, bdrN L _⟩
                  case measure => simp [RowKit.intOf]; omega
              · by_cases h3 : n < 2064
                · have h12 : decide (12 ≤ (n : Int)) = true := decide_eq_true (by omega)
                  have h15 : decide ((n : Int) < 15) = false := decide_eq_false (by omega)
                  have c1 : decide (2064 ≤ (n : Int)) = false := decide_eq_false (by omega)
                  have q0 : ((a : Int) != (b : Int)) = false := by rw [heq (by omega) (by omega)]; exact bne_self_eq_false _
                  clear heq
                  go_wp2_with fail
                  go_quiet (fail)
                  go_wp2_with fail
                  go_roundw
                  case rel => exact ⟨n + 1, by omega, by go_num, X.drewN _, bdrN L _⟩
                  case measure => simp [RowKit.intOf]; omega
                · by_cases h4 : n < 2068
                  · have h12 : decide (12 ≤ (n : Int)) = true := decide_eq_true (by omega)
                    have h15 : decide ((n : Int) < 15) = false := decide_eq_false (by omega)
                    have c1 : decide (2064 ≤ (n : Int)) = true := decide_eq_true (by omega)
                    have c2 : decide ((n : Int) < 2068) = true := decide_eq_true (by omega)
                    clear heq
                    by_cases hq : (a : Int) = (b : Int)
                    · have q0 : ((a : Int) != (b : Int)) = false := by rw [hq]; exact bne_self_eq_false _
                      clear hq
                      go_wp2_with fail
                      go_quiet (fail)
                      go_wp2_with fail
                      go_roundw
                      case rel => exact ⟨n + 1, by omega, by go_num, X.drewN _, bdrN L _⟩
                      case measure => simp [RowKit.intOf]; omega
                    · have q0 : ((a : Int) != (b : Int)) = true := bne_iff_ne.2 hq
                      clear hq
                      go_wp2_with fail
                      go_quiet (fail)
                      go_wp2_with fail
                      go_roundw
                      case rel => exact ⟨n + 1, by omega, by go_num, X.drewN _, bdrN L _⟩
                      case measure => simp [RowKit.intOf]; omega
                  · have h12 : decide (12 ≤ (n : Int)) = true := decide_eq_true (by omega)
                    have h15 : decide ((n : Int) < 15) = false := decide_eq_false (by omega)
                    have c1 : decide (2064 ≤ (n : Int)) = true := decide_eq_true (by omega)
                    have c2 : decide ((n : Int) < 2068) = false := decide_eq_false (by omega)
                    have q0 : ((a : Int) != (b : Int)) = false := by rw [heq (by omega) (by omega)]; exact bne_self_eq_false _
                    clear heq
                    go_wp2_with fail
                    go_quiet (fail)
                    go_wp2_with fail
                    go_roundw
                    case rel => exact ⟨n + 1, by omega, by go_num, X.drewN _, bdrN L _⟩
                    case measure => simp [RowKit.intOf]; omega
          · have m1 : (m == 0) = false := beq_eq_false_iff_ne.2 hm
            by_cases h1 : n < 12
            · have h12 : decide (12 ≤ (n : Int)) = false := decide_eq_false (by omega)
              have q0 : ((a : Int) != (b : Int)) = false := by rw [heq (by omega) (by omega)]; exact bne_self_eq_false _
              clear heq
              go_wp2_with fail
              go_quiet (fail)
              go_wp2_with fail
              go_roundw
              case rel => exact ⟨n + 1, by omega, by go_num, X.drewN _, bdrN L _⟩
              case measure => simp [RowKit.intOf]; omega
            · by_cases h2 : n < 15
              · have h12 : decide (12 ≤ (n : Int)) = true := decide_eq_true (by omega)
                have h15 : decide ((n : Int) < 15) = true := decide_eq_true (by omega)
                clear heq
                by_cases hq : (a : Int) = (b : Int)
                · have q0 : ((a : Int) != (b : Int)) = false := by rw [hq]; exact bne_self_eq_false _
                  clear hq
                  go_wp2_with fail
                  go_quiet (fail)
                  go_wp2_with fail
                  go_roundw
                  case rel => exact ⟨n + 1, by omega, by go_num, X.drewN _, bdrN L _⟩
                  case measure => simp [RowKit.intOf]; omega
                · have q0 : ((a : Int) != (b : Int)) = true := bne_iff_ne.2 hq
                  clear hq
                  go_wp2_with fail
                  go_quiet (fail)
                  go_wp2_with fail
                  go_roundw
                  case rel => exact ⟨n + 1, by omega, by go_num, X.drewN _, bdrN L _⟩
                  case measure => simp [RowKit.intOf]; omega
              · have h12 : decide (12 ≤ (n : Int)) = true := decide_eq_true (by omega)
                have h15 : decide ((n : Int) < 15) = false := decide_eq_false (by omega)
                have q0 : ((a : Int) != (b : Int)) = false := by rw [heq (by omega) (by omega)]; exact bne_self_eq_false _
                clear heq
                go_wp2_with fail
                go_quiet (fail)
                go_wp2_with fail
                go_roundw
                case rel => exact ⟨n + 1, by omega, by go_num, X.drewN _, bdrN L _⟩
                case measure => simp [RowKit.intOf]; omega
        · have d1 : decide ((n : Int) < (A.size : Int)) = false := decide_eq_false (by omega)
          have hT2 : (Tb == Tb) = true := beq_self_eq_true _
          have x0 := X.cell 0 _ rfl; have x1 := X.cell 1 _ rfl; have x2 := X.cell 2 _ rfl; have x3 := X.cell 3 _ rfl; have x4 := X.cell 4 _ rfl; have x5 := X.cell 5 _ rfl; have x6 := X.cell 6 _ rfl
          go_wp2_with fail
          go_quiet (fail)
          go_wp2_with fail
          go_ret
          exact ⟨rfl, bdrN L _⟩
    · rw [show buildE p m f c s k x = ({ data := #[] }, 1) from if_neg hv'] at HB
      generalize buildS l m f c s k x = A at *
      clear hv hv' hl hp
      go_enter Try.func4, Try.ntmps4
      go_wp2_with fail
      refine (awake_any _).mono ?_
      rintro e w1 ⟨rfl, hb⟩
      have X := (Blk.made w [.int .i64 l, .int .i64 m, .int .i64 f, .int .i64 c, .int .i64 s, .int .i64 k, .string x] 25).below hb
      have L : Below w.heap.size w w1 := bthen (balloc (Below.refl _ _) _) hb
      clear hb
      have x0 := X.cell 0 _ rfl; have x1 := X.cell 1 _ rfl; have x2 := X.cell 2 _ rfl; have x3 := X.cell 3 _ rfl; have x4 := X.cell 4 _ rfl; have x5 := X.cell 5 _ rfl; have x6 := X.cell 6 _ rfl
      have xz := X.lt
      go_wp2_with fail
      refine (HA.out _).mono ?_
      rintro e w2 ⟨rfl, hb⟩
      have Y := (Blk.made w1 [.int .i64 p, .int .i64 m, .int .i64 f, .int .i64 c, .int .i64 s, .int .i64 k, .string x] 25).below hb
      replace L := bthen (balloc L _) hb
      clear hb x0 x1 x2 x3 x4 x5 x6 xz X
      have y0 := Y.cell 0 _ rfl; have y1 := Y.cell 1 _ rfl; have y2 := Y.cell 2 _ rfl; have y3 := Y.cell 3 _ rfl; have y4 := Y.cell 4 _ rfl; have y5 := Y.cell 5 _ rfl; have y6 := Y.cell 6 _ rfl
      go_wp2_with fail
      refine (HB.out _).mono ?_
      rintro e w3 ⟨rfl, hb⟩
      replace L := bthen L hb
      clear hb Y y0 y1 y2 y3 y4 y5 y6
      go_wp2_with fail
      go_ret
      exact ⟨rfl, L⟩
  · rw [show buildE l m f c s k x = ({ data := #[] }, 1) from if_neg hv] at HA
    generalize (buildE p m f c s k x).1 = B at *
    generalize (buildE p m f c s k x).2 = E at *
    clear hv hl hp
    go_enter Try.func4, Try.ntmps4
    go_wp2_with fail
    refine (awake_any _).mono ?_
    rintro e w1 ⟨rfl, hb⟩
    have X := (Blk.made w [.int .i64 l, .int .i64 m, .int .i64 f, .int .i64 c, .int .i64 s, .int .i64 k, .string x] 25).below hb
    have L : Below w.heap.size w w1 := bthen (balloc (Below.refl _ _) _) hb
    clear hb
    have x0 := X.cell 0 _ rfl; have x1 := X.cell 1 _ rfl; have x2 := X.cell 2 _ rfl; have x3 := X.cell 3 _ rfl; have x4 := X.cell 4 _ rfl; have x5 := X.cell 5 _ rfl; have x6 := X.cell 6 _ rfl
    have xz := X.lt
    go_wp2_with fail
    refine (HA.out _).mono ?_
    rintro e w2 ⟨rfl, hb⟩
    have Y := (Blk.made w1 [.int .i64 p, .int .i64 m, .int .i64 f, .int .i64 c, .int .i64 s, .int .i64 k, .string x] 25).below hb
    replace L := bthen (balloc L _) hb
    clear hb x0 x1 x2 x3 x4 x5 x6 xz X
    have y0 := Y.cell 0 _ rfl; have y1 := Y.cell 1 _ rfl; have y2 := Y.cell 2 _ rfl; have y3 := Y.cell 3 _ rfl; have y4 := Y.cell 4 _ rfl; have y5 := Y.cell 5 _ rfl; have y6 := Y.cell 6 _ rfl
    go_wp2_with fail
    refine (HB.out _).mono ?_
    rintro e w3 ⟨rfl, hb⟩
    replace L := bthen L hb
    clear hb Y y0 y1 y2 y3 y4 y5 y6
    go_wp2_with fail
    go_ret
    exact ⟨rfl, L⟩
theorem SectorAddresses_law (l m f c s k : Int) (x : ByteArray) (a1 : Int) (w0 : (Lit.int .i64 l).wf = true) (w1 : (Lit.int .i64 m).wf = true) (w2 : (Lit.int .i64 f).wf = true) (w3 : (Lit.int .i64 c).wf = true) (w4 : (Lit.int .i64 s).wf = true) (w5 : (Lit.int .i64 k).wf = true) (w6 : x.size ≤ maxLen) (u1 : (Lit.int .i64 a1).wf = true) (w : World) :
    Calls Try.prog 4 #[.agg #[.int .i64 l, .int .i64 m, .int .i64 f, .int .i64 c, .int .i64 s, .int .i64 k, .string x], .int .i64 a1] w fun e w' => e = .returned (.bool true) ∧ Below w.heap.size w w' :=
  SectorAddresses_walk l m f c s k x a1 (bounds_i64 w0) (bounds_i64 u1) w
end Go.Proofs.Ytieblfpdibpeeaa

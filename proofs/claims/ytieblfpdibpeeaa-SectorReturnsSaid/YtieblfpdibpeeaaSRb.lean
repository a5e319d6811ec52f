/-
  The walk of the law SectorReturns.
-/
import Derived.Test.YtieblfpdibpeeaaSRa
import Derived.Test.YtieblfpdibpeeaaSPf
import Derived.Test.YtieblfpdibpeeaaSeR
import Derived.Deep.RegionWith
namespace Go.Proofs.Ytieblfpdibpeeaa
open Go.RowKit Go.Lib
set_option linter.unusedVariables false
set_option linter.unusedSimpArgs false

/-- The parity of a sector, replaced. -/
def parS (S Q : ByteArray) : ByteArray := S.extract 0 2076 ++ Q
theorem parS_size {S Q : ByteArray} (hs : S.size = 2352) (hq : Q.size = 276) : (parS S Q).size = 2352 := by
  unfold parS
  rw [ByteArray.size_append, ext_size _ _ _ (by omega), hq]
theorem parS_front {S Q : ByteArray} (hs : S.size = 2352) : S.extract 0 2076 = (parS S Q).extract 0 2076 := by
  have z : (S.extract 0 2076).size = 2076 := by rw [ext_size _ _ _ (by omega)]
  unfold parS
  rw [ext_left (by omega)]
  apply ba_ext
  rw [ext_l, ext_l, ext_l, List.drop_zero, List.drop_zero, List.take_take, Nat.min_self]

set_option maxRecDepth 20000 in
set_option maxHeartbeats 1000000 in
theorem SectorReturns_walk (l m f c s k : Int) (x : ByteArray) (p : Int) (hl : -9223372036854775808 ≤ l ∧ l ≤ 9223372036854775807) (hp : 0 ≤ p ∧ p ≤ 255) (w : World) :
    Calls Try.prog 7 #[.agg #[.int .i64 l, .int .i64 m, .int .i64 f, .int .i64 c, .int .i64 s, .int .i64 k, .string x], .int .u8 p] w fun e w' => e = .returned (.bool true) ∧ Below w.heap.size w w' := by
  by_cases hv : vB l m f c s k x.size = true
  · have hB : buildE l m f c s k x = (buildS l m f c s k x, 0) := if_pos hv
    have HB : Hid (∀ w : World, Calls Try.prog 11 #[.agg #[.int .i64 l, .int .i64 m, .int .i64 f, .int .i64 c, .int .i64 s, .int .i64 k, .string x]] w fun e w' => e = .returned (.tuple #[.string (buildS l m f c s k x), .int .i64 0]) ∧ Below w.heap.size w w') := fun w => by
      have := Build_wide l m f c s k x hl w
      rwa [hB] at this
    have HV : Hid (∀ w : World, Calls Try.prog 13 #[.agg #[.int .i64 l, .int .i64 m, .int .i64 f, .int .i64 c, .int .i64 s, .int .i64 k, .string x]] w fun e w' => e = .returned (.bool true) ∧ Below w.heap.size w w') := fun w => by
      have := Valid_wide l m f c s k x hl w
      rwa [hv] at this
    have hs := build_size hv
    have HC : Hid (∀ w : World, Calls Try.prog 23 #[.string (buildS l m f c s k x)] w fun e w' => e = .returned (.bool true) ∧ Below w.heap.size w w') := fun w => by
      have := Check_any (buildS l m f c s k x) (by omega) w
      rwa [build_check hv] at this
    have hk := build_kind hv
    have hpa := parse_build hv
    have hz1 : (((buildS l m f c s k x).size : Int) != 2352) = false := by rw [hs]; rfl
    have q1 : (x.toList == x.toList) = true := beq_self_eq_true _
    have i1 : (2076 : Int) ≤ ((buildS l m f c s k x).size : Int) := by rw [hs]; decide
    have i2 : 2076 ≤ (buildS l m f c s k x).size := by rw [hs]; decide
    generalize buildS l m f c s k x = S at *
    by_cases hm : m = 2
    · have m1 : (m != 2) = false := by rw [hm]; rfl
      have HK : Hid (∀ w : World, Calls Try.prog 19 #[.string S] w fun e w' => e = .returned (.tuple #[.int .i64 m, .int .i64 0]) ∧ w = w') := fun w => by
        have := Kind_any S (by omega) w
        rwa [hk] at this
      have HP : Hid (∀ w : World, Calls Try.prog 21 #[.string S] w fun e w' => e = .returned (.tuple #[.agg #[.int .i64 l, .int .i64 m, .int .i64 f, .int .i64 c, .int .i64 s, .int .i64 k, .string x], .int .i64 0]) ∧ Below w.heap.size w w') := fun w => by
        have := Parse_any S (by omega) w
        rw [hpa] at this
        exact this
      clear hv hB hs hk hpa hm hl hp
      go_enter Try.func7, Try.ntmps7
      go_wp2_with fail
      refine (awake_any _).mono ?_
      rintro e w1 ⟨rfl, hb⟩
      have X := (Blk.made w [.int .i64 l, .int .i64 m, .int .i64 f, .int .i64 c, .int .i64 s, .int .i64 k, .string x] 25).below hb
      have L : Below w.heap.size w w1 := bthen (balloc (Below.refl _ _) _) hb
      clear hb
      have x0 := X.cell 0 _ rfl; have x1 := X.cell 1 _ rfl; have x2 := X.cell 2 _ rfl; have x3 := X.cell 3 _ rfl; have x4 := X.cell 4 _ rfl; have x5 := X.cell 5 _ rfl; have x6 := X.cell 6 _ rfl
      go_wp2_with fail
      refine (HB.out _).mono ?_
      rintro e w2 ⟨rfl, hb⟩
      replace X := X.below hb
      replace L := bthen L hb
      clear hb x0 x1 x2 x3 x4 x5 x6
      have x0 := X.cell 0 _ rfl; have x1 := X.cell 1 _ rfl; have x2 := X.cell 2 _ rfl; have x3 := X.cell 3 _ rfl; have x4 := X.cell 4 _ rfl; have x5 := X.cell 5 _ rfl; have x6 := X.cell 6 _ rfl
      go_wp2_with fail
      refine (HV.out _).mono ?_
      rintro e w3 ⟨rfl, hb⟩
      replace X := X.below hb
      replace L := bthen L hb
      clear hb x0 x1 x2 x3 x4 x5 x6
      have x0 := X.cell 0 _ rfl; have x1 := X.cell 1 _ rfl; have x2 := X.cell 2 _ rfl; have x3 := X.cell 3 _ rfl; have x4 := X.cell 4 _ rfl; have x5 := X.cell 5 _ rfl; have x6 := X.cell 6 _ rfl
      go_wp2_with fail
      refine (HC.out _).mono ?_
      rintro e w4 ⟨rfl, hb⟩
      replace X := X.below hb
      replace L := bthen L hb
      clear hb x0 x1 x2 x3 x4 x5 x6
      have x0 := X.cell 0 _ rfl; have x1 := X.cell 1 _ rfl; have x2 := X.cell 2 _ rfl; have x3 := X.cell 3 _ rfl; have x4 := X.cell 4 _ rfl; have x5 := X.cell 5 _ rfl; have x6 := X.cell 6 _ rfl
      go_wp2_with fail
      refine (HK.out _).mono ?_
      rintro e w5 ⟨rfl, rfl⟩
      go_wp2_with fail
      refine (HP.out _).mono ?_
      rintro e w5 ⟨rfl, hb⟩
      replace X := X.below hb
      replace L := bthen L hb
      clear hb x0 x1 x2 x3 x4 x5 x6
      have x0 := X.cell 0 _ rfl; have x1 := X.cell 1 _ rfl; have x2 := X.cell 2 _ rfl; have x3 := X.cell 3 _ rfl; have x4 := X.cell 4 _ rfl; have x5 := X.cell 5 _ rfl; have x6 := X.cell 6 _ rfl
      have xz := X.lt
      clear X
      go_wp2_with fail
      go_ret
      exact ⟨rfl, balloc L _⟩
    · have m1 : (m != 2) = true := bne_iff_ne.2 hm
      have hQ : (⟨(repeatL (strOfNums [p]).data.toList 276).toArray⟩ : ByteArray).size = 276 := by
        show (repeatL (strOfNums [p]).data.toList 276).toArray.size = 276
        rw [List.size_toArray, repeatL_length]; rfl
      have HR : Hid (∀ w : World, Calls Try.prog 25 #[.string (strOfNums [p]), .int .i64 276] w fun e w' => e = .returned (.string ⟨(repeatL (strOfNums [p]).data.toList 276).toArray⟩) ∧ Below w.heap.size w w') := fun w => Try.strings_Repeat (strOfNums [p]) 276 w (by omega) (by show 1 * 276 ≤ _; omega)
      generalize (⟨(repeatL (strOfNums [p]).data.toList 276).toArray⟩ : ByteArray) = Q at *
      obtain ⟨g1, g2, g3⟩ := agree hs (parS_size hs hQ) (parS_front hs) (by rw [hk]; exact hm)
      have hps := parS_size hs hQ
      rw [hk] at g1
      rw [hpa] at g2
      have HK : Hid (∀ w : World, Calls Try.prog 19 #[.string (parS S Q)] w fun e w' => e = .returned (.tuple #[.int .i64 m, .int .i64 0]) ∧ w = w') := fun w => by
        have := Kind_any (parS S Q) (by omega) w
        rwa [g1] at this
      have HP : Hid (∀ w : World, Calls Try.prog 21 #[.string (parS S Q)] w fun e w' => e = .returned (.tuple #[.agg #[.int .i64 l, .int .i64 m, .int .i64 f, .int .i64 c, .int .i64 s, .int .i64 k, .string x], .int .i64 0]) ∧ Below w.heap.size w w') := fun w => by
        have := Parse_any (parS S Q) (by omega) w
        rw [g2] at this
        exact this
      have hpl : (S.extract 0 2076).size + Q.size ≤ 4000 := by rw [ext_size _ _ _ (by omega)]; omega
      have hq1 : Q.size ≤ 4000 := by omega
      have K1 := hid (str1 p)
      unfold parS at HK HP
      clear hv hB hk hpa hm hl g1 g2 g3 hps
      go_enter Try.func7, Try.ntmps7
      go_wp2_with fail
      refine (awake_any _).mono ?_
      rintro e w1 ⟨rfl, hb⟩
      have X := (Blk.made w [.int .i64 l, .int .i64 m, .int .i64 f, .int .i64 c, .int .i64 s, .int .i64 k, .string x] 25).below hb
      have L : Below w.heap.size w w1 := bthen (balloc (Below.refl _ _) _) hb
      clear hb
      have x0 := X.cell 0 _ rfl; have x1 := X.cell 1 _ rfl; have x2 := X.cell 2 _ rfl; have x3 := X.cell 3 _ rfl; have x4 := X.cell 4 _ rfl; have x5 := X.cell 5 _ rfl; have x6 := X.cell 6 _ rfl
      go_wp2_with fail
      refine (HB.out _).mono ?_
      rintro e w2 ⟨rfl, hb⟩
      replace X := X.below hb
      replace L := bthen L hb
      clear hb x0 x1 x2 x3 x4 x5 x6
      have x0 := X.cell 0 _ rfl; have x1 := X.cell 1 _ rfl; have x2 := X.cell 2 _ rfl; have x3 := X.cell 3 _ rfl; have x4 := X.cell 4 _ rfl; have x5 := X.cell 5 _ rfl; have x6 := X.cell 6 _ rfl
      go_wp2_with fail
      refine (HV.out _).mono ?_
      rintro e w3 ⟨rfl, hb⟩
      replace X := X.below hb
      replace L := bthen L hb
      clear hb x0 x1 x2 x3 x4 x5 x6
      have x0 := X.cell 0 _ rfl; have x1 := X.cell 1 _ rfl; have x2 := X.cell 2 _ rfl; have x3 := X.cell 3 _ rfl; have x4 := X.cell 4 _ rfl; have x5 := X.cell 5 _ rfl; have x6 := X.cell 6 _ rfl
      go_wp2_with fail
      refine (HC.out _).mono ?_
      rintro e w4 ⟨rfl, hb⟩
      replace X := X.below hb
      replace L := bthen L hb
      clear hb x0 x1 x2 x3 x4 x5 x6
      have x0 := X.cell 0 _ rfl; have x1 := X.cell 1 _ rfl; have x2 := X.cell 2 _ rfl; have x3 := X.cell 3 _ rfl; have x4 := X.cell 4 _ rfl; have x5 := X.cell 5 _ rfl; have x6 := X.cell 6 _ rfl
      go_wp2_with fail
      have K := K1.out
      have K2 : (convert 42 9 (.slice (some ⟨w4.heap.size, 0, none⟩) 1 1)).run Try.prog (w4.alloc (.cells #[.int .u8 p] 5)).drew = .ok (.string (strOfNums [p])) (w4.alloc (.cells #[.int .u8 p] 5)).drew := by
        refine run_convert_bytes_arg _ 42 5 Try.underlying42 Try.underlying5 w4.heap.size 0 1 1 [p] rfl (fun i hi => ?_) 9 Try.underlying9
        have h4 : i = 0 := by omega
        subst h4
        simp
      go_region_with (go_at_call 25; refine (HR.out _).mono ?_; rintro e w5 ⟨rfl, hb⟩; have hbW : Below w4.heap.size w4 w5 := bthen (bdrew (balloc (Below.refl _ _) _)) hb)
      replace X := X.below hbW
      replace L := bthen L hbW
      clear hb hbW x0 x1 x2 x3 x4 x5 x6 K K1 K2
      have x0 := X.cell 0 _ rfl; have x1 := X.cell 1 _ rfl; have x2 := X.cell 2 _ rfl; have x3 := X.cell 3 _ rfl; have x4 := X.cell 4 _ rfl; have x5 := X.cell 5 _ rfl; have x6 := X.cell 6 _ rfl
      go_wp2_with fail
      refine (HK.out _).mono ?_
      rintro e w6 ⟨rfl, rfl⟩
      go_wp2_with fail
      refine (HP.out _).mono ?_
      rintro e w6 ⟨rfl, hb⟩
      replace X := X.below hb
      replace L := bthen L hb
      clear hb x0 x1 x2 x3 x4 x5 x6
      have x0 := X.cell 0 _ rfl; have x1 := X.cell 1 _ rfl; have x2 := X.cell 2 _ rfl; have x3 := X.cell 3 _ rfl; have x4 := X.cell 4 _ rfl; have x5 := X.cell 5 _ rfl; have x6 := X.cell 6 _ rfl
      have xz := X.lt
      clear X
      go_wp2_with fail
      go_ret
      exact ⟨rfl, balloc L _⟩
  · have hv' : vB l m f c s k x.size = false := by simpa using hv
    have hB : buildE l m f c s k x = ({ data := #[] }, 1) := if_neg hv
    have HB : Hid (∀ w : World, Calls Try.prog 11 #[.agg #[.int .i64 l, .int .i64 m, .int .i64 f, .int .i64 c, .int .i64 s, .int .i64 k, .string x]] w fun e w' => e = .returned (.tuple #[.string { data := #[] }, .int .i64 1]) ∧ Below w.heap.size w w') := fun w => by
      have := Build_wide l m f c s k x hl w
      rwa [hB] at this
    have HV : Hid (∀ w : World, Calls Try.prog 13 #[.agg #[.int .i64 l, .int .i64 m, .int .i64 f, .int .i64 c, .int .i64 s, .int .i64 k, .string x]] w fun e w' => e = .returned (.bool false) ∧ Below w.heap.size w w') := fun w => by
      have := Valid_wide l m f c s k x hl w
      rwa [hv'] at this
    clear hv hv' hB hl hp
    go_enter Try.func7, Try.ntmps7
    go_wp2_with fail
    refine (awake_any _).mono ?_
    rintro e w1 ⟨rfl, hb⟩
    have X := (Blk.made w [.int .i64 l, .int .i64 m, .int .i64 f, .int .i64 c, .int .i64 s, .int .i64 k, .string x] 25).below hb
    have L : Below w.heap.size w w1 := bthen (balloc (Below.refl _ _) _) hb
    clear hb
    have x0 := X.cell 0 _ rfl; have x1 := X.cell 1 _ rfl; have x2 := X.cell 2 _ rfl; have x3 := X.cell 3 _ rfl; have x4 := X.cell 4 _ rfl; have x5 := X.cell 5 _ rfl; have x6 := X.cell 6 _ rfl
    go_wp2_with fail
    refine (HB.out _).mono ?_
    rintro e w2 ⟨rfl, hb⟩
    replace X := X.below hb
    replace L := bthen L hb
    clear hb x0 x1 x2 x3 x4 x5 x6
    have x0 := X.cell 0 _ rfl; have x1 := X.cell 1 _ rfl; have x2 := X.cell 2 _ rfl; have x3 := X.cell 3 _ rfl; have x4 := X.cell 4 _ rfl; have x5 := X.cell 5 _ rfl; have x6 := X.cell 6 _ rfl
    go_wp2_with fail
    refine (HV.out _).mono ?_
    rintro e w3 ⟨rfl, hb⟩
    replace L := bthen L hb
    go_wp2_with fail
    go_ret
    exact ⟨rfl, L⟩
theorem SectorReturns_law (l m f c s k : Int) (x : ByteArray) (a1 : Int) (w0 : (Lit.int .i64 l).wf = true) (w1 : (Lit.int .i64 m).wf = true) (w2 : (Lit.int .i64 f).wf = true) (w3 : (Lit.int .i64 c).wf = true) (w4 : (Lit.int .i64 s).wf = true) (w5 : (Lit.int .i64 k).wf = true) (w6 : x.size ≤ maxLen) (u1 : (Lit.int .u8 a1).wf = true) (w : World) :
    Calls Try.prog 7 #[.agg #[.int .i64 l, .int .i64 m, .int .i64 f, .int .i64 c, .int .i64 s, .int .i64 k, .string x], .int .u8 a1] w fun e w' => e = .returned (.bool true) ∧ Below w.heap.size w w' :=
  SectorReturns_walk l m f c s k x a1 (bounds_i64 w0) (bounds_u8 u1) w
end Go.Proofs.Ytieblfpdibpeeaa

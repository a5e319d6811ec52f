/-
  For PacketRecords: the six contracts in one form each.
-/
import Derived.Test.YtpcfjlfdjkifgaaPrY
namespace Go.Proofs.Ytpcfjlfdjkifgaa
open Go.RowKit Go.Lib
set_option linter.unusedVariables false
set_option linter.unusedSimpArgs false

theorem refSplit_size (s : Int) (hs : szB s = false) (v : Value) (w : World) :
    Calls Try.prog 20 #[.int .i64 s, v] w fun e w' => e = .returned (.tuple #[.slice none 0 0, .int .i64 1]) ∧ w = w' := by
  have HS : Hid (∀ w : World, Calls Try.prog 31 #[.int .i64 s] w fun e w' => e = .returned (.bool false) ∧ w = w') := fun w => by
    have := refSized_any s w
    rwa [hs] at this
  clear hs
  go_enter Try.func20, Try.ntmps20
  go_wp2_with fail
  refine (HS.out _).mono ?_
  rintro e w1 ⟨rfl, rfl⟩
  go_wp2_with fail
  go_ret2
  exact ⟨rfl, rfl⟩
theorem refRecord_size (s : Int) (hs : szB s = false) (st : Int) (v : Value) (w : World) :
    Calls Try.prog 22 #[.int .i64 s, .int .i64 st, v] w fun e w' => e = .returned (.tuple #[.slice none 0 0, .int .i64 1]) ∧ w = w' := by
  have HS := hid (fun w => refSplit_size s hs v w)
  clear hs
  go_enter Try.func22, Try.ntmps22
  go_wp2_with fail
  refine (HS.out _).mono ?_
  rintro e w1 ⟨rfl, rfl⟩
  go_wp2_with fail
  go_ret2
  exact ⟨rfl, rfl⟩
theorem Collect_size (s : Int) (hs : szB s = false) (v : Value) (w : World) :
    Calls Try.prog 23 #[.int .i64 s, v] w fun e w' => e = .returned (.tuple #[.slice none 0 0, .int .i64 1]) ∧ w = w' := by
  have HS : Hid (∀ w : World, Calls Try.prog 34 #[.int .i64 s] w fun e w' => e = .returned (.bool false) ∧ w = w') := fun w => by
    have := sized_any s w
    rwa [hs] at this
  clear hs
  go_enter Try.func23, Try.ntmps23
  go_wp2_with fail
  refine (HS.out _).mono ?_
  rintro e w1 ⟨rfl, rfl⟩
  go_wp2_with fail
  go_ret2
  exact ⟨rfl, rfl⟩
theorem refCollect_size (s : Int) (hs : szB s = false) (v : Value) (w : World) :
    Calls Try.prog 24 #[.int .i64 s, v] w fun e w' => e = .returned (.tuple #[.slice none 0 0, .int .i64 1]) ∧ w = w' := by
  have HS : Hid (∀ w : World, Calls Try.prog 31 #[.int .i64 s] w fun e w' => e = .returned (.bool false) ∧ w = w') := fun w => by
    have := refSized_any s w
    rwa [hs] at this
  clear hs
  go_enter Try.func24, Try.ntmps24
  go_wp2_with fail
  refine (HS.out _).mono ?_
  rintro e w1 ⟨rfl, rfl⟩
  go_wp2_with fail
  go_ret2
  exact ⟨rfl, rfl⟩
theorem Collect_mod (s : Nat) (hs : 1 ≤ s ∧ s ≤ 1024) (n : Nat) (hn : n ≤ 4096) (hT : n % (s + 7) ≠ 0) (p : Option Addr) (cap : Nat) (w : World) :
    Calls Try.prog 23 #[.int .i64 (s : Int), .slice p n cap] w fun e w' => e = .returned (.tuple #[.slice none 0 0, .int .i64 10]) ∧ w = w' := by
  have HS : Hid (∀ w : World, Calls Try.prog 34 #[.int .i64 (s : Int)] w fun e w' => e = .returned (.bool true) ∧ w = w') := fun w => by
    have := sized_any (s : Int) w
    rwa [show szB (s : Int) = true from decide_eq_true (by omega)] at this
  obtain ⟨a, ha⟩ : ∃ a, n % (s + 7) = a := ⟨_, rfl⟩
  have hm : (n : Int) % ((s : Int) + 7) = (a : Int) := by rw [show (s : Int) + 7 = ((s + 7 : Nat) : Int) by omega, ← Int.natCast_emod, ha]
  have d1 : ((a : Int) != 0) = true := bne_iff_ne.2 (by omega)
  have hs7 : ((s : Int) + 7 == 0) = false := by rw [beq_eq_false_iff_ne]; omega
  clear ha hT
  go_enter Try.func23, Try.ntmps23
  go_wp2_with fail
  refine (HS.out _).mono ?_
  rintro e w1 ⟨rfl, rfl⟩
  go_wp2_with fail
  go_ret2
  exact ⟨rfl, rfl⟩
theorem refCollect_mod (s : Nat) (hs : 1 ≤ s ∧ s ≤ 1024) (n : Nat) (hn : n ≤ 4096) (hT : n % (s + 7) ≠ 0) (p : Option Addr) (cap : Nat) (w : World) :
    Calls Try.prog 24 #[.int .i64 (s : Int), .slice p n cap] w fun e w' => e = .returned (.tuple #[.slice none 0 0, .int .i64 10]) ∧ w = w' := by
  have HS : Hid (∀ w : World, Calls Try.prog 31 #[.int .i64 (s : Int)] w fun e w' => e = .returned (.bool true) ∧ w = w') := fun w => by
    have := refSized_any (s : Int) w
    rwa [show szB (s : Int) = true from decide_eq_true (by omega)] at this
  obtain ⟨a, ha⟩ : ∃ a, n % (s + 7) = a := ⟨_, rfl⟩
  have hm : (n : Int) % ((s : Int) + 7) = (a : Int) := by rw [show (s : Int) + 7 = ((s + 7 : Nat) : Int) by omega, ← Int.natCast_emod, ha]
  have d1 : ((a : Int) != 0) = true := bne_iff_ne.2 (by omega)
  have hs7 : ((s : Int) + 7 == 0) = false := by rw [beq_eq_false_iff_ne]; omega
  clear ha hT
  go_enter Try.func24, Try.ntmps24
  go_wp2_with fail
  refine (HS.out _).mono ?_
  rintro e w1 ⟨rfl, rfl⟩
  go_wp2_with fail
  go_ret2
  exact ⟨rfl, rfl⟩

/-- What Split returns. -/
def spA (a : Int) (bs : List ByteArray) : List (List ByteArray) × Int :=
  if szB a = true ∧ okL bs = true then (preL a.toNat bs (npk a.toNat bs.length), 0) else ([], 1)
def SpQ (a : Int) (bs : List ByteArray) (w : World) (e : Ending) (w' : World) : Prop :=
  (∃ vo vs, e = .returned (.tuple #[vo, .int .i64 (spA a bs).2]) ∧ PKI w' w.heap.size vo vs (spA a bs).1) ∧ Below w.heap.size w w'
theorem SpQ.err {a : Int} {bs : List ByteArray} {w w' : World} (h : szB a = false ∨ okL bs = false) (hb : Below w.heap.size w w') : SpQ a bs w (.returned (.tuple #[.slice none 0 0, .int .i64 1])) w' := by
  have e : spA a bs = ([], 1) := by
    unfold spA
    rcases h with h | h <;> rw [h, if_neg (by simp)]
  refine ⟨⟨.slice none 0 0, [], by rw [e], ?_⟩, hb⟩
  rw [e]; exact ⟨rfl, World.ownsRow_nil _ _ _ _, fun p x b h => by simp at h⟩
theorem SpQ.ok {s : Nat} {bs : List ByteArray} {w w' : World} {vo : Value} {vs : List Value} (h1 : szB (s : Int) = true) (h2 : okL bs = true) (h : PKI w' w.heap.size vo vs (preL s bs (npk s bs.length))) (hb : Below w.heap.size w w') : SpQ (s : Int) bs w (.returned (.tuple #[vo, .int .i64 0])) w' := by
  have e : spA (s : Int) bs = (preL s bs (npk s bs.length), 0) := by unfold spA; rw [if_pos ⟨h1, h2⟩]; rfl
  exact ⟨⟨vo, vs, by rw [e], by rw [e]; exact h⟩, hb⟩
theorem Split_all (a : Int) (v : Value) (bs : List ByteArray) (hn : bs.length ≤ 20) (w : World) (hv : SR w v bs) : Calls Try.prog 19 #[.int .i64 a, v] w (SpQ a bs w) := by
  by_cases hz : szB a = true
  · have hb := szB_true hz
    obtain ⟨s, rfl⟩ := Int.eq_ofNat_of_zero_le (show 0 ≤ a by omega)
    by_cases hl : okL bs = true
    · refine (Split_ok s (by omega) v bs hl (by omega) w hv).mono ?_
      rintro e w' ⟨⟨vo, vs, rfl, h⟩, hb⟩
      exact SpQ.ok hz hl h hb
    · refine (Split_bad s (by omega) v bs (by simpa using hl) (by omega) w hv).mono ?_
      rintro e w' ⟨rfl, rfl⟩
      exact SpQ.err (.inr (by simpa using hl)) (Below.refl _ _)
  · refine (Split_size a (by simpa using hz) v w).mono ?_
    rintro e w' ⟨rfl, rfl⟩
    exact SpQ.err (.inl (by simpa using hz)) (Below.refl _ _)
theorem refSplit_all (a : Int) (v : Value) (bs : List ByteArray) (hn : bs.length ≤ 20) (w : World) (hv : SR w v bs) : Calls Try.prog 20 #[.int .i64 a, v] w (SpQ a bs w) := by
  by_cases hz : szB a = true
  · have hb := szB_true hz
    obtain ⟨s, rfl⟩ := Int.eq_ofNat_of_zero_le (show 0 ≤ a by omega)
    refine (refSplit_any s (by omega) v bs (by omega) w hv).mono ?_
    rintro e w' ⟨⟨hl, vo, vs, rfl, h⟩ | ⟨hl, rfl⟩, hb⟩
    · exact SpQ.ok hz hl h hb
    · exact SpQ.err (.inr hl) hb
  · refine (refSplit_size a (by simpa using hz) v w).mono ?_
    rintro e w' ⟨rfl, rfl⟩
    exact SpQ.err (.inl (by simpa using hz)) (Below.refl _ _)

/-- What Record returns. -/
def recA (a st : Int) (bs : List ByteArray) : List ByteArray × Int := if szB a = true then recD a.toNat st bs else ([], 1)
def RecQ (a st : Int) (bs : List ByteArray) (w : World) (e : Ending) (w' : World) : Prop :=
  (∃ vr, e = .returned (.tuple #[vr, .int .i64 (recA a st bs).2]) ∧ w'.ownsRow w.heap.size 53 7 vr (recA a st bs).1.length (secsC st 0 (recA a st bs).1)) ∧ Below w.heap.size w w'
theorem RecQ.of {s : Nat} {st : Int} {bs : List ByteArray} {w w' : World} {e : Ending} (h : szB (s : Int) = true) (hp : RecP s st bs w e w') : RecQ (s : Int) st bs w e w' := by
  have e : recA (s : Int) st bs = recD s st bs := by unfold recA; rw [if_pos h]; rfl
  unfold RecQ; rw [e]; exact hp
theorem RecQ.size {a st : Int} {bs : List ByteArray} {w w' : World} (h : szB a = false) (hb : Below w.heap.size w w') : RecQ a st bs w (.returned (.tuple #[.slice none 0 0, .int .i64 1])) w' := by
  have e : recA a st bs = ([], 1) := by unfold recA; rw [h, if_neg (by simp)]
  refine ⟨⟨.slice none 0 0, by rw [e], ?_⟩, hb⟩
  rw [e]; exact World.ownsRow_nil _ _ _ _
theorem Record_all (a st : Int) (h4 : a ≤ 40 ∨ 1024 < a) (v : Value) (bs : List ByteArray) (hn : bs.length ≤ 20) (w : World) (hv : SR w v bs) : Calls Try.prog 21 #[.int .i64 a, .int .i64 st, v] w (RecQ a st bs w) := by
  by_cases hz : szB a = true
  · have hb := szB_true hz
    obtain ⟨s, rfl⟩ := Int.eq_ofNat_of_zero_le (show 0 ≤ a by omega)
    by_cases hl : okL bs = true
    · by_cases hr : 0 ≤ st ∧ st ≤ 449849 ∧ st + ((npk s bs.length * (s + 7) : Nat) : Int) - 1 ≤ 449849
      · refine (Record_ok s (by omega) st v bs hl hn ⟨hr.1, hr.2.2⟩ hr.2.1 w hv).mono ?_
        rintro e w' ⟨⟨vr, rfl, h⟩, hb⟩
        have e := recD_ok (s := s) (st := st) hl hr
        exact RecQ.of hz ⟨⟨vr, by rw [e], by rw [e]; exact h⟩, hb⟩
      · refine (Record_range s (by omega) st v bs hl hn (by omega) w hv).mono ?_
        rintro e w' ⟨rfl, hb⟩
        exact RecQ.of hz (RecP.err (recD_far hl hr) hb)
    · refine (Record_bad s (by omega) st v bs (by simpa using hl) (by omega) w hv).mono ?_
      rintro e w' ⟨rfl, hb⟩
      exact RecQ.of hz (RecP.err (recD_bad (by simpa using hl)) hb)
  · refine (Record_size a (by simpa using hz) st v w).mono ?_
    rintro e w' ⟨rfl, hb⟩
    exact RecQ.size (by simpa using hz) hb
theorem refRecord_all (a st : Int) (hst : -9223372036854775808 ≤ st ∧ st ≤ 9223372036854775807) (h4 : a ≤ 40 ∨ 1024 < a) (v : Value) (bs : List ByteArray) (hn : bs.length ≤ 20) (w : World) (hv : SR w v bs) : Calls Try.prog 22 #[.int .i64 a, .int .i64 st, v] w (RecQ a st bs w) := by
  by_cases hz : szB a = true
  · have hb := szB_true hz
    obtain ⟨s, rfl⟩ := Int.eq_ofNat_of_zero_le (show 0 ≤ a by omega)
    exact (refRecord_any s (by omega) st hst v bs hn w hv).mono fun e w' h => RecQ.of hz h
  · refine (refRecord_size a (by simpa using hz) st v w).mono ?_
    rintro e w' ⟨rfl, rfl⟩
    exact RecQ.size (by simpa using hz) (Below.refl _ _)

/-- What Collect returns. -/
def allGB (s : Nat) (xs : List Sec7) : Bool := (List.range xs.length).all (gdS s xs)
theorem allGB_iff (s : Nat) (xs : List Sec7) : allGB s xs = true ↔ allG s xs xs.length := by
  unfold allGB allG
  rw [List.all_eq_true]
  exact ⟨fun h j hj => h j (List.mem_range.2 hj), fun h j hj => h j (List.mem_range.1 hj)⟩
def colA (a : Int) (xs : List Sec7) : List ByteArray × Int :=
  if szB a = true then (if xs.length % (a.toNat + 7) = 0 ∧ allGB a.toNat xs = true then (colX a.toNat xs xs.length, 0) else ([], 10)) else ([], 1)
def ColQ (a : Int) (xs : List Sec7) (w : World) (e : Ending) (w' : World) : Prop :=
  (∃ vo, e = .returned (.tuple #[vo, .int .i64 (colA a xs).2]) ∧ w'.ownsRow w.heap.size 9 1 vo (colA a xs).1.length (strV (colA a xs).1)) ∧ Below w.heap.size w w'
theorem ColQ.err {a : Int} {xs : List Sec7} {c : Int} {w w' : World} (h : colA a xs = ([], c)) (hb : Below w.heap.size w w') : ColQ a xs w (.returned (.tuple #[.slice none 0 0, .int .i64 c])) w' := by
  refine ⟨⟨.slice none 0 0, by rw [h], ?_⟩, hb⟩
  rw [h]; exact World.ownsRow_nil _ _ _ _
theorem colA_size {a : Int} {xs : List Sec7} (h : szB a = false) : colA a xs = ([], 1) := by unfold colA; rw [h, if_neg (by simp)]
theorem colA_no {s : Nat} {xs : List Sec7} (h : szB (s : Int) = true) (h2 : ¬ (xs.length % (s + 7) = 0 ∧ allG s xs xs.length)) : colA (s : Int) xs = ([], 10) := by
  unfold colA
  rw [if_pos h, if_neg (fun k => h2 ⟨k.1, (allGB_iff s xs).1 k.2⟩)]
theorem colA_yes {s : Nat} {xs : List Sec7} (h : szB (s : Int) = true) (h1 : xs.length % (s + 7) = 0) (h2 : allG s xs xs.length) : colA (s : Int) xs = (colX s xs xs.length, 0) := by
  unfold colA
  rw [if_pos h, if_pos ⟨h1, (allGB_iff s xs).2 h2⟩]; rfl
theorem ColQ.of {s : Nat} {xs : List Sec7} {w w' : World} {e : Ending} (h : szB (s : Int) = true) (hT : xs.length % (s + 7) = 0) (hp : ColP s xs w e w') : ColQ (s : Int) xs w e w' := by
  rcases hp with ⟨⟨vo, rfl, ho, hg⟩ | ⟨rfl, hg⟩, hb⟩
  · have e := colA_yes h hT hg
    exact ⟨⟨vo, by rw [e], by rw [e]; exact ho⟩, hb⟩
  · exact ColQ.err (colA_no h (fun k => hg k.2)) hb
theorem Collect_all (a : Int) (v : Value) (xs : List Sec7) (hn : xs.length ≤ 40) (w : World) (ho : SecR w v xs) : Calls Try.prog 23 #[.int .i64 a, v] w (ColQ a xs w) := by
  by_cases hz : szB a = true
  · have hb := szB_true hz
    obtain ⟨s, rfl⟩ := Int.eq_ofNat_of_zero_le (show 0 ≤ a by omega)
    by_cases hT : xs.length % (s + 7) = 0
    · exact (Collect_any s (by omega) xs hT (by omega) v w ho).mono fun e w' h => ColQ.of hz hT h
    · obtain ⟨p, cap, rfl⟩ := ho.len
      refine (Collect_mod s (by omega) xs.length (by omega) hT p cap w).mono ?_
      rintro e w' ⟨rfl, rfl⟩
      exact ColQ.err (colA_no hz (fun k => hT k.1)) (Below.refl _ _)
  · refine (Collect_size a (by simpa using hz) v w).mono ?_
    rintro e w' ⟨rfl, rfl⟩
    exact ColQ.err (colA_size (by simpa using hz)) (Below.refl _ _)
theorem refCollect_all (a : Int) (v : Value) (xs : List Sec7) (hn : xs.length ≤ 40) (w : World) (ho : SecR w v xs) : Calls Try.prog 24 #[.int .i64 a, v] w (ColQ a xs w) := by
  by_cases hz : szB a = true
  · have hb := szB_true hz
    obtain ⟨s, rfl⟩ := Int.eq_ofNat_of_zero_le (show 0 ≤ a by omega)
    by_cases hT : xs.length % (s + 7) = 0
    · exact (refCollect_any s (by omega) xs hT (by omega) v w ho).mono fun e w' h => ColQ.of hz hT h
    · obtain ⟨p, cap, rfl⟩ := ho.len
      refine (refCollect_mod s (by omega) xs.length (by omega) hT p cap w).mono ?_
      rintro e w' ⟨rfl, rfl⟩
      exact ColQ.err (colA_no hz (fun k => hT k.1)) (Below.refl _ _)
  · refine (refCollect_size a (by simpa using hz) v w).mono ?_
    rintro e w' ⟨rfl, rfl⟩
    exact ColQ.err (colA_size (by simpa using hz)) (Below.refl _ _)
end Go.Proofs.Ytpcfjlfdjkifgaa

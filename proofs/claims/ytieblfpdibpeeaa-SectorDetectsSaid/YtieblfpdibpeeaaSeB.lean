/-
  Contracts of package sector's edc, Capacity and Span, and of the reference's Capacity and Span.
-/
import Derived.Test.YtieblfpdibpeeaaSeA
import Derived.Deep.RegionHeld3
namespace Go.Proofs.Ytieblfpdibpeeaa
open Go.RowKit Go.Lib
set_option linter.unusedVariables false
set_option linter.unusedSimpArgs false

theorem ledc_any (b d c o : Int) (hd : d = 16 ∨ d = 24) (hc : 0 ≤ c ∧ c ≤ 2324) (w : World) : Calls Try.prog 39 #[.agg #[.int .u8 b, .int .i64 d, .int .i64 c, .int .i64 o]] w fun e w' => e = .returned (.int .i64 (d + c)) ∧ Below w.heap.size w w' := by
  go_enter Try.func39, Try.ntmps39
  go_wp2_with fail
  go_ret
  exact ⟨rfl, by (repeat (first | exact Below.refl _ _ | assumption | refine balloc ?_ _ | refine bdrew ?_ | refine bdrN ?_ _ | refine bset _ (by first | omega | (simp; done) | (simp; omega)) ?_ | refine brow _ _ (by first | omega | (simp; done) | (simp; omega)) ?_ | (apply bthen; rotate_left; assumption)))⟩

/-- What Capacity and Span return. -/
def capE (m : Int) : Int × Int := if m = 0 ∨ m = 1 then (2048, 0) else if m = 2 then (2324, 0) else (0, 1)
def spanE (m : Int) : Int × Int × Int := if m = 0 then (0, 2064, 0) else if m = 1 then (16, 2056, 0) else if m = 2 then (16, 2332, 0) else (0, 0, 1)
theorem mode_cases (m : Int) : (∃ b d c o, IsLay m b d c o) ∨ (m < 0 ∨ 2 < m) := by
  by_cases h : m < 0 ∨ 2 < m
  · exact .inr h
  · have : m = 0 ∨ m = 1 ∨ m = 2 := by omega
    rcases this with rfl | rfl | rfl
    · exact .inl ⟨_, _, _, _, ⟨.inl ⟨rfl, rfl, rfl, rfl, rfl⟩⟩⟩
    · exact .inl ⟨_, _, _, _, ⟨.inr (.inl ⟨rfl, rfl, rfl, rfl, rfl⟩)⟩⟩
    · exact .inl ⟨_, _, _, _, ⟨.inr (.inr ⟨rfl, rfl, rfl, rfl, rfl⟩)⟩⟩
theorem IsLay.cap {m b d c o : Int} (h : IsLay m b d c o) : capE m = (c, 0) := by
  rcases h.or with ⟨rfl, rfl, rfl, rfl, rfl⟩ | ⟨rfl, rfl, rfl, rfl, rfl⟩ | ⟨rfl, rfl, rfl, rfl, rfl⟩ <;> rfl
theorem IsLay.span {m b d c o : Int} (h : IsLay m b d c o) : spanE m = (o, d + c - o, 0) := by
  rcases h.or with ⟨rfl, rfl, rfl, rfl, rfl⟩ | ⟨rfl, rfl, rfl, rfl, rfl⟩ | ⟨rfl, rfl, rfl, rfl, rfl⟩ <;> rfl
theorem cap_no {m : Int} (h : m < 0 ∨ 2 < m) : capE m = (0, 1) := by
  unfold capE; rw [if_neg (by omega), if_neg (by omega)]
theorem span_no {m : Int} (h : m < 0 ∨ 2 < m) : spanE m = (0, 0, 1) := by
  unfold spanE; rw [if_neg (by omega), if_neg (by omega), if_neg (by omega)]
theorem IsLay.bd {m b d c o : Int} (h : IsLay m b d c o) : (d = 16 ∨ d = 24) ∧ (c = 2048 ∨ c = 2324) ∧ (o = 0 ∨ o = 16) ∧ (b = 1 ∨ b = 2) ∧ 0 ≤ m ∧ m ≤ 2 := by
  rcases h.or with ⟨rfl, rfl, rfl, rfl, rfl⟩ | ⟨rfl, rfl, rfl, rfl, rfl⟩ | ⟨rfl, rfl, rfl, rfl, rfl⟩ <;> decide

/-- What is held of the world while a region reads a layout next to a call. -/
theorem lay_keep {w w' w2 : World} {g : Nat} {a b c d : Value} (h : w'.cell? ⟨g, 0, none⟩ = some a ∧ w'.cell? ⟨g, 1, none⟩ = some b ∧ w'.cell? ⟨g, 2, none⟩ = some c ∧ w'.cell? ⟨g, 3, none⟩ = some d ∧ g < w'.heap.size ∧ Below w.heap.size w w') (hb : Below w'.heap.size w' w2) :
    w2.cell? ⟨g, 0, none⟩ = some a ∧ w2.cell? ⟨g, 1, none⟩ = some b ∧ w2.cell? ⟨g, 2, none⟩ = some c ∧ w2.cell? ⟨g, 3, none⟩ = some d ∧ g < w2.heap.size ∧ Below w.heap.size w w2 := by
  obtain ⟨h0, h1, h2, h3, hg, hbb⟩ := h
  exact ⟨(hb.cell (p := ⟨g, 0, none⟩) hg).trans h0, (hb.cell (p := ⟨g, 1, none⟩) hg).trans h1, (hb.cell (p := ⟨g, 2, none⟩) hg).trans h2, (hb.cell (p := ⟨g, 3, none⟩) hg).trans h3, Nat.lt_of_lt_of_le hg hb.size, bthen hbb hb⟩
theorem lay_made {w w1 : World} {a b c d : Value} {t : TypeId} (hbb : Below w.heap.size w w1) :
    (w1.alloc (.cells #[a, b, c, d] t)).cell? ⟨w1.heap.size, 0, none⟩ = some a ∧ (w1.alloc (.cells #[a, b, c, d] t)).cell? ⟨w1.heap.size, 1, none⟩ = some b ∧ (w1.alloc (.cells #[a, b, c, d] t)).cell? ⟨w1.heap.size, 2, none⟩ = some c ∧ (w1.alloc (.cells #[a, b, c, d] t)).cell? ⟨w1.heap.size, 3, none⟩ = some d ∧ w1.heap.size < (w1.alloc (.cells #[a, b, c, d] t)).heap.size ∧ Below w.heap.size w (w1.alloc (.cells #[a, b, c, d] t)) := by
  refine ⟨by simp, by simp, by simp, by simp, by simp, balloc hbb _⟩

theorem Capacity_any (m : Int) (w : World) : Calls Try.prog 15 #[.int .i64 m] w fun e w' => e = .returned (.tuple #[.int .i64 (capE m).1, .int .i64 (capE m).2]) ∧ Below w.heap.size w w' := by
  rcases mode_cases m with ⟨b, d, c, o, h⟩ | h
  · rw [h.cap]
    have HL := hid (fun w => layouts_ok m b d c o h w)
    clear h
    go_enter Try.func15, Try.ntmps15
    go_wp2_with fail
    refine (HL.out _).mono ?_
    rintro e w1 ⟨rfl, hb⟩
    go_wp2_with fail
    go_ret2
    exact ⟨rfl, by (repeat (first | exact Below.refl _ _ | assumption | refine balloc ?_ _ | refine bdrew ?_ | refine bdrN ?_ _ | refine bset _ (by first | omega | (simp; done) | (simp; omega)) ?_ | refine brow _ _ (by first | omega | (simp; done) | (simp; omega)) ?_ | (apply bthen; rotate_left; assumption)))⟩
  · rw [cap_no h]
    have HL := hid (fun w => layouts_no m h w)
    clear h
    go_enter Try.func15, Try.ntmps15
    go_wp2_with fail
    refine (HL.out _).mono ?_
    rintro e w1 ⟨rfl, hb⟩
    go_wp2_with fail
    go_ret2
    exact ⟨rfl, by (repeat (first | exact Below.refl _ _ | assumption | refine balloc ?_ _ | refine bdrew ?_ | refine bdrN ?_ _ | refine bset _ (by first | omega | (simp; done) | (simp; omega)) ?_ | refine brow _ _ (by first | omega | (simp; done) | (simp; omega)) ?_ | (apply bthen; rotate_left; assumption)))⟩

theorem Span_any (m : Int) (w : World) : Calls Try.prog 17 #[.int .i64 m] w fun e w' => e = .returned (.tuple #[.int .i64 (spanE m).1, .int .i64 (spanE m).2.1, .int .i64 (spanE m).2.2]) ∧ Below w.heap.size w w' := by
  rcases mode_cases m with ⟨b, d, c, o, h⟩ | h
  · rw [h.span]
    have HL := hid (fun w => layouts_ok m b d c o h w)
    obtain ⟨h1, h2, h3, _⟩ := h.bd
    have HE := hid (fun w => ledc_any b d c o h1 (by omega) w)
    clear h
    go_enter Try.func17, Try.ntmps17
    go_wp2_with fail
    refine (HL.out _).mono ?_
    rintro e w1 ⟨rfl, hb⟩
    go_wp2_with fail
    have hS := lay_made (a := .int .u8 b) (b := .int .i64 d) (c := .int .i64 c) (d := .int .i64 o) (t := 48) hb
    generalize w1.alloc (Obj.cells #[Value.int IntKind.u8 b, Value.int IntKind.i64 d, Value.int IntKind.i64 c, Value.int IntKind.i64 o] 48) = W at hS ⊢
    have s1 : IntKind.i64.wrap (d + c - o) = d + c - o := IntWalk.i64_in _ (by omega)
    go_region_held3 (fun w' => w'.cell? ⟨w1.heap.size, 0, none⟩ = some (.int .u8 b) ∧ w'.cell? ⟨w1.heap.size, 1, none⟩ = some (.int .i64 d) ∧ w'.cell? ⟨w1.heap.size, 2, none⟩ = some (.int .i64 c) ∧ w'.cell? ⟨w1.heap.size, 3, none⟩ = some (.int .i64 o) ∧ w1.heap.size < w'.heap.size ∧ Below w.heap.size w w')
      (first | exact hS | exact lay_keep hS (bdrew (Below.refl _ _)) | exact lay_keep (by assumption) (by assumption) | exact lay_keep hS (by assumption) | assumption)
      (first | (go_at_call 39; refine (HE.out _).mono ?_; rintro e w2 ⟨rfl, hb2⟩))
    go_wp2_with fail
    refine bodyPost_ret (by simp [results, Try.results17, go_sem]) rfl ⟨rfl, ?_⟩
    rename_i hh
    exact hh.2.2.2.2.2
  · rw [span_no h]
    have HL := hid (fun w => layouts_no m h w)
    clear h
    go_enter Try.func17, Try.ntmps17
    go_wp2_with fail
    refine (HL.out _).mono ?_
    rintro e w1 ⟨rfl, hb⟩
    go_wp2_with fail
    refine bodyPost_ret (by simp [results, Try.results17, go_sem]) rfl ⟨rfl, ?_⟩
    (repeat (first | exact Below.refl _ _ | assumption | refine balloc ?_ _ | refine bdrew ?_ | refine bdrN ?_ _ | refine bset _ (by first | omega | (simp; done) | (simp; omega)) ?_ | refine brow _ _ (by first | omega | (simp; done) | (simp; omega)) ?_ | (apply bthen; rotate_left; assumption)))

theorem refCapacity_any (m : Int) (w : World) : Calls Try.prog 16 #[.int .i64 m] w fun e w' => e = .returned (.tuple #[.int .i64 (capE m).1, .int .i64 (capE m).2]) ∧ w = w' := by
  rcases mode_cases m with ⟨b, d, c, o, h⟩ | h
  · rw [h.cap]
    rcases h.or with ⟨rfl, rfl, rfl, rfl, rfl⟩ | ⟨rfl, rfl, rfl, rfl, rfl⟩ | ⟨rfl, rfl, rfl, rfl, rfl⟩
    all_goals
      go_enter Try.func16, Try.ntmps16
      go_wp2_with fail
      go_ret2
      exact ⟨rfl, rfl⟩
  · rw [cap_no h]
    have d0 : (m == 0) = false := by rw [beq_eq_false_iff_ne]; omega
    have d1 : (m == 1) = false := by rw [beq_eq_false_iff_ne]; omega
    have d2 : (m == 2) = false := by rw [beq_eq_false_iff_ne]; omega
    clear h
    go_enter Try.func16, Try.ntmps16
    go_wp2_with fail
    go_ret2
    exact ⟨rfl, rfl⟩
theorem refSpan_any (m : Int) (w : World) : Calls Try.prog 18 #[.int .i64 m] w fun e w' => e = .returned (.tuple #[.int .i64 (spanE m).1, .int .i64 (spanE m).2.1, .int .i64 (spanE m).2.2]) ∧ w = w' := by
  rcases mode_cases m with ⟨b, d, c, o, h⟩ | h
  · rw [h.span]
    rcases h.or with ⟨rfl, rfl, rfl, rfl, rfl⟩ | ⟨rfl, rfl, rfl, rfl, rfl⟩ | ⟨rfl, rfl, rfl, rfl, rfl⟩
    all_goals
      go_enter Try.func18, Try.ntmps18
      go_wp2_with fail
      exact bodyPost_ret (by simp [results, Try.results18, go_sem]) rfl ⟨rfl, rfl⟩
  · rw [span_no h]
    have d0 : (m == 0) = false := by rw [beq_eq_false_iff_ne]; omega
    have d1 : (m == 1) = false := by rw [beq_eq_false_iff_ne]; omega
    have d2 : (m == 2) = false := by rw [beq_eq_false_iff_ne]; omega
    clear h
    go_enter Try.func18, Try.ntmps18
    go_wp2_with fail
    exact bodyPost_ret (by simp [results, Try.results18, go_sem]) rfl ⟨rfl, rfl⟩
end Go.Proofs.Ytieblfpdibpeeaa

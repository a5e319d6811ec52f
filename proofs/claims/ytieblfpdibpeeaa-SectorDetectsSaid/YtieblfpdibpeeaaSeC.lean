/-
  Contracts of package address and of its reference: numbers and addresses.
-/
import Derived.Test.YtieblfpdibpeeaaSeW
import Derived.LoopN
import Derived.Laws.BytesArg
namespace Go.Proofs.Ytieblfpdibpeeaa
open Go.RowKit Go.Lib
set_option linter.unusedVariables false
set_option linter.unusedSimpArgs false

/-- The address with a number. -/
def msfV (n : Int) : Value := .agg #[.int .i64 (n / 75 / 60), .int .i64 (n / 75 % 60), .int .i64 (n % 75)]
def msf0 : Value := .agg #[.int .i64 0, .int .i64 0, .int .i64 0]
def inR (n : Int) : Prop := 0 ≤ n ∧ n ≤ 449999
/-- What ToMSF returns. -/
def toE (lba : Int) : Value := if 0 ≤ lba + 150 ∧ lba + 150 ≤ 449999 then .tuple #[msfV (lba + 150), .int .i64 0] else .tuple #[msf0, .int .i64 2]

theorem numbered_ok (n : Int) (h0 : 0 ≤ n) (h1 : n ≤ 449999) (w : World) : Calls Try.prog 50 #[.int .i64 n] w fun e w' => e = .returned (.tuple #[msfV n, .bool true]) ∧ Below w.heap.size w w' := by
  have d0 : decide (n < 0) = false := decide_eq_false (by omega)
  have d1 : decide (449999 < n) = false := decide_eq_false (by omega)
  go_enter Try.func50, Try.ntmps50
  go_wp2_with fail
  refine bodyPost_ret (v := .tuple #[msfV n, .bool true]) (by simp [results, Try.results50, go_sem, msfV]) rfl ⟨rfl, ?_⟩
  (repeat (first | exact Below.refl _ _ | assumption | refine balloc ?_ _ | refine bdrew ?_ | refine bdrN ?_ _ | refine bset _ (by first | omega | (simp; done) | (simp; omega)) ?_ | refine brow _ _ (by first | omega | (simp; done) | (simp; omega)) ?_ | (apply bthen; rotate_left; assumption)))
theorem numbered_no (n : Int) (h : n < 0 ∨ 449999 < n) (w : World) : Calls Try.prog 50 #[.int .i64 n] w fun e w' => e = .returned (.tuple #[msf0, .bool false]) ∧ Below w.heap.size w w' := by
  rcases h with h | h
  · have d0 : decide (n < 0) = true := decide_eq_true (by omega)
    go_enter Try.func50, Try.ntmps50
    go_wp2_with fail
    refine bodyPost_ret (v := .tuple #[msf0, .bool false]) (by simp [results, Try.results50, go_sem, msf0]) rfl ⟨rfl, ?_⟩
    (repeat (first | exact Below.refl _ _ | assumption | refine balloc ?_ _ | refine bdrew ?_ | refine bdrN ?_ _ | refine bset _ (by first | omega | (simp; done) | (simp; omega)) ?_ | refine brow _ _ (by first | omega | (simp; done) | (simp; omega)) ?_ | (apply bthen; rotate_left; assumption)))
  · have d0 : decide (n < 0) = false := decide_eq_false (by omega)
    have d1 : decide (449999 < n) = true := decide_eq_true (by omega)
    go_enter Try.func50, Try.ntmps50
    go_wp2_with fail
    refine bodyPost_ret (v := .tuple #[msf0, .bool false]) (by simp [results, Try.results50, go_sem, msf0]) rfl ⟨rfl, ?_⟩
    (repeat (first | exact Below.refl _ _ | assumption | refine balloc ?_ _ | refine bdrew ?_ | refine bdrN ?_ _ | refine bset _ (by first | omega | (simp; done) | (simp; omega)) ?_ | refine brow _ _ (by first | omega | (simp; done) | (simp; omega)) ?_ | (apply bthen; rotate_left; assumption)))

theorem kept3 {w1 w2 : World} {a b c : Value} {t : TypeId} (hb : Below (w1.alloc (.cells #[a, b, c] t)).heap.size (w1.alloc (.cells #[a, b, c] t)) w2) :
    w1.heap.size < w2.heap.size ∧ w2.cell? ⟨w1.heap.size, 0, none⟩ = some a ∧ w2.cell? ⟨w1.heap.size, 1, none⟩ = some b ∧ w2.cell? ⟨w1.heap.size, 2, none⟩ = some c ∧
      w2.frozen? ⟨w1.heap.size, 0, none⟩ = false ∧ w2.frozen? ⟨w1.heap.size, 1, none⟩ = false ∧ w2.frozen? ⟨w1.heap.size, 2, none⟩ = false := by
  have hs : w1.heap.size < (w1.alloc (.cells #[a, b, c] t)).heap.size := by simp
  obtain ⟨k, k0, k1, k2⟩ := keep3 hb
  refine ⟨k, k0, k1, k2, ?_, ?_, ?_⟩
  · rw [hb.frozen (p := ⟨w1.heap.size, 0, none⟩) hs]; simp
  · rw [hb.frozen (p := ⟨w1.heap.size, 1, none⟩) hs]; simp
  · rw [hb.frozen (p := ⟨w1.heap.size, 2, none⟩) hs]; simp

theorem ToMSF_ok (l n : Int) (hl : l = n - 150) (h0 : 0 ≤ n) (h1 : n ≤ 449999) (w : World) : Calls Try.prog 27 #[.int .i64 l] w fun e w' => e = .returned (.tuple #[msfV n, .int .i64 0]) ∧ Below w.heap.size w w' := by
  subst hl
  have d0 : decide (449849 < n - 150) = false := decide_eq_false (by omega)
  have HN : Hid (∀ w : World, Calls Try.prog 50 #[.int .i64 n] w fun e w' => e = .returned (.tuple #[.agg #[.int .i64 (n / 75 / 60), .int .i64 (n / 75 % 60), .int .i64 (n % 75)], .bool true]) ∧ Below w.heap.size w w') := fun w => numbered_ok n h0 h1 w
  go_enter Try.func27, Try.ntmps27
  go_wp2_with fail
  refine ((by simpa using HN.out _) : Calls _ _ _ _ _).mono ?_
  rintro e w1 ⟨rfl, hb⟩
  obtain ⟨z0, k0, k1, k2, f0, f1, f2⟩ := kept3 hb
  go_wp2_with fail
  refine bodyPost_ret (v := .tuple #[msfV n, .int .i64 0]) (by simp [results, Try.results27, go_sem, msfV, k0, k1, k2, z0]) rfl ⟨rfl, ?_⟩
  (repeat (first | exact Below.refl _ _ | assumption | refine balloc ?_ _ | refine bdrew ?_ | refine bdrN ?_ _ | refine bset _ (by first | omega | (simp; done) | (simp; omega)) ?_ | refine brow _ _ (by first | omega | (simp; done) | (simp; omega)) ?_ | (apply bthen; rotate_left; assumption)))
theorem ToMSF_no (l : Int) (h : l + 150 < 0 ∨ 449999 < l + 150) (hl : -9223372036854775808 ≤ l ∧ l ≤ 9223372036854775807) (w : World) : Calls Try.prog 27 #[.int .i64 l] w fun e w' => e = .returned (.tuple #[msf0, .int .i64 2]) ∧ Below w.heap.size w w' := by
  by_cases h1 : 449999 < l + 150
  · have d0 : decide (449849 < l) = true := decide_eq_true (by omega)
    go_enter Try.func27, Try.ntmps27
    go_wp2_with fail
    refine bodyPost_ret (v := .tuple #[msf0, .int .i64 2]) (by simp [results, Try.results27, go_sem, msf0]) rfl ⟨rfl, ?_⟩
    (repeat (first | exact Below.refl _ _ | assumption | refine balloc ?_ _ | refine bdrew ?_ | refine bdrN ?_ _ | refine bset _ (by first | omega | (simp; done) | (simp; omega)) ?_ | refine brow _ _ (by first | omega | (simp; done) | (simp; omega)) ?_ | (apply bthen; rotate_left; assumption)))
  · have d0 : decide (449849 < l) = false := decide_eq_false (by omega)
    have HN : Hid (∀ w : World, Calls Try.prog 50 #[.int .i64 (l + 150)] w fun e w' => e = .returned (.tuple #[.agg #[.int .i64 0, .int .i64 0, .int .i64 0], .bool false]) ∧ Below w.heap.size w w') := fun w => numbered_no (l + 150) (by omega) w
    go_enter Try.func27, Try.ntmps27
    go_wp2_with fail
    refine (HN.out _).mono ?_
    rintro e w1 ⟨rfl, hb⟩
    obtain ⟨z0, k0, k1, k2, f0, f1, f2⟩ := kept3 hb
    go_wp2_with fail
    refine bodyPost_ret (v := .tuple #[msf0, .int .i64 2]) (by simp [results, Try.results27, go_sem, msf0, k0, k1, k2, z0]) rfl ⟨rfl, ?_⟩
    (repeat (first | exact Below.refl _ _ | assumption | refine balloc ?_ _ | refine bdrew ?_ | refine bdrN ?_ _ | refine bset _ (by first | omega | (simp; done) | (simp; omega)) ?_ | refine brow _ _ (by first | omega | (simp; done) | (simp; omega)) ?_ | (apply bthen; rotate_left; assumption)))
theorem refToMSF_ok (l n : Int) (hl : l = n - 150) (h0 : 0 ≤ n) (h1 : n ≤ 449999) (w : World) : Calls Try.prog 32 #[.int .i64 l] w fun e w' => e = .returned (.tuple #[msfV n, .int .i64 0]) ∧ Below w.heap.size w w' := by
  subst hl
  have d0 : decide (n - 150 < -150) = false := decide_eq_false (by omega)
  have d1 : decide (449849 < n - 150) = false := decide_eq_false (by omega)
  have hq : n / 4500 = n / 75 / 60 := by omega
  go_enter Try.func32, Try.ntmps32
  go_wp2_with fail
  refine bodyPost_ret (v := .tuple #[msfV n, .int .i64 0]) (by simp [results, Try.results32, go_sem, msfV, hq]) rfl ⟨rfl, ?_⟩
  (repeat (first | exact Below.refl _ _ | assumption | refine balloc ?_ _ | refine bdrew ?_ | refine bdrN ?_ _ | refine bset _ (by first | omega | (simp; done) | (simp; omega)) ?_ | refine brow _ _ (by first | omega | (simp; done) | (simp; omega)) ?_ | (apply bthen; rotate_left; assumption)))

/-- The address' parts are in range. -/
theorem limit_any (i c : Int) (w : World) (h : i = 0 ∧ c = 100 ∨ i = 1 ∧ c = 60 ∨ i = 2 ∧ c = 75) : Calls Try.prog 72 #[.int .i64 i] w fun e w' => e = .returned (.int .i64 c) ∧ Below w.heap.size w w' := by
  rcases h with ⟨rfl, rfl⟩ | ⟨rfl, rfl⟩ | ⟨rfl, rfl⟩
  all_goals
    go_enter Try.func72, Try.ntmps72
    go_wp2_with fail
    go_ret
    exact ⟨rfl, by (repeat (first | exact Below.refl _ _ | assumption | refine balloc ?_ _ | refine bdrew ?_ | refine bdrN ?_ _ | refine bset _ (by first | omega | (simp; done) | (simp; omega)) ?_ | refine brow _ _ (by first | omega | (simp; done) | (simp; omega)) ?_ | (apply bthen; rotate_left; assumption)))⟩
theorem split_any (m s f : Int) (w : World) : Calls Try.prog 71 #[.agg #[.int .i64 m, .int .i64 s, .int .i64 f]] w fun e w' => e = .returned (.agg #[.int .i64 m, .int .i64 s, .int .i64 f]) ∧ Below w.heap.size w w' := by
  go_enter Try.func71, Try.ntmps71
  go_wp2_with fail
  refine bodyPost_ret (v := .agg #[.int .i64 m, .int .i64 s, .int .i64 f]) (by simp [results, Try.results71, go_sem]) rfl ⟨rfl, ?_⟩
  (repeat (first | exact Below.refl _ _ | assumption | refine balloc ?_ _ | refine bdrew ?_ | refine bdrN ?_ _ | refine bset _ (by first | omega | (simp; done) | (simp; omega)) ?_ | refine brow _ _ (by first | omega | (simp; done) | (simp; omega)) ?_ | (apply bthen; rotate_left; assumption)))

def okM (m s f : Int) : Bool := decide (0 ≤ m ∧ m ≤ 99 ∧ 0 ≤ s ∧ s ≤ 59 ∧ 0 ≤ f ∧ f ≤ 74)
theorem aValid_any (m s f : Int) (hm : 0 ≤ m ∧ m ≤ 99) (hs : 0 ≤ s ∧ s ≤ 99) (hf : 0 ≤ f ∧ f ≤ 99) (w : World) : Calls Try.prog 51 #[.agg #[.int .i64 m, .int .i64 s, .int .i64 f]] w fun e w' => e = .returned (.bool (okM m s f)) ∧ Below w.heap.size w w' := by
  have i0 : ∀ w : World, (Instr.index 87 (.agg #[.int .i64 m, .int .i64 s, .int .i64 f]) (.int .i64 0)).run Try.prog w = .ok (.int .i64 m) w := fun _ => by kernel_rfl
  have i1 : ∀ w : World, (Instr.index 87 (.agg #[.int .i64 m, .int .i64 s, .int .i64 f]) (.int .i64 1)).run Try.prog w = .ok (.int .i64 s) w := fun _ => by kernel_rfl
  have i2 : ∀ w : World, (Instr.index 87 (.agg #[.int .i64 m, .int .i64 s, .int .i64 f]) (.int .i64 2)).run Try.prog w = .ok (.int .i64 f) w := fun _ => by kernel_rfl
  have L0 := hid (fun w => limit_any 0 100 w (.inl ⟨rfl, rfl⟩))
  have L1 := hid (fun w => limit_any 1 60 w (.inr (.inl ⟨rfl, rfl⟩)))
  have L2 := hid (fun w => limit_any 2 75 w (.inr (.inr ⟨rfl, rfl⟩)))
  have a0 : decide (m < 0) = false := decide_eq_false (by omega)
  have a1 : decide (100 ≤ m) = false := decide_eq_false (by omega)
  have a2 : decide (s < 0) = false := decide_eq_false (by omega)
  have a3 : decide (f < 0) = false := decide_eq_false (by omega)
  have HO : Hid (okM m s f = (decide (s < 60) && decide (f < 75))) := by
    unfold Hid okM
    rw [← Bool.decide_and]
    exact decide_eq_decide.2 (by omega)
  go_enter Try.func51, Try.ntmps51
  go_wp2_with fail
  refine (split_any m s f _).mono ?_
  rintro e w1 ⟨rfl, hb1⟩
  go_wp2_with fail
  refine wp_loop_rounds 4 ?_
  rw [rounds_succ]
  go_wp2_with fail
  refine (L0.out _).mono ?_
  rintro e w2 ⟨rfl, hb2⟩
  go_wp2_with fail
  rw [rounds_succ]
  by_cases h1 : s < 60
  · have d1 : decide (60 ≤ s) = false := decide_eq_false (by omega)
    have e1 : decide (s < 60) = true := decide_eq_true h1
    go_wp2_with fail
    refine (L1.out _).mono ?_
    rintro e w3 ⟨rfl, hb3⟩
    go_wp2_with fail
    rw [rounds_succ]
    by_cases h2 : f < 75
    · have d2 : decide (75 ≤ f) = false := decide_eq_false (by omega)
      have e2 : decide (f < 75) = true := decide_eq_true h2
      go_wp2_with fail
      refine (L2.out _).mono ?_
      rintro e w4 ⟨rfl, hb4⟩
      go_wp2_with fail
      rw [rounds_succ]
      go_wp2_with fail
      go_ret
      exact ⟨by rw [HO.out, e1, e2]; rfl, by (repeat (first | exact Below.refl _ _ | assumption | refine balloc ?_ _ | refine bdrew ?_ | refine bdrN ?_ _ | refine bset _ (by first | omega | (simp; done) | (simp; omega)) ?_ | refine brow _ _ (by first | omega | (simp; done) | (simp; omega)) ?_ | (apply bthen; rotate_left; assumption)))⟩
    · have d2 : decide (75 ≤ f) = true := decide_eq_true (by omega)
      have e2 : decide (f < 75) = false := decide_eq_false h2
      go_wp2_with fail
      refine (L2.out _).mono ?_
      rintro e w4 ⟨rfl, hb4⟩
      go_wp2_with fail
      go_ret
      exact ⟨by rw [HO.out, e1, e2]; rfl, by (repeat (first | exact Below.refl _ _ | assumption | refine balloc ?_ _ | refine bdrew ?_ | refine bdrN ?_ _ | refine bset _ (by first | omega | (simp; done) | (simp; omega)) ?_ | refine brow _ _ (by first | omega | (simp; done) | (simp; omega)) ?_ | (apply bthen; rotate_left; assumption)))⟩
  · have d1 : decide (60 ≤ s) = true := decide_eq_true (by omega)
    have e1 : decide (s < 60) = false := decide_eq_false h1
    go_wp2_with fail
    refine (L1.out _).mono ?_
    rintro e w3 ⟨rfl, hb3⟩
    go_wp2_with fail
    go_ret
    exact ⟨by rw [HO.out, e1]; rfl, by (repeat (first | exact Below.refl _ _ | assumption | refine balloc ?_ _ | refine bdrew ?_ | refine bdrN ?_ _ | refine bset _ (by first | omega | (simp; done) | (simp; omega)) ?_ | refine brow _ _ (by first | omega | (simp; done) | (simp; omega)) ?_ | (apply bthen; rotate_left; assumption)))⟩
end Go.Proofs.Ytieblfpdibpeeaa

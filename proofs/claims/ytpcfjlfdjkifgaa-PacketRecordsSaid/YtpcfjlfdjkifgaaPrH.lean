/-
  A sector that is valid (package packet).
-/
import Derived.Test.YtpcfjlfdjkifgaaPrG
namespace Go.Proofs.Ytpcfjlfdjkifgaa
open Go.RowKit Go.Lib
set_option linter.unusedVariables false
set_option linter.unusedSimpArgs false

/-- The address with a number. -/
def msfV (n : Int) : Value := .agg #[.int .i64 (n / 75 / 60), .int .i64 (n / 75 % 60), .int .i64 (n % 75)]
def msf0 : Value := .agg #[.int .i64 0, .int .i64 0, .int .i64 0]
def inR (n : Int) : Prop := 0 ≤ n ∧ n ≤ 449999
/-- What ToMSF returns. -/
def toE (lba : Int) : Value := if 0 ≤ lba + 150 ∧ lba + 150 ≤ 449999 then .tuple #[msfV (lba + 150), .int .i64 0] else .tuple #[msf0, .int .i64 2]

theorem numbered_ok (n : Int) (h0 : 0 ≤ n) (h1 : n ≤ 449999) (w : World) : Calls Try.prog 51 #[.int .i64 n] w fun e w' => e = .returned (.tuple #[msfV n, .bool true]) ∧ Below w.heap.size w w' := by
  have d0 : decide (n < 0) = false := decide_eq_false (by omega)
  have d1 : decide (449999 < n) = false := decide_eq_false (by omega)
  go_enter Try.func51, Try.ntmps51
  go_wp2_with fail
  refine bodyPost_ret (v := .tuple #[msfV n, .bool true]) (by simp [results, Try.results51, go_sem, msfV]) rfl ⟨rfl, ?_⟩
  (repeat (first | exact Below.refl _ _ | assumption | refine balloc ?_ _ | refine bdrew ?_ | refine bdrN ?_ _ | refine bset _ (by first | omega | (simp; done) | (simp; omega)) ?_ | refine brow _ _ (by first | omega | (simp; done) | (simp; omega)) ?_ | (apply bthen; rotate_left; assumption)))
theorem numbered_no (n : Int) (h : n < 0 ∨ 449999 < n) (w : World) : Calls Try.prog 51 #[.int .i64 n] w fun e w' => e = .returned (.tuple #[msf0, .bool false]) ∧ Below w.heap.size w w' := by
  rcases h with h | h
  · have d0 : decide (n < 0) = true := decide_eq_true (by omega)
    go_enter Try.func51, Try.ntmps51
    go_wp2_with fail
    refine bodyPost_ret (v := .tuple #[msf0, .bool false]) (by simp [results, Try.results51, go_sem, msf0]) rfl ⟨rfl, ?_⟩
    (repeat (first | exact Below.refl _ _ | assumption | refine balloc ?_ _ | refine bdrew ?_ | refine bdrN ?_ _ | refine bset _ (by first | omega | (simp; done) | (simp; omega)) ?_ | refine brow _ _ (by first | omega | (simp; done) | (simp; omega)) ?_ | (apply bthen; rotate_left; assumption)))
  · have d0 : decide (n < 0) = false := decide_eq_false (by omega)
    have d1 : decide (449999 < n) = true := decide_eq_true (by omega)
    go_enter Try.func51, Try.ntmps51
    go_wp2_with fail
    refine bodyPost_ret (v := .tuple #[msf0, .bool false]) (by simp [results, Try.results51, go_sem, msf0]) rfl ⟨rfl, ?_⟩
    (repeat (first | exact Below.refl _ _ | assumption | refine balloc ?_ _ | refine bdrew ?_ | refine bdrN ?_ _ | refine bset _ (by first | omega | (simp; done) | (simp; omega)) ?_ | refine brow _ _ (by first | omega | (simp; done) | (simp; omega)) ?_ | (apply bthen; rotate_left; assumption)))

theorem kept3 {w1 w2 : World} {a b c : Value} {t : TypeId} (hb : Below (w1.alloc (.cells #[a, b, c] t)).heap.size (w1.alloc (.cells #[a, b, c] t)) w2) :
    w1.heap.size < w2.heap.size ∧ w2.cell? ⟨w1.heap.size, 0, none⟩ = some a ∧ w2.cell? ⟨w1.heap.size, 1, none⟩ = some b ∧ w2.cell? ⟨w1.heap.size, 2, none⟩ = some c ∧
      w2.frozen? ⟨w1.heap.size, 0, none⟩ = false ∧ w2.frozen? ⟨w1.heap.size, 1, none⟩ = false ∧ w2.frozen? ⟨w1.heap.size, 2, none⟩ = false := by
  have hs : w1.heap.size < (w1.alloc (.cells #[a, b, c] t)).heap.size := by simp
  obtain ⟨k, k0, k1, k2⟩ := keep3 hb
  refine ⟨k, k0, k1, k2, ?_, ?_, ?_⟩
  · rw [hb.frozen (p := ⟨w1.heap.size, 0, none⟩) hs]; simp
  · rw [hb.frozen (p := ⟨w1.heap.size, 1, none⟩) hs]; simp
  · rw [hb.frozen (p := ⟨w1.heap.size, 2, none⟩) hs]; simp

theorem ToMSF_ok (l n : Int) (hl : l = n - 150) (h0 : 0 ≤ n) (h1 : n ≤ 449999) (w : World) : Calls Try.prog 42 #[.int .i64 l] w fun e w' => e = .returned (.tuple #[msfV n, .int .i64 0]) ∧ Below w.heap.size w w' := by
  subst hl
  have d0 : decide (449849 < n - 150) = false := decide_eq_false (by omega)
  have HN : Hid (∀ w : World, Calls Try.prog 51 #[.int .i64 n] w fun e w' => e = .returned (.tuple #[.agg #[.int .i64 (n / 75 / 60), .int .i64 (n / 75 % 60), .int .i64 (n % 75)], .bool true]) ∧ Below w.heap.size w w') := fun w => numbered_ok n h0 h1 w
  go_enter Try.func42, Try.ntmps42
  go_wp2_with fail
  refine ((by simpa using HN.out _) : Calls _ _ _ _ _).mono ?_
  rintro e w1 ⟨rfl, hb⟩
  obtain ⟨z0, k0, k1, k2, f0, f1, f2⟩ := kept3 hb
  go_wp2_with fail
  refine bodyPost_ret (v := .tuple #[msfV n, .int .i64 0]) (by simp [results, Try.results42, go_sem, msfV, k0, k1, k2, z0]) rfl ⟨rfl, ?_⟩
  (repeat (first | exact Below.refl _ _ | assumption | refine balloc ?_ _ | refine bdrew ?_ | refine bdrN ?_ _ | refine bset _ (by first | omega | (simp; done) | (simp; omega)) ?_ | refine brow _ _ (by first | omega | (simp; done) | (simp; omega)) ?_ | (apply bthen; rotate_left; assumption)))
theorem ToMSF_no (l : Int) (h : l + 150 < 0 ∨ 449999 < l + 150) (hl : -9223372036854775808 ≤ l ∧ l ≤ 9223372036854775807) (w : World) : Calls Try.prog 42 #[.int .i64 l] w fun e w' => e = .returned (.tuple #[msf0, .int .i64 2]) ∧ Below w.heap.size w w' := by
  by_cases h1 : 449999 < l + 150
  · have d0 : decide (449849 < l) = true := decide_eq_true (by omega)
    go_enter Try.func42, Try.ntmps42
    go_wp2_with fail
    refine bodyPost_ret (v := .tuple #[msf0, .int .i64 2]) (by simp [results, Try.results42, go_sem, msf0]) rfl ⟨rfl, ?_⟩
    (repeat (first | exact Below.refl _ _ | assumption | refine balloc ?_ _ | refine bdrew ?_ | refine bdrN ?_ _ | refine bset _ (by first | omega | (simp; done) | (simp; omega)) ?_ | refine brow _ _ (by first | omega | (simp; done) | (simp; omega)) ?_ | (apply bthen; rotate_left; assumption)))
  · have d0 : decide (449849 < l) = false := decide_eq_false (by omega)
    have HN : Hid (∀ w : World, Calls Try.prog 51 #[.int .i64 (l + 150)] w fun e w' => e = .returned (.tuple #[.agg #[.int .i64 0, .int .i64 0, .int .i64 0], .bool false]) ∧ Below w.heap.size w w') := fun w => numbered_no (l + 150) (by omega) w
    go_enter Try.func42, Try.ntmps42
    go_wp2_with fail
    refine (HN.out _).mono ?_
    rintro e w1 ⟨rfl, hb⟩
    obtain ⟨z0, k0, k1, k2, f0, f1, f2⟩ := kept3 hb
    go_wp2_with fail
    refine bodyPost_ret (v := .tuple #[msf0, .int .i64 2]) (by simp [results, Try.results42, go_sem, msf0, k0, k1, k2, z0]) rfl ⟨rfl, ?_⟩
    (repeat (first | exact Below.refl _ _ | assumption | refine balloc ?_ _ | refine bdrew ?_ | refine bdrN ?_ _ | refine bset _ (by first | omega | (simp; done) | (simp; omega)) ?_ | refine brow _ _ (by first | omega | (simp; done) | (simp; omega)) ?_ | (apply bthen; rotate_left; assumption)))

set_option maxRecDepth 20000 in
theorem valid_true (l : Int) (d : ByteArray) (hl : -150 ≤ l ∧ l ≤ 449849) (hd : d.size = 2048) (w : World) :
    Calls Try.prog 38 #[.agg #[.int .i64 l, .int .i64 0, .int .i64 0, .int .i64 0, .int .i64 0, .int .i64 0, .string d]] w fun e w' => e = .returned (.bool true) ∧ Below w.heap.size w w' := by
  have HM : Hid (∀ w : World, Calls Try.prog 42 #[.int .i64 l] w fun e w' => e = .returned (.tuple #[.agg #[.int .i64 ((l + 150) / 75 / 60), .int .i64 ((l + 150) / 75 % 60), .int .i64 ((l + 150) % 75)], .int .i64 0]) ∧ Below w.heap.size w w') := fun w => ToMSF_ok l (l + 150) (by omega) (by omega) (by omega) w
  have q1 : (d.toList == d.toList) = true := beq_self_eq_true _
  have q2 : ((d.size : Int) == 2048) = true := by rw [hd]; rfl
  clear hd
  go_enter Try.func38, Try.ntmps38
  go_wp2_with fail
  refine (HM.out _).mono ?_
  rintro e w1 ⟨rfl, hb⟩
  have X := (Blk.made w [.int .i64 l, .int .i64 0, .int .i64 0, .int .i64 0, .int .i64 0, .int .i64 0, .string d] 53).below hb
  have L : Below w.heap.size w w1 := bthen (balloc (Below.refl _ _) _) hb
  clear hb
  have x0 := X.cell 0 _ rfl; have x1 := X.cell 1 _ rfl; have x2 := X.cell 2 _ rfl; have x3 := X.cell 3 _ rfl; have x4 := X.cell 4 _ rfl; have x5 := X.cell 5 _ rfl; have x6 := X.cell 6 _ rfl
  have xz := X.lt
  clear X
  go_wp2_with fail
  go_ret
  exact ⟨rfl, balloc L _⟩
end Go.Proofs.Ytpcfjlfdjkifgaa

/-
  Which sectors hold user blocks.
-/
import Derived.Test.YtpcfjlfdjkifgaaPrH
namespace Go.Proofs.Ytpcfjlfdjkifgaa
open Go.RowKit Go.Lib
set_option linter.unusedVariables false
set_option linter.unusedSimpArgs false

/-- Is a sector of a packet one of a user block? -/
def usr (s i : Nat) : Bool := decide (5 ≤ i % (s + 7) ∧ i % (s + 7) < 5 + s)
theorem loc_kind (s i : Nat) (hs : 1 ≤ s ∧ s ≤ 1024) (hi : i ≤ 449849) : (locP (s : Int) (i : Int)).2.2.2 = 0 ∧ ((locP (s : Int) (i : Int)).2.1 == 2) = usr s i := by
  have hz : nmI (s : Int) (i : Int) = 0 := by
    unfold nmI
    rw [if_pos (show szB (s : Int) = true from decide_eq_true (by omega)), if_pos (by omega)]
  unfold locP
  rw [if_pos hz]
  refine ⟨rfl, ?_⟩
  show ((plP (s : Int) ((i : Int) % ((s : Int) + 7))).1 == 2) = _
  have hm : (i : Int) % ((s : Int) + 7) = ((i % (s + 7) : Nat) : Int) := by rw [Int.natCast_emod]; rfl
  rw [hm]
  unfold usr plP
  generalize i % (s + 7) = a
  by_cases h1 : (a : Int) < 1
  · rw [if_pos h1, decide_eq_false (by omega)]; rfl
  · rw [if_neg h1]
    by_cases h2 : (a : Int) < 5
    · rw [if_pos h2, decide_eq_false (by omega)]; rfl
    · rw [if_neg h2]
      by_cases h3 : (a : Int) < 5 + (s : Int)
      · rw [if_pos h3, decide_eq_true (by omega)]; rfl
      · rw [if_neg h3, decide_eq_false (by omega)]; rfl
/-- What the first sectors give. -/
def colL (s : Nat) (ds : List ByteArray) (i : Nat) : List ByteArray := (List.range i).flatMap fun k => if usr s k = true then [ds.getD k zeroS] else []
theorem colL_succ (s : Nat) (ds : List ByteArray) (i : Nat) : colL s ds (i + 1) = colL s ds i ++ (if usr s i = true then [ds.getD i zeroS] else []) := by
  unfold colL; rw [List.range_succ, List.flatMap_append, List.flatMap_singleton]
theorem colL_le (s : Nat) (ds : List ByteArray) (i : Nat) : (colL s ds i).length ≤ i := by
  induction i with
  | zero => simp [colL]
  | succ i ih =>
    rw [colL_succ, List.length_append]
    by_cases h : usr s i = true
    · rw [if_pos h]; simp; omega
    · rw [if_neg h]; simp; omega
theorem secC_len (l : Int) (d : ByteArray) : (secC l d).length = 7 := rfl
theorem secsC_len (st : Int) : ∀ (ds : List ByteArray) (k : Nat), (secsC st k ds).length = ds.length * 7
  | [], k => rfl
  | d :: r, k => by
    show (secC (st + k) d ++ secsC st (k + 1) r).length = _
    rw [List.length_append, secC_len, secsC_len st r, List.length_cons]; omega
theorem secsC_at (st : Int) (j : Nat) (hj : j < 7) : ∀ (ds : List ByteArray) (k i : Nat) (d : ByteArray), ds[i]? = some d → (secsC st k ds)[i * 7 + j]? = (secC (st + ((k + i : Nat) : Int)) d)[j]?
  | [], k, i, d, h => by simp at h
  | x :: r, k, 0, d, h => by
    simp at h
    subst h
    show (secC (st + k) x ++ secsC st (k + 1) r)[0 * 7 + j]? = _
    rw [List.getElem?_append_left (by rw [secC_len]; omega), Nat.zero_mul, Nat.zero_add, Nat.add_zero]
  | x :: r, k, i + 1, d, h => by
    show (secC (st + k) x ++ secsC st (k + 1) r)[(i + 1) * 7 + j]? = _
    rw [List.getElem?_append_right (by rw [secC_len]; omega), secC_len, show (i + 1) * 7 + j - 7 = i * 7 + j by omega, secsC_at st j hj r (k + 1) i d (by simpa using h), show k + 1 + i = k + (i + 1) by omega]
end Go.Proofs.Ytpcfjlfdjkifgaa

/-
  Plain law: what Collect makes of Record's sectors.
-/
import Derived.Test.YtpcfjlfdjkifgaaPrK
namespace Go.Proofs.Ytpcfjlfdjkifgaa
open Go.RowKit Go.Lib
set_option linter.unusedVariables false
set_option linter.unusedSimpArgs false

theorem kp_get (b : List ByteArray) (a : Nat) (ha : a < b.length + 7) : (kp b 4)[a]? = some (if 5 ≤ a ∧ a < 5 + b.length then b.getD (a - 5) zeroS else zeroS) := by
  have e : kp b 4 = List.replicate 5 zeroS ++ (b ++ List.replicate 2 zeroS) := by
    rw [kp_succ, kp_succ, kp_succ, kp_succ]
    simp [kp, part, List.replicate_succ]
  rw [e]
  by_cases h1 : a < 5
  · rw [List.getElem?_append_left (by simp; omega), if_neg (by omega), List.getElem?_replicate, if_pos h1]
  · rw [List.getElem?_append_right (by simp; omega), List.length_replicate]
    by_cases h2 : a - 5 < b.length
    · rw [List.getElem?_append_left h2, if_pos (by omega), List.getD_eq_getElem?_getD, List.getElem?_eq_getElem h2]; rfl
    · rw [List.getElem?_append_right (by omega), if_neg (by omega), List.getElem?_replicate, if_pos (by omega)]
theorem pkt_get (s : Nat) (bs : List ByteArray) (k j : Nat) (hj : j < s) : (pkt s (bs.drop (k * s))).getD j zeroS = bs.getD (k * s + j) zeroS := by
  unfold pkt
  rw [List.getD_eq_getElem?_getD, List.getD_eq_getElem?_getD]
  by_cases h : k * s + j < bs.length
  · rw [List.getElem?_append_left (by rw [List.length_take, List.length_drop]; omega), List.getElem?_take_of_lt hj, List.getElem?_drop]
  · rw [List.getElem?_eq_none (show bs.length ≤ k * s + j by omega)]
    by_cases h2 : j < ((bs.drop (k * s)).take s).length
    · rw [List.length_take, List.length_drop] at h2; omega
    · rw [List.getElem?_append_right (by omega)]
      cases e : (List.replicate (s - (bs.drop (k * s)).length) zeroS)[j - ((bs.drop (k * s)).take s).length]? with
      | none => rfl
      | some d =>
        have := List.eq_of_mem_replicate (List.mem_of_getElem? e)
        subst this; rfl
/-- The data of one sector. -/
theorem dsP_get (s : Nat) (bs : List ByteArray) (N k a : Nat) (hk : k < N) (ha : a < s + 7) : (dsP s bs N)[k * (s + 7) + a]? = some (if 5 ≤ a ∧ a < 5 + s then bs.getD (k * s + (a - 5)) zeroS else zeroS) := by
  induction N with
  | zero => omega
  | succ N ih =>
    rw [dsP_succ]
    have hl := dsP_len s bs N
    by_cases h : k < N
    · have hm : (k + 1) * (s + 7) ≤ N * (s + 7) := Nat.mul_le_mul_right _ h
      rw [Nat.add_mul, Nat.one_mul] at hm
      rw [List.getElem?_append_left (by omega)]
      exact ih h
    · have hkN : k = N := by omega
      subst hkN
      rw [List.getElem?_append_right (by omega), hl, Nat.add_sub_cancel_left, kp_get _ _ (by rw [pkt_len]; exact ha), pkt_len]
      by_cases h5 : 5 ≤ a ∧ a < 5 + s
      · rw [if_pos h5, if_pos h5, pkt_get s bs k (a - 5) (by omega)]
      · rw [if_neg h5, if_neg h5]
theorem usr_at (s k a : Nat) (ha : a < s + 7) : usr s (k * (s + 7) + a) = decide (5 ≤ a ∧ a < 5 + s) := by
  unfold usr
  rw [Nat.add_comm (k * (s + 7)), Nat.add_mul_mod_self_right, Nat.mod_eq_of_lt ha]
/-- The data of user blocks. -/
def userL (s : Nat) (bs : List ByteArray) (n : Nat) : List ByteArray := (List.range n).map fun i => bs.getD i zeroS
theorem userL_succ (s : Nat) (bs : List ByteArray) (n : Nat) : userL s bs (n + 1) = userL s bs n ++ [bs.getD n zeroS] := by
  unfold userL; rw [List.range_succ, List.map_append]; rfl
theorem colL_part (s : Nat) (bs : List ByteArray) (N k a : Nat) (hk : k < N) (ha : a ≤ s + 7) (h : colL s (dsP s bs N) (k * (s + 7)) = userL s bs (k * s)) : colL s (dsP s bs N) (k * (s + 7) + a) = userL s bs (k * s + min (a - 5) s) := by
  induction a with
  | zero => rw [Nat.add_zero, h]; simp
  | succ a ih =>
    have := ih (by omega)
    rw [← Nat.add_assoc, colL_succ, this, usr_at s k a (by omega)]
    have hg := dsP_get s bs N k a hk (by omega)
    by_cases h5 : 5 ≤ a ∧ a < 5 + s
    · rw [decide_eq_true h5, if_pos rfl, List.getD_eq_getElem?_getD, hg, if_pos h5]
      rw [show min (a - 5) s = a - 5 by omega, show min (a + 1 - 5) s = (a - 5) + 1 by omega, ← Nat.add_assoc, userL_succ]; rfl
    · rw [decide_eq_false h5, if_neg (by decide), List.append_nil]
      congr 1; omega
theorem colL_dsP (s : Nat) (bs : List ByteArray) (N k : Nat) (hk : k ≤ N) : colL s (dsP s bs N) (k * (s + 7)) = userL s bs (k * s) := by
  induction k with
  | zero => simp [colL, userL]
  | succ k ih =>
    have h := colL_part s bs N k (s + 7) (by omega) (Nat.le_refl _) (ih (by omega))
    rw [Nat.add_mul, Nat.one_mul, h, Nat.add_mul, Nat.one_mul]
    congr 1; omega
end Go.Proofs.Ytpcfjlfdjkifgaa

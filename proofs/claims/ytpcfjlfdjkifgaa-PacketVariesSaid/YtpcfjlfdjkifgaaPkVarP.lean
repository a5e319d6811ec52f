/-
  Plain facts for package packet's Variable: the place of a sector in a track of variable packets; slices of integers that are read.
-/
import Derived.Test.YtpcfjlfdjkifgaaPkOrdP
namespace Go.Proofs.Ytpcfjlfdjkifgaa
open Go.RowKit Go.Lib
set_option linter.unusedVariables false
set_option linter.unusedSimpArgs false

/-- The place of sector s, counted from the begin of packet i. -/
def vGo : List Int → Int → Int → Int × Int × Int × Int
  | [], _, _ => (0, 0, 0, 2)
  | x :: xs, s, i => if s < x + 7 then (i, (plP x s).1, (plP x s).2, 0) else vGo xs (s - (x + 7)) (i + 1)
def allS (xs : List Int) : Bool := xs.all szB
def varP (xs : List Int) (s : Int) : Int × Int × Int × Int :=
  if xs.length = 0 ∨ 1024 < xs.length ∨ allS xs = false then (0, 0, 0, 1) else if s < 0 then (0, 0, 0, 2) else vGo xs s 0
theorem varP_bad (xs : List Int) (s : Int) (h : xs.length = 0 ∨ 1024 < xs.length ∨ allS xs = false) : varP xs s = (0, 0, 0, 1) := by unfold varP; rw [if_pos h]
theorem varP_neg (xs : List Int) (s : Int) (h1 : xs.length ≠ 0) (h2 : xs.length ≤ 1024) (h3 : allS xs = true) (h4 : s < 0) : varP xs s = (0, 0, 0, 2) := by
  unfold varP; rw [if_neg (by rw [h3]; simp; exact ⟨by simpa using h1, h2⟩), if_pos h4]
theorem varP_go (xs : List Int) (s : Int) (h1 : xs.length ≠ 0) (h2 : xs.length ≤ 1024) (h3 : allS xs = true) (h4 : 0 ≤ s) : varP xs s = vGo xs s 0 := by
  unfold varP; rw [if_neg (by rw [h3]; simp; exact ⟨by simpa using h1, h2⟩), if_neg (by omega)]
theorem allS_at {xs : List Int} (h : allS xs = true) (k : Nat) (hk : k < xs.length) : szB (xs.getD k 0) = true := by
  unfold allS at h
  rw [List.all_eq_true] at h
  rw [List.getD_eq_getElem?_getD, List.getElem?_eq_getElem hk]
  exact h _ (List.getElem_mem hk)
/-- The first size that is none. -/
theorem allS_first {xs : List Int} (h : allS xs = false) : ∃ m, m < xs.length ∧ szB (xs.getD m 0) = false ∧ ∀ j, j < m → szB (xs.getD j 0) = true := by
  induction xs with
  | nil => simp [allS] at h
  | cons x xs ih =>
    by_cases hx : szB x = true
    · have h' : allS xs = false := by unfold allS at h ⊢; rw [List.all_cons, hx] at h; simpa using h
      obtain ⟨m, hm, h1, h2⟩ := ih h'
      refine ⟨m + 1, by simp; omega, by simpa using h1, fun j hj => ?_⟩
      cases j with
      | zero => simpa using hx
      | succ j => have := h2 j (by omega); simpa using this
    · exact ⟨0, by simp, by simpa using hx, fun j hj => by omega⟩
theorem vGo_drop (xs : List Int) (k : Nat) (hk : k < xs.length) (s : Int) : vGo (xs.drop k) s k = if s < xs.getD k 0 + 7 then ((k : Int), (plP (xs.getD k 0) s).1, (plP (xs.getD k 0) s).2, 0) else vGo (xs.drop (k + 1)) (s - (xs.getD k 0 + 7)) ((k + 1 : Nat) : Int) := by
  rw [List.drop_eq_getElem_cons hk]
  have e : xs[k] = xs.getD k 0 := by rw [List.getD_eq_getElem?_getD, List.getElem?_eq_getElem hk]; rfl
  rw [vGo, e]
  rfl
theorem vGo_end (xs : List Int) (k : Nat) (hk : xs.length ≤ k) (s i : Int) : vGo (xs.drop k) s i = (0, 0, 0, 2) := by
  rw [List.drop_eq_nil_of_le hk]; rfl

/-- A slice of integers that is read. -/
structure RI (w : World) (A : Option Addr) (n : Nat) (xs : List Int) : Prop where
  len : xs.length = n
  at_ : 0 < n → ∃ b off, A = some ⟨b, off, none⟩ ∧ b < w.heap.size ∧ ∀ j, j < n → w.cell? ⟨b, off + j, none⟩ = some (.int .i64 (xs.getD j 0))
theorem RI.below {w w1 : World} {A : Option Addr} {n : Nat} {xs : List Int} (h : RI w A n xs) (hb : Below w.heap.size w w1) : RI w1 A n xs :=
  ⟨h.len, fun hn => by
    obtain ⟨b, off, rfl, hl, hc⟩ := h.at_ hn
    exact ⟨b, off, rfl, Nat.lt_of_lt_of_le hl hb.size, fun j hj => (hb.cell (p := ⟨b, off + j, none⟩) hl).trans (hc j hj)⟩⟩

/-- Equal packets are fixed packets. -/
theorem vGo_equal (x : Int) (hx1 : 1 ≤ x) : ∀ (m : Nat) (s i : Int), 0 ≤ s → vGo (List.replicate m x) s i = if s < m * (x + 7) then (i + s / (x + 7), (plP x (s % (x + 7))).1, (plP x (s % (x + 7))).2, 0) else (0, 0, 0, 2)
  | 0, s, i, hs => by rw [if_neg (by simp; omega)]; rfl
  | m + 1, s, i, hs => by
    rw [List.replicate_succ, vGo]
    have hp : 0 ≤ (m : Int) * (x + 7) := Int.mul_nonneg (by omega) (by omega)
    have e : ((m + 1 : Nat) : Int) * (x + 7) = (m : Int) * (x + 7) + (x + 7) := by rw [show ((m + 1 : Nat) : Int) = (m : Int) + 1 by omega, Int.add_mul]; omega
    rw [e]
    by_cases h : s < x + 7
    · rw [if_pos h, if_pos (by omega), Int.ediv_eq_zero_of_lt hs h, Int.emod_eq_of_lt hs h]; simp
    · rw [if_neg h, vGo_equal x hx1 m (s - (x + 7)) (i + 1) (by omega)]
      have d1 : (s - (x + 7)) / (x + 7) = s / (x + 7) - 1 := by
        have := Int.add_mul_ediv_right s (-1) (show (x + 7) ≠ 0 by omega)
        rw [show s - (x + 7) = s + -1 * (x + 7) by omega, this]; omega
      have d2 : (s - (x + 7)) % (x + 7) = s % (x + 7) := Int.sub_emod_right s (x + 7)
      rw [d1, d2]
      by_cases h2 : s < (m : Int) * (x + 7) + (x + 7)
      · rw [if_pos (by omega), if_pos h2, show i + 1 + (s / (x + 7) - 1) = i + s / (x + 7) by omega]
      · rw [if_neg (by omega), if_neg h2]
end Go.Proofs.Ytpcfjlfdjkifgaa

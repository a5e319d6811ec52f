/-
  Plain facts for the law PacketOrder: the cells of the places of a packet, as the law's own loops lay them.
-/
import Derived.Test.YtpcfjlfdjkifgaaPkInv
import Derived.OwnWalk
namespace Go.Proofs.Ytpcfjlfdjkifgaa
open Go.RowKit Go.Lib
set_option linter.unusedVariables false
set_option linter.unusedSimpArgs false

/-- The three cells of the place of sector i of packet p. -/
def plc (p : Int) (n i : Nat) : List Value := [.int .i64 p, .int .i64 (plP n i).1, .int .i64 (plP n i).2]
def ows (p : Int) (n : Nat) : Nat → List Value
  | 0 => []
  | m + 1 => ows p n m ++ plc p n m
theorem ows_len (p : Int) (n m : Nat) : (ows p n m).length = m * 3 := by
  induction m with
  | zero => rfl
  | succ m ih => rw [ows, List.length_append, ih]; simp [plc]; omega
theorem ows_at (p : Int) (n m i j : Nat) (hi : i < m) (hj : j < 3) : (ows p n m)[i * 3 + j]? = (plc p n i)[j]? := by
  induction m with
  | zero => omega
  | succ m ih =>
    rw [ows]
    by_cases h : i < m
    · rw [List.getElem?_append_left (by rw [ows_len]; omega)]; exact ih h
    · obtain rfl : i = m := by omega
      rw [List.getElem?_append_right (by rw [ows_len]; omega), ows_len]
      congr 1
      omega
def ocnt (n : Nat) (k : Nat) : Nat := match k with | 0 => 1 | 1 => 4 | 2 => n | _ => 2
def ooff (n : Nat) (k : Nat) : Nat := match k with | 0 => 0 | 1 => 1 | 2 => 5 | 3 => 5 + n | _ => 7 + n
theorem ooff_succ (n k : Nat) (hk : k < 4) : ooff n (k + 1) = ooff n k + ocnt n k := by
  match k, hk with
  | 0, _ => rfl
  | 1, _ => rfl
  | 2, _ => simp only [ooff, ocnt]
  | 3, _ => simp only [ooff, ocnt]; omega
theorem ooff_le (n k : Nat) (hk : k ≤ 4) : ooff n k ≤ n + 7 := by
  match k, hk with
  | 0, _ => simp only [ooff]; omega
  | 1, _ => simp only [ooff]; omega
  | 2, _ => simp only [ooff]; omega
  | 3, _ => simp only [ooff]; omega
  | 4, _ => simp only [ooff]; omega
theorem ocnt_le (n k : Nat) : ocnt n k ≤ n + 4 := by
  unfold ocnt; split <;> omega
theorem plP_off (n k q : Nat) (hk : k < 4) (hq : q < ocnt n k) : plP n ((ooff n k + q : Nat) : Int) = ((k : Int), (q : Int)) := by
  match k, hk with
  | 0, _ => simp only [ooff, ocnt] at *; unfold plP; rw [if_pos (by omega)]; simp
  | 1, _ => simp only [ooff, ocnt] at *; unfold plP; rw [if_neg (by omega), if_pos (by omega)]; refine Prod.ext rfl ?_; show (_ : Int) = _; omega
  | 2, _ => simp only [ooff, ocnt] at *; unfold plP; rw [if_neg (by omega), if_neg (by omega), if_pos (by omega)]; refine Prod.ext rfl ?_; show (_ : Int) = _; omega
  | 3, _ => simp only [ooff, ocnt] at *; unfold plP; rw [if_neg (by omega), if_neg (by omega), if_neg (by omega)]; refine Prod.ext rfl ?_; show (_ : Int) = _; omega
theorem ows_snoc (p : Int) (n k q : Nat) (hk : k < 4) (hq : q < ocnt n k) : ows p n (ooff n k + (q + 1)) = ows p n (ooff n k + q) ++ [.int .i64 p, .int .i64 k, .int .i64 q] := by
  rw [← Nat.add_assoc, ows, plc, plP_off n k q hk hq]

/-- The place that Locate tells of sector i of packet p. -/
theorem loc_of (p : Int) (n i : Nat) (hn1 : 1 ≤ n) (hn2 : n ≤ 100) (hp0 : 0 ≤ p) (hp : p < 4000) (hi : i < n + 7) : locP n (p * ((n : Int) + 7) + i) = (p, (plP n i).1, (plP n i).2, 0) := by
  obtain ⟨d1, d2⟩ := div_of p i ((n : Int) + 7) (by omega) (by omega)
  have hb : p * ((n : Int) + 7) ≤ 3999 * 107 := Int.mul_le_mul (by omega) (by omega) (by omega) (by omega)
  have hb0 : 0 ≤ p * ((n : Int) + 7) := Int.mul_nonneg (by omega) (by omega)
  have hz : nmI n (p * ((n : Int) + 7) + i) = 0 := by
    rcases nmI_cases n (p * ((n : Int) + 7) + i) with ⟨hs, hn⟩ | ⟨hs, h0, hn⟩ | ⟨hs, h0, hn⟩ | ⟨hs, h3, h4, hn⟩
    · have := szB_false hs; omega
    · omega
    · omega
    · exact hn
  unfold locP
  rw [if_pos hz, d1, d2]

theorem grown_of_below' {w w1 : World} (h : Below w.heap.size w w1) (row : Option Nat) : w.grownBy w1 row := ⟨h.os, h.tape, h.output, h.size, fun i hi _ => h.block i hi⟩
theorem own_below {w w1 : World} {base : Nat} {e : TypeId} {size : Nat} {v : Value} {n : Nat} {xs : List Value} (h : w.ownsRow base e size v n xs) (hb : Below w.heap.size w w1) : w1.ownsRow base e size v n xs :=
  h.kept (grown_of_below' hb none) (by cases v.ownBlock <;> simp)
theorem own_form {w : World} {base : Nat} {e : TypeId} {size : Nat} {v : Value} {n : Nat} {xs : List Value} (h : w.ownsRow base e size v n xs) (hn : 0 < n) : ∃ g cap, v = .slice (some ⟨g, 0, none⟩) n cap ∧ base ≤ g ∧ g < w.heap.size ∧ n ≤ cap := by
  rcases h.2 with ⟨_, h0⟩ | ⟨g, cap, cur, rfl, hb, hg, hc, _⟩
  · omega
  · exact ⟨g, cap, rfl, hb, (Array.getElem?_eq_some_iff.1 hg).1, hc⟩
end Go.Proofs.Ytpcfjlfdjkifgaa

/-
  The walk of the law PacketReturns.
-/
import Derived.Test.YtpcfjlfdjkifgaaPrI
import Derived.Test.YtpcfjlfdjkifgaaPrJ
namespace Go.Proofs.Ytpcfjlfdjkifgaa
open Go.RowKit Go.Lib
set_option linter.unusedVariables false
set_option linter.unusedSimpArgs false

theorem getD_size {bs : List ByteArray} (h : okL bs = true) (j : Nat) : (bs.getD j zeroS).size = 2048 := by
  rw [List.getD_eq_getElem?_getD]
  cases e : bs[j]? with
  | none => exact zero_size
  | some d => exact okL_get h j d e
theorem ds_ok (s : Nat) (bs : List ByteArray) (h : okL bs = true) (N : Nat) (i : Nat) (d : ByteArray) (hd : (dsP s bs N)[i]? = some d) : d.size = 2048 ∧ (usr s i = false → d = zeroS) := by
  have hi : i < N * (s + 7) := by
    have := (List.getElem?_eq_some_iff.1 hd).1
    rwa [dsP_len] at this
  have hk : i / (s + 7) < N := by rw [Nat.div_lt_iff_lt_mul (by omega)]; exact hi
  have ha : i % (s + 7) < s + 7 := Nat.mod_lt _ (by omega)
  have he : i / (s + 7) * (s + 7) + i % (s + 7) = i := by rw [Nat.mul_comm]; exact Nat.div_add_mod i (s + 7)
  have hg := dsP_get s bs N (i / (s + 7)) (i % (s + 7)) hk ha
  rw [he, hd] at hg
  injection hg with hg
  by_cases q : 5 ≤ i % (s + 7) ∧ i % (s + 7) < 5 + s
  · rw [if_pos q] at hg
    refine ⟨by rw [hg]; exact getD_size h _, fun hu => ?_⟩
    unfold usr at hu
    exact absurd q (of_decide_eq_false hu)
  · rw [if_neg q] at hg
    exact ⟨by rw [hg]; exact zero_size, fun _ => hg⟩
theorem userL_len (s : Nat) (bs : List ByteArray) (n : Nat) : (userL s bs n).length = n := by unfold userL; rw [List.length_map, List.length_range]
theorem userL_get (s : Nat) (bs : List ByteArray) (n i : Nat) (h : i < n) : (userL s bs n)[i]? = some (bs.getD i zeroS) := by
  unfold userL; rw [List.getElem?_map, List.getElem?_range h]; rfl

set_option maxRecDepth 20000 in
set_option maxHeartbeats 1000000 in
/-- Record returns an error. -/
theorem returns_err (a0 a1 : Int) (code : Int) (hc : code ≠ 0) (v : Value) (bs : List ByteArray) (hn : bs.length ≤ 20) (h4 : a0 ≤ 40 ∨ 1024 < a0) (w : World) (hv : SR w v bs)
    (HR : ∀ w, SR w v bs → Calls Try.prog 21 #[.int .i64 a0, .int .i64 a1, v] w fun e w' => e = .returned (.tuple #[.slice none 0 0, .int .i64 code]) ∧ Below w.heap.size w w') :
    Calls Try.prog 9 #[.int .i64 a0, .int .i64 a1, v] w fun e w' => e = .returned (.bool true) ∧ Below w.heap.size w w' := by
  have HR2 := hid HR
  have e1 : (code != 0) = true := bne_iff_ne.2 hc
  have HV := hid hv
  obtain ⟨p, cap, rfl⟩ := hv.len
  clear HR hc hv
  generalize hN : bs.length = n at *
  have d1 : decide (20 < (n : Int)) = false := decide_eq_false (by omega)
  have d1n : ¬ (20 < n) := by omega
  rcases h4 with h4 | h4
  · have d2 : decide (40 < a0) = false := decide_eq_false (by omega)
    go_enter Try.func9, Try.ntmps9
    go_wp2_with fail
    refine (awake_any _).mono ?_
    rintro e w1 ⟨rfl, hb⟩
    go_wp2_with fail
    refine (HR2.out _ (HV.out.below hb)).mono ?_
    rintro e w2 ⟨rfl, hb2⟩
    go_wp2_with fail
    go_ret
    exact ⟨rfl, bthen hb hb2⟩
  · have d2 : decide (40 < a0) = true := decide_eq_true (by omega)
    have d3 : decide (a0 ≤ 1024) = false := decide_eq_false (by omega)
    go_enter Try.func9, Try.ntmps9
    go_wp2_with fail
    refine (awake_any _).mono ?_
    rintro e w1 ⟨rfl, hb⟩
    go_wp2_with fail
    refine (HR2.out _ (HV.out.below hb)).mono ?_
    rintro e w2 ⟨rfl, hb2⟩
    go_wp2_with fail
    go_ret
    exact ⟨rfl, bthen hb hb2⟩

set_option maxRecDepth 20000 in
set_option maxHeartbeats 1000000 in
/-- Inputs beyond the bounds. -/
theorem returns_far (a0 a1 : Int) (v : Value) (bs : List ByteArray) (hf : 20 < bs.length ∨ (40 < a0 ∧ a0 ≤ 1024)) (w : World) (hv : SR w v bs) :
    Calls Try.prog 9 #[.int .i64 a0, .int .i64 a1, v] w fun e w' => e = .returned (.bool true) ∧ Below w.heap.size w w' := by
  obtain ⟨p, cap, rfl⟩ := hv.len
  clear hv
  generalize hN : bs.length = n at *
  by_cases h1 : 20 < n
  · have d1 : decide (20 < (n : Int)) = true := decide_eq_true (by omega)
    clear hf
    go_enter Try.func9, Try.ntmps9
    go_wp2_with fail
    refine (awake_any _).mono ?_
    rintro e w1 ⟨rfl, hb⟩
    go_wp2_with fail
    go_ret
    exact ⟨rfl, hb⟩
  · have d1 : decide (20 < (n : Int)) = false := decide_eq_false (by omega)
    have d2 : decide (40 < a0) = true := decide_eq_true (by omega)
    have d3 : decide (a0 ≤ 1024) = true := decide_eq_true (by omega)
    clear hf
    go_enter Try.func9, Try.ntmps9
    go_wp2_with fail
    refine (awake_any _).mono ?_
    rintro e w1 ⟨rfl, hb⟩
    go_wp2_with fail
    go_ret
    exact ⟨rfl, hb⟩
end Go.Proofs.Ytpcfjlfdjkifgaa

/-
  The contract of Split.
-/
import Derived.Test.YtpcfjlfdjkifgaaPrB
namespace Go.Proofs.Ytpcfjlfdjkifgaa
open Go.RowKit Go.Lib
set_option linter.unusedVariables false
set_option linter.unusedSimpArgs false

/-- Have all blocks 2,048 bytes? -/
def okL (bs : List ByteArray) : Bool := bs.all fun b => b.size == 2048
/-- One packet. -/
def pkt (s : Nat) (l : List ByteArray) : List ByteArray := l.take s ++ List.replicate (s - l.length) zeroS
/-- The first packets. -/
def preL (s : Nat) (bs : List ByteArray) (k : Nat) : List (List ByteArray) := (List.range k).map fun p => pkt s (bs.drop (p * s))
/-- How many packets. -/
def npk (s n : Nat) : Nat := (n + s - 1) / s
theorem preL_len (s : Nat) (bs : List ByteArray) (k : Nat) : (preL s bs k).length = k := by unfold preL; rw [List.length_map, List.length_range]
theorem preL_snoc (s : Nat) (bs : List ByteArray) (k : Nat) : preL s bs (k + 1) = preL s bs k ++ [pkt s (bs.drop (k * s))] := by
  unfold preL; rw [List.range_succ, List.map_append]; rfl
theorem npk_iff (s n k : Nat) (hs : 1 ≤ s) : k < npk s n ↔ k * s < n := by
  unfold npk
  rw [Nat.lt_iff_add_one_le, Nat.le_div_iff_mul_le (by omega), Nat.add_mul]
  omega
theorem pkt_len (s : Nat) (l : List ByteArray) : (pkt s l).length = s := by
  unfold pkt; rw [List.length_append, List.length_take, List.length_replicate]; omega
theorem okL_get {bs : List ByteArray} (h : okL bs = true) (i : Nat) (b : ByteArray) (hb : bs[i]? = some b) : b.size = 2048 := by
  unfold okL at h
  rw [List.all_eq_true] at h
  have := h b (List.mem_of_getElem? hb)
  simpa using this
theorem okL_no {bs : List ByteArray} (h : okL bs = false) : ∃ (i : Nat) (b : ByteArray), bs[i]? = some b ∧ b.size ≠ 2048 ∧ ∀ j c, j < i → bs[j]? = some c → c.size = 2048 := by
  induction bs with
  | nil => exact absurd h (by decide)
  | cons x l ih =>
    by_cases hx : x.size = 2048
    · have hl : okL l = false := by
        unfold okL at h ⊢
        rw [List.all_cons, hx] at h
        simpa using h
      obtain ⟨i, b, h1, h2, h3⟩ := ih hl
      refine ⟨i + 1, b, by simpa using h1, h2, fun j c hj hc => ?_⟩
      cases j with
      | zero => simp at hc; subst hc; exact hx
      | succ j => exact h3 j c (by omega) (by simpa using hc)
    · exact ⟨0, x, rfl, hx, fun j c hj _ => absurd hj (by omega)⟩

theorem Try.infoStr : (Try.prog.info? 9).map (fun i => (i.zero, i.size, i.bytes)) = some (some (.string { data := #[] }), 1, 16) := by kernel_rfl
theorem info_S : ∃ i, Try.prog.info? 9 = some i ∧ i.zero = some (.string { data := #[] }) ∧ i.size = 1 ∧ i.bytes = 16 := by
  have h := Try.infoStr
  cases hi : Try.prog.info? 9 with
  | none => rw [hi] at h; simp at h
  | some i =>
    rw [hi] at h
    simp only [Option.map_some, Option.some.injEq, Prod.mk.injEq] at h
    exact ⟨i, rfl, h.1, h.2.1, h.2.2⟩
theorem Try.infoSl : (Try.prog.info? 37).map (fun i => (i.zero, i.size, i.bytes)) = some (some (.slice none 0 0), 1, 24) := by kernel_rfl
theorem info_Sl : ∃ i, Try.prog.info? 37 = some i ∧ i.zero = some (.slice none 0 0) ∧ i.size = 1 ∧ i.bytes = 24 := by
  have h := Try.infoSl
  cases hi : Try.prog.info? 37 with
  | none => rw [hi] at h; simp at h
  | some i =>
    rw [hi] at h
    simp only [Option.map_some, Option.some.injEq, Prod.mk.injEq] at h
    exact ⟨i, rfl, h.1, h.2.1, h.2.2⟩

set_option maxRecDepth 20000 in
set_option maxHeartbeats 1000000 in
theorem Split_bad (s : Nat) (hs : 1 ≤ s ∧ s ≤ 1024) (v : Value) (bs : List ByteArray) (hl : okL bs = false) (hn : bs.length ≤ 4096) (w : World) (hv : SR w v bs) :
    Calls Try.prog 19 #[.int .i64 (s : Int), v] w fun e w' => e = .returned (.tuple #[.slice none 0 0, .int .i64 1]) ∧ w' = w := by
  have HS : Hid (∀ w : World, Calls Try.prog 34 #[.int .i64 (s : Int)] w fun e w' => e = .returned (.bool true) ∧ w = w') := fun w => by
    have := sized_any (s : Int) w
    rwa [show szB (s : Int) = true from decide_eq_true (by omega)] at this
  obtain ⟨i, b, h1, h2, h3⟩ := okL_no hl
  have hi : i < bs.length := by
    by_cases q : i < bs.length
    · exact q
    · rw [List.getElem?_eq_none (by omega)] at h1; simp at h1
  obtain ⟨g, o, cap, rfl, hc1, hc2, hc3⟩ := hv.form (by omega)
  have H3 := hid h3
  have HC := hid hc3
  have H1 := hid h1
  clear hl hc3 h3 h1
  generalize hN : bs.length = n at *
  go_enter Try.func19, Try.ntmps19
  go_wp2_with fail
  refine (HS.out _).mono ?_
  rintro e w1 ⟨rfl, rfl⟩
  go_wp2_with fail
  go_loop [16] (fun c => ∃ k : Nat, k ≤ i ∧ c = .int .i64 k) (fun c => n - (RowKit.intOf c).toNat)
  case atStart => exact ⟨0, by omega, rfl⟩
  case round =>
    obtain ⟨k, hk, rfl⟩ := hrel
    have d1 : decide ((k : Int) < (n : Int)) = true := decide_eq_true (by omega)
    have l1 : (k : Int) < (n : Int) := by omega
    by_cases e : k = i
    · subst e
      have hcell : w.cell? ⟨g, o + k, none⟩ = some (.string b) := HC.out k b H1.out
      have d2 : ((b.size : Int) != 2048) = true := by rw [bne_iff_ne]; omega
      go_wp2_with fail
      go_ret2
      exact ⟨rfl, rfl⟩
    · obtain ⟨c, hc⟩ : ∃ c, bs[k]? = some c := ⟨bs[k]'(by omega), List.getElem?_eq_getElem (by omega)⟩
      have hcell : w.cell? ⟨g, o + k, none⟩ = some (.string c) := HC.out k c hc
      have d2 : ((c.size : Int) != 2048) = false := by rw [H3.out k c (by omega) hc]; rfl
      clear hc
      go_wp2_with fail
      go_round
      case rel => exact ⟨k + 1, by omega, by go_num⟩
      case measure => simp [RowKit.intOf]; omega
end Go.Proofs.Ytpcfjlfdjkifgaa

/-
  Contracts of package packet's counts, place and Locate, and of the reference's place and Locate: each returns the place that the plain functions below say; of what was in memory nothing changes.
-/
import Derived.Test.YtpcfjlfdjkifgaaPkA
import Derived.LoopTactic
import Derived.Deep.DeepCutAuto
import Derived.Deep.CutBlock
import Derived.Outline
import Derived.StillTailTactics
namespace Go.Proofs.Ytpcfjlfdjkifgaa
open Go.RowKit Go.Lib
set_option linter.unusedVariables false
set_option linter.unusedSimpArgs false

theorem bcell {W w1 : World} (hb : Below W.heap.size W w1) : (∀ b o, b < W.heap.size → w1.cell? ⟨b, o, none⟩ = W.cell? ⟨b, o, none⟩) ∧ (∀ b o, b < W.heap.size → w1.frozen? ⟨b, o, none⟩ = W.frozen? ⟨b, o, none⟩) :=
  ⟨fun b o h => hb.cell (p := ⟨b, o, none⟩) h, fun b o h => hb.frozen (p := ⟨b, o, none⟩) h⟩

theorem counts_any (s : Int) (w : World) : Calls Try.prog 37 #[.int .i64 s] w fun e w' => e = .returned (.agg #[.int .i64 1, .int .i64 4, .int .i64 s, .int .i64 2]) ∧ Below w.heap.size w w' := by
  go_enter Try.func37, Try.ntmps37
  go_wp2
  exact bodyPost_ret (v := .agg #[.int .i64 1, .int .i64 4, .int .i64 s, .int .i64 2]) (by simp [results, Try.results37, go_sem]) rfl ⟨rfl, (Below.refl _ _).alloc (Nat.le_refl _) _⟩

def plP (s a : Int) : Int × Int := if a < 1 then (0, a) else if a < 5 then (1, a - 1) else if a < 5 + s then (2, a - 5) else (3, a - 5 - s)
def plOff (s : Int) : Nat → Int
  | 0 => 0
  | 1 => 1
  | 2 => 5
  | _ => 5 + s
theorem ret_agg3 {a b c a' b' c' : Int} (h0 : a = a') (h1 : b = b') (h2 : c = c') : Ending.returned (.agg #[.int .i64 a, .int .i64 b, .int .i64 c]) = .returned (.agg #[.int .i64 a', .int .i64 b', .int .i64 c']) := by rw [h0, h1, h2]

set_option maxRecDepth 100000 in
theorem place_any (p s a : Int) (w : World) (hs0 : 1 ≤ s) (hs1 : s ≤ 1024) (ha0 : 0 ≤ a) (ha1 : a < s + 7) :
    Calls Try.prog 32 #[.int .i64 p, .int .i64 s, .int .i64 a] w fun e w' => e = .returned (.agg #[.int .i64 p, .int .i64 (plP s a).1, .int .i64 (plP s a).2]) ∧ Below w.heap.size w w' := by
  have i0 : ∀ w : World, (Instr.index 61 (.agg #[.int .i64 1, .int .i64 4, .int .i64 s, .int .i64 2]) (.int .i64 0)).run Try.prog w = .ok (.int .i64 1) w := fun _ => by kernel_rfl
  have i1 : ∀ w : World, (Instr.index 61 (.agg #[.int .i64 1, .int .i64 4, .int .i64 s, .int .i64 2]) (.int .i64 1)).run Try.prog w = .ok (.int .i64 4) w := fun _ => by kernel_rfl
  have i2 : ∀ w : World, (Instr.index 61 (.agg #[.int .i64 1, .int .i64 4, .int .i64 s, .int .i64 2]) (.int .i64 2)).run Try.prog w = .ok (.int .i64 s) w := fun _ => by kernel_rfl
  have i3 : ∀ w : World, (Instr.index 61 (.agg #[.int .i64 1, .int .i64 4, .int .i64 s, .int .i64 2]) (.int .i64 3)).run Try.prog w = .ok (.int .i64 2) w := fun _ => by kernel_rfl
  go_enter Try.func32, Try.ntmps32
  go_wp2_with (go_at_call 37; refine (counts_any _ _).mono ?_; rintro e w1 ⟨rfl, hb⟩)
  obtain ⟨hc, hf⟩ := bcell hb
  have hz : w.heap.size + 1 ≤ w1.heap.size := by have := hb.size; simp at this; omega
  have hbb : Below w.heap.size w w1 := ((Below.refl _ _).alloc (Nat.le_refl _) _).trans (hb.mono (by simp))
  go_loop [2, 11] (fun v i => ∃ k : Nat, k ≤ 3 ∧ i = .int .i64 k ∧ v = .int .i64 (a - plOff s k) ∧ plOff s k ≤ a) (fun _ i => 4 - (intOf i).toNat)
  case atStart => exact ⟨0, by omega, rfl, by simp [plOff], by simp [plOff]; omega⟩
  case round =>
    obtain ⟨k, hk, rfl, rfl, hle⟩ := hrel
    have hk5 : k = 0 ∨ k = 1 ∨ k = 2 ∨ k = 3 := by omega
    rcases hk5 with rfl | rfl | rfl | rfl
    · have e0 : a - plOff s 0 = a := by simp [plOff]
      rw [e0]
      have h0 : 0 ≤ a := by simpa [plOff] using hle
      clear hle e0
      by_cases hlt : a < 1
      · have HP : Hid (plP s a = (0, a)) := by unfold Hid plP; rw [if_pos (by omega)]
        go_wp2
        exact bodyPost_ret (v := .agg #[.int .i64 p, .int .i64 0, .int .i64 (a)]) (by simp [results, Try.results32, go_sem, hc, hz]) rfl ⟨ret_agg3 rfl (by rw [HP.out]) (by rw [HP.out]; try (show _ = _ ; omega)), ((hbb.setCell (Nat.le_refl _) _).setCell (Nat.le_refl _) _).setCell (Nat.le_refl _) _⟩
      · go_wp2
        go_round
        case rel => exact ⟨1, by omega, by go_num, rfl, by simp only [plOff]; omega⟩
        case measure => simp [intOf]
    · have e0 : a - plOff s 1 = a - 1 := by simp [plOff]
      rw [e0]
      have h0 : 1 ≤ a := by simpa [plOff] using hle
      clear hle e0
      by_cases hlt : a - 1 < 4
      · have HP : Hid (plP s a = (1, a - 1)) := by unfold Hid plP; rw [if_neg (by omega), if_pos (by omega)]
        go_wp2
        exact bodyPost_ret (v := .agg #[.int .i64 p, .int .i64 1, .int .i64 (a - 1)]) (by simp [results, Try.results32, go_sem, hc, hz]) rfl ⟨ret_agg3 rfl (by rw [HP.out]) (by rw [HP.out]; try (show _ = _ ; omega)), ((hbb.setCell (Nat.le_refl _) _).setCell (Nat.le_refl _) _).setCell (Nat.le_refl _) _⟩
      · go_wp2
        go_round
        case rel => exact ⟨2, by omega, by go_num, by simp only [plOff]; go_num, by simp only [plOff]; omega⟩
        case measure => simp [intOf]
    · have e0 : a - plOff s 2 = a - 5 := by simp [plOff]
      rw [e0]
      have h0 : 5 ≤ a := by simpa [plOff] using hle
      clear hle e0
      by_cases hlt : a - 5 < s
      · have HP : Hid (plP s a = (2, a - 5)) := by unfold Hid plP; rw [if_neg (by omega), if_neg (by omega), if_pos (by omega)]
        go_wp2
        exact bodyPost_ret (v := .agg #[.int .i64 p, .int .i64 2, .int .i64 (a - 5)]) (by simp [results, Try.results32, go_sem, hc, hz]) rfl ⟨ret_agg3 rfl (by rw [HP.out]) (by rw [HP.out]; try (show _ = _ ; omega)), ((hbb.setCell (Nat.le_refl _) _).setCell (Nat.le_refl _) _).setCell (Nat.le_refl _) _⟩
      · go_wp2
        go_round
        case rel => exact ⟨3, by omega, by go_num, by simp only [plOff]; go_num, by simp only [plOff]; omega⟩
        case measure => simp [intOf]
    · have e0 : a - plOff s 3 = a - (5 + s) := by simp [plOff]
      rw [e0]
      have h0 : 5 + s ≤ a := by simpa [plOff] using hle
      clear hle e0
      by_cases hlt : a - (5 + s) < 2
      · have HP : Hid (plP s a = (3, a - 5 - s)) := by unfold Hid plP; rw [if_neg (by omega), if_neg (by omega), if_neg (by omega)]
        go_wp2
        exact bodyPost_ret (v := .agg #[.int .i64 p, .int .i64 3, .int .i64 (a - (5 + s))]) (by simp [results, Try.results32, go_sem, hc, hz]) rfl ⟨ret_agg3 rfl (by rw [HP.out]) (by rw [HP.out]; try (show _ = _ ; omega)), ((hbb.setCell (Nat.le_refl _) _).setCell (Nat.le_refl _) _).setCell (Nat.le_refl _) _⟩
      · omega

theorem refPlace_any (p s a : Int) (w : World) (hs0 : 1 ≤ s) (hs1 : s ≤ 1024) (ha0 : 0 ≤ a) (ha1 : a < s + 7) :
    Calls Try.prog 33 #[.int .i64 p, .int .i64 s, .int .i64 a] w fun e w' => e = .returned (.agg #[.int .i64 p, .int .i64 (plP s a).1, .int .i64 (plP s a).2]) ∧ Below w.heap.size w w' := by
  by_cases h0 : a = 0
  · have hp : plP s a = (0, a) := by unfold plP; rw [if_pos (by omega)]
    rw [hp]
    clear hp
    go_enter Try.func33, Try.ntmps33
    go_wp2
    exact bodyPost_ret (v := .agg #[.int .i64 p, .int .i64 0, .int .i64 (0)]) (by simp [results, Try.results33, go_sem]) rfl ⟨ret_agg3 rfl rfl (by omega), (Below.refl _ _).alloc (Nat.le_refl _) _⟩
  · by_cases h1 : a < 5
    · have hp : plP s a = (1, a - 1) := by unfold plP; rw [if_neg (by omega), if_pos (by omega)]
      rw [hp]
      clear hp
      go_enter Try.func33, Try.ntmps33
      go_wp2
      exact bodyPost_ret (v := .agg #[.int .i64 p, .int .i64 1, .int .i64 (a - 1)]) (by simp [results, Try.results33, go_sem]) rfl ⟨ret_agg3 rfl rfl (by omega), (Below.refl _ _).alloc (Nat.le_refl _) _⟩
    · by_cases h2 : a < 5 + s
      · have hp : plP s a = (2, a - 5) := by unfold plP; rw [if_neg (by omega), if_neg (by omega), if_pos (by omega)]
        rw [hp]
        clear hp
        go_enter Try.func33, Try.ntmps33
        go_wp2
        exact bodyPost_ret (v := .agg #[.int .i64 p, .int .i64 2, .int .i64 (a - 5)]) (by simp [results, Try.results33, go_sem]) rfl ⟨ret_agg3 rfl rfl (by omega), (Below.refl _ _).alloc (Nat.le_refl _) _⟩
      · · have hp : plP s a = (3, a - 5 - s) := by unfold plP; rw [if_neg (by omega), if_neg (by omega), if_neg (by omega)]
          rw [hp]
          clear hp
          go_enter Try.func33, Try.ntmps33
          go_wp2
          exact bodyPost_ret (v := .agg #[.int .i64 p, .int .i64 3, .int .i64 (a - 5 - s)]) (by simp [results, Try.results33, go_sem]) rfl ⟨ret_agg3 rfl rfl (by omega), (Below.refl _ _).alloc (Nat.le_refl _) _⟩

end Go.Proofs.Ytpcfjlfdjkifgaa

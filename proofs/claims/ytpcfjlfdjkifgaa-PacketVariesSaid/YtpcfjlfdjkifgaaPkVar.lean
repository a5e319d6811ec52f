/-
  The law PacketVaries (package masterdisclaw11): the walk of its text returns true for any sizes and numbers.
-/
import Derived.Test.YtpcfjlfdjkifgaaPkVarB
import Derived.OpenShut
namespace Go.Proofs.Ytpcfjlfdjkifgaa
open Go.RowKit Go.Lib
set_option linter.unusedVariables false
set_option linter.unusedSimpArgs false

theorem Try.infoInt : (Try.prog.info? 3).map (fun i => (i.zero, i.size, i.bytes)) = some (some (.int .i64 0), 1, 8) := by kernel_rfl
theorem RI_own {w : World} {base n : Nat} {g cap : Nat} {xs : List Int} (h : w.ownsRow base 3 1 (.slice (some ⟨g, 0, none⟩) n cap) n (xs.map (Value.int .i64))) (hl : xs.length = n) (hg : g < w.heap.size) : RI w (some ⟨g, 0, none⟩) n xs :=
  ⟨hl, fun hn => ⟨g, 0, rfl, hg, fun j hj => by
    rw [Nat.zero_add, h.cellAt j (by omega)]
    simp [List.getElem?_eq_getElem (show j < xs.length by omega), List.getD_eq_getElem?_getD]⟩⟩
theorem rep_snoc (x : Int) (k : Nat) : (List.replicate (k + 1) x).map (Value.int .i64) = (List.replicate k x).map (Value.int .i64) ++ [.int .i64 x] := by
  rw [List.replicate_succ', List.map_append]; rfl
theorem allS_rep (x : Int) (m : Nat) (h : szB x = true) : allS (List.replicate m x) = true := by
  unfold allS
  rw [List.all_eq_true]
  intro y hy
  rw [(List.mem_replicate.1 hy).2]; exact h

theorem bthen {w w1 w2 : World} (h : Below w.heap.size w w1) (k : Below w1.heap.size w1 w2) : Below w.heap.size w w2 := h.trans (k.mono h.size)
theorem varies_few (A : Option Addr) (n c : Nat) (a1 a2 a3 : Int) (h : 40 < n ∧ n ≤ 1024) (w : World) :
    Calls Try.prog 7 #[.slice A n c, .int .i64 a1, .int .u8 a2, .int .u8 a3] w fun e w' => e = .returned (.bool true) ∧ Below w.heap.size w w' := by
  obtain ⟨h1, h2⟩ := h
  have d1 : decide (40 < (n : Int)) = true := decide_eq_true (by omega)
  have d2 : decide ((n : Int) ≤ 1024) = true := decide_eq_true (by omega)
  go_enter Try.func7, Try.ntmps7
  go_wp2_with fail
  refine (awake_any _).mono ?_
  rintro e w1 ⟨rfl, hb1⟩
  go_wp2_with fail
  go_ret
  exact ⟨rfl, hb1⟩

/-- What the equal packets come to. -/
theorem equal_plain (t x : Int) (m : Nat) (hx1 : 1 ≤ x) (hx2 : x ≤ 256) (hm1 : 1 ≤ m) (hm2 : m ≤ 20) : (varP (List.replicate m x) t = (0, 0, 0, 2) ∧ (t < 0 ∨ (m : Int) * (x + 7) ≤ t)) ∨ (∃ p q r, varP (List.replicate m x) t = (p, q, r, 0) ∧ locP x t = (p, q, r, 0)) := by
  have hs : szB x = true := decide_eq_true ⟨hx1, by omega⟩
  have hl : (List.replicate m x).length = m := List.length_replicate
  by_cases ht : t < 0
  · exact .inl ⟨varP_neg _ t (by omega) (by omega) (allS_rep x m hs) ht, .inl ht⟩
  · have e := varP_go (List.replicate m x) t (by omega) (by omega) (allS_rep x m hs) (by omega)
    rw [vGo_equal x hx1 m t 0 (by omega)] at e
    by_cases h : t < (m : Int) * (x + 7)
    · rw [if_pos h] at e
      have hb : (m : Int) * (x + 7) ≤ 20 * 263 := Int.mul_le_mul (by omega) (by omega) (by omega) (by omega)
      refine .inr ⟨_, _, _, e, ?_⟩
      have hn : nmI x t = 0 := by unfold nmI; rw [if_pos hs, if_pos (by omega)]
      unfold locP; rw [if_pos hn, Int.zero_add]
    · rw [if_neg h] at e
      exact .inl ⟨e, .inr (by omega)⟩

set_option maxRecDepth 100000 in
theorem varies_main (A : Option Addr) (n c : Nat) (xs : List Int) (t a2 a3 : Int) (w : World) (hr : RI w A n xs) (hm : n ≤ 9223372036854775807) (t0 : -9223372036854775808 ≤ t) (t1 : t ≤ 9223372036854775807)
    (b2 : 0 ≤ a2 ∧ a2 ≤ 255) (b3 : 0 ≤ a3 ∧ a3 ≤ 255) (h : n ≤ 40 ∨ 1024 < n) :
    Calls Try.prog 7 #[.slice A n c, .int .i64 t, .int .u8 a2, .int .u8 a3] w fun e w' => e = .returned (.bool true) ∧ Below w.heap.size w w' := by
  have HR := hid hr
  have HM := hid hm
  have HT0 := hid t0
  have HT1 := hid t1
  have HV : Hid (∀ w1 : World, Below w.heap.size w w1 → Calls Try.prog 17 #[.slice A n c, .int .i64 t] w1 fun e w' => e = .returned (.tuple #[.agg #[.int .i64 (varP xs t).1, .int .i64 (varP xs t).2.1, .int .i64 (varP xs t).2.2.1], .int .i64 (varP xs t).2.2.2]) ∧ Below w1.heap.size w1 w') := fun w1 hb => Variable_any A n c xs t w1 (hr.below hb) hm t0 t1
  have HW : Hid (∀ w1 : World, Below w.heap.size w w1 → Calls Try.prog 18 #[.slice A n c, .int .i64 t] w1 fun e w' => e = .returned (.tuple #[.agg #[.int .i64 (varP xs t).1, .int .i64 (varP xs t).2.1, .int .i64 (varP xs t).2.2.1], .int .i64 (varP xs t).2.2.2]) ∧ Below w1.heap.size w1 w') := fun w1 hb => refVariable_any A n c xs t w1 (hr.below hb) hm t0 t1
  clear hr hm t0 t1
  generalize varP xs t = R at *
  obtain ⟨r1, r2, r3, r4⟩ := R
  obtain ⟨m, hmm⟩ : ∃ m : Nat, (m : Int) = 1 + a3 % 20 := ⟨(1 + a3 % 20).toNat, by omega⟩
  have m1 : 1 ≤ m := by omega
  have m2 : m ≤ 20 := by omega
  have em : 1 + a3 % 20 = (m : Int) := hmm.symm
  clear hmm
  have HQ := hid (equal_plain t (1 + a2) m (by omega) (by omega) m1 m2)
  obtain ⟨i0, hi, hz0, hz1, hz2⟩ := info_parts Try.infoInt
  have hx2 : 1 + a2 ≤ 256 := by omega
  have hx1 : 1 ≤ 1 + a2 := by omega
  obtain ⟨D1, D2, hD⟩ : ∃ D1 D2 : Bool, (decide (40 < (n : Int)) = D1 ∧ decide ((n : Int) ≤ 1024) = D2) ∧ ((D1 = false ∧ D2 = true) ∨ (D1 = true ∧ D2 = false)) := by
    rcases h with h | h
    · exact ⟨false, true, ⟨decide_eq_false (by omega), decide_eq_true (by omega)⟩, .inl ⟨rfl, rfl⟩⟩
    · exact ⟨true, false, ⟨decide_eq_true (by omega), decide_eq_false (by omega)⟩, .inr ⟨rfl, rfl⟩⟩
  obtain ⟨⟨d1, d2⟩, hD⟩ := hD
  clear h
  rcases hD with ⟨rfl, rfl⟩ | ⟨rfl, rfl⟩
  all_goals
    go_enter Try.func7, Try.ntmps7
    go_wp2_with fail
    refine (awake_any _).mono ?_
    rintro e w1 ⟨rfl, hb1⟩
    go_wp2_with fail
    refine (HV.out _ hb1).mono ?_
    rintro e w2 ⟨rfl, hb2⟩
    have g2 : Below w.heap.size w (w2.alloc (Obj.cells #[Value.int IntKind.i64 r1, Value.int IntKind.i64 r2, Value.int IntKind.i64 r3] 27)) := by
      have := hb1.trans (hb2.mono hb1.size); exact this.alloc this.size _
    go_wp2_with fail
    refine (HW.out _ g2).mono ?_
    rintro e w3 ⟨rfl, hb3⟩
    obtain ⟨hz3, k0, k1, k2⟩ := keep3 hb3
    have g3 : Below w.heap.size w (w3.alloc (Obj.cells #[Value.int IntKind.i64 r1, Value.int IntKind.i64 r2, Value.int IntKind.i64 r3] 27)) := by
      have := g2.trans (hb3.mono g2.size); exact this.alloc this.size _
    have G3 := hid g3
    clear g2 g3 hb1 hb2 hb3
    go_wp2_with fail
    clear k0 k1 k2 d1 d2
    generalize w3.alloc (Obj.cells #[Value.int IntKind.i64 r1, Value.int IntKind.i64 r2, Value.int IntKind.i64 r3] 27) = W0 at G3 ⊢
    go_loopw [13, 52] (fun v i wr => ∃ k : Nat, k ≤ m ∧ i = .int .i64 k ∧ wr.ownsRow W0.heap.size 3 1 v k ((List.replicate k (1 + a2)).map (Value.int .i64)) ∧ Below W0.heap.size W0 wr) (fun _ i _ => m - (intOf i).toNat)
    case atStart => exact ⟨0, by omega, rfl, World.ownsRow_nil _ _ _ _, Below.refl _ _⟩
    case round =>
      obtain ⟨k, hk, rfl, hown, hbel⟩ := hrel
      by_cases hlt : k < m
      · have d3 : decide ((k : Int) < (m : Int)) = true := decide_eq_true (by omega)
        go_wp2_with (at_builtin; refine wpList_append_own _ rfl _ _ 33 rfl W0.heap.size 3 i0 (.int .i64 0) 1 8 Try.underlying33 hi hz0 hz1 hz2 rfl (by decide) _ _ _ rfl (hown.alloc _) ⟨wr.heap.size, 0, none⟩ 1 1 [.int .i64 (1 + a2)] rfl rfl ?c1 ?c2 ?c3 ?c4 ?c5 ?_)
        case c1 =>
          intro j u hj
          match j, hj with
          | 0, hj => simp at hj; subst hj; simp [Addr.add]
        case c2 => intro u hu; simp at hu; subst hu; rfl
        case c3 => unfold maxLen; omega
        case c4 => omega
        case c5 => have := hbel.size; simp; omega
        intro v' w' hown' hgrow _
        have hb' : Below W0.heap.size W0 w' := (hbel.alloc hbel.size _).grown hgrow (by have := hbel.size; simp; omega) (fun r hr => (hown.lt r hr).1)
        have HO := hid hown'
        clear hown' hown hgrow
        go_wp2
        go_roundw
        case rel => exact ⟨k + 1, by omega, by go_num, by rw [rep_snoc, List.map_replicate]; exact HO.out, hb'⟩
        case measure => simp [intOf]; omega
      · have ek : Hid (k = m) := (by omega : k = m)
        obtain ⟨g, cap, rfl, hg1, hg2, hg3⟩ := own_form hown (by omega)
        have HI := hid (RI_own hown List.length_replicate hg2)
        have d3 : decide ((k : Int) < (m : Int)) = false := decide_eq_false (by omega)
        clear hown
        have hbb : Below w.heap.size w wr := G3.out.trans (hbel.mono G3.out.size)
        rcases HQ.out with ⟨q1, q2⟩ | ⟨p, q, r, q1, q2⟩
        · have HX : Hid (Calls Try.prog 17 #[.slice (some ⟨g, 0, none⟩) k cap, .int .i64 t] wr fun e w' => e = .returned (.tuple #[.agg #[.int .i64 0, .int .i64 0, .int .i64 0], .int .i64 2]) ∧ Below wr.heap.size wr w') := by
            have := Variable_any _ k cap _ t wr HI.out (by omega) HT0.out HT1.out
            rw [ek.out, q1] at this
            rw [ek.out]
            exact this
          clear q1
          by_cases ht : t < 0
          · have d4 : decide (t < 0) = true := decide_eq_true ht
            clear q2
            go_wp2_with fail
            refine HX.out.mono ?_
            rintro e w4 ⟨rfl, hb4⟩
            go_wp2_with fail
            go_ret
            have := bthen hbb hb4
            exact ⟨rfl, this.alloc this.size _⟩
          · have d4 : decide (t < 0) = false := decide_eq_false ht
            have q3 : (m : Int) * (1 + a2 + 7) ≤ t := by omega
            have ee : (k : Int) * (8 + a2) = (m : Int) * (1 + a2 + 7) := by rw [ek.out, show 8 + a2 = 1 + a2 + 7 by omega]
            have d5 : decide ((k : Int) * (8 + a2) ≤ t) = true := decide_eq_true (by omega)
            have q4 : (k : Int) * (8 + a2) ≤ 5260 := by
              rw [ek.out]
              exact Int.le_trans (Int.mul_le_mul (show (m : Int) ≤ 20 by omega) (show 8 + a2 ≤ 263 by omega) (by omega) (by omega)) (by omega)
            have q5 : 0 ≤ (k : Int) * (8 + a2) := Int.mul_nonneg (by omega) (by omega)
            clear q2 q3 ee
            go_wp2_with fail
            refine HX.out.mono ?_
            rintro e w4 ⟨rfl, hb4⟩
            go_wp2_with fail
            go_ret
            have := bthen hbb hb4
            exact ⟨rfl, this.alloc this.size _⟩
        · have HX : Hid (Calls Try.prog 17 #[.slice (some ⟨g, 0, none⟩) k cap, .int .i64 t] wr fun e w' => e = .returned (.tuple #[.agg #[.int .i64 p, .int .i64 q, .int .i64 r], .int .i64 0]) ∧ Below wr.heap.size wr w') := by
            have := Variable_any _ k cap _ t wr HI.out (by omega) HT0.out HT1.out
            rw [ek.out, q1] at this
            rw [ek.out]
            exact this
          have HY : Hid (∀ w1 : World, Calls Try.prog 15 #[.int .i64 (1 + a2), .int .i64 t] w1 fun e w' => e = .returned (.tuple #[.agg #[.int .i64 p, .int .i64 q, .int .i64 r], .int .i64 0]) ∧ Below w1.heap.size w1 w') := fun w1 => by
            have := Locate_tup (1 + a2) t w1
            rw [q2] at this
            exact this
          clear q1 q2
          go_wp2_with fail
          refine HX.out.mono ?_
          rintro e w4 ⟨rfl, hb4⟩
          go_wp2_with fail
          refine (HY.out _).mono ?_
          rintro e w5 ⟨rfl, hb5⟩
          obtain ⟨hz5, k0, k1, k2⟩ := keep3 hb5
          go_wp2_with fail
          go_ret
          have h4 := bthen hbb hb4
          have h5 : Below w.heap.size w w5 := (h4.alloc h4.size _).trans (hb5.mono (by have := h4.size; simp; omega))
          exact ⟨rfl, h5.alloc h5.size _⟩

theorem PacketVaries_core (a0 : Option Addr) (len0 cap0 : Nat) (xs : List Int) (a1 : Int) (a2 : Int) (a3 : Int) (w : World) (hr : RI w a0 len0 xs) (hm : len0 ≤ maxLen) (w1 : (Lit.int .i64 a1).wf = true) (w2 : (Lit.int .u8 a2).wf = true) (w3 : (Lit.int .u8 a3).wf = true) :
    Calls Try.prog 7 #[.slice a0 len0 cap0, .int .i64 a1, .int .u8 a2, .int .u8 a3] w fun e w' => e = .returned (.bool true) ∧ Below w.heap.size w w' := by
  have A1 := bounds_i64 w1
  have A2 := bounds_u8 w2
  have A3 := bounds_u8 w3
  unfold maxLen at hm
  by_cases h : 40 < len0 ∧ len0 ≤ 1024
  · exact varies_few a0 len0 cap0 a1 a2 a3 h w
  · exact varies_main a0 len0 cap0 xs a1 a2 a3 w hr hm A1.1 A1.2 A2 A3 (by omega)
theorem RI_of (w : World) (a : Option Addr) (len cap : Nat) (zs : List Int) (h : (a = none ∧ len = 0 ∧ cap = 0 ∧ zs = []) ∨
    ∃ x, a = some x ∧ len ≤ cap ∧ cap ≤ maxLen ∧ zs.length = cap ∧ (∀ i, i < zs.length → w.cell? (x.add i) = some (.int .i64 (zs.getD i 0))) ∧ ∀ n ∈ zs, (Lit.int .i64 n).wf = true) : RI w a len (zs.take len) ∧ len ≤ maxLen := by
  rcases h with ⟨rfl, rfl, rfl, rfl⟩ | ⟨x, rfl, h1, h2, h3, h4, _⟩
  · exact ⟨⟨rfl, fun h => absurd h (by omega)⟩, Nat.zero_le _⟩
  · refine ⟨⟨by simp; omega, fun hn => ?_⟩, Nat.le_trans h1 h2⟩
    obtain ⟨b, off, rfl, hc⟩ := ints_at h4 (by omega)
    refine ⟨b, off, rfl, World.block_lt_of_cell? w _ (hc 0 (by omega)), fun j hj => ?_⟩
    rw [hc j (by omega)]
    simp [List.getD_eq_getElem?_getD, List.getElem?_take, hj]
end Go.Proofs.Ytpcfjlfdjkifgaa

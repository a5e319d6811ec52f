/-
  The law PacketOrder (package masterdisclaw11): the walk of its text returns true for any two numbers.
-/
import Derived.Test.YtpcfjlfdjkifgaaPkOrdP
import Derived.OpenShut
namespace Go.Proofs.Ytpcfjlfdjkifgaa
open Go.RowKit Go.Lib
set_option linter.unusedVariables false
set_option linter.unusedSimpArgs false

theorem Try.infoSector : (Try.prog.info? 27).map (fun i => (i.zero, i.size, i.bytes)) = some (some (.agg #[.int .i64 0, .int .i64 0, .int .i64 0]), 3, 24) := by kernel_rfl

set_option maxRecDepth 100000 in
theorem PacketOrder_walk (a0 : Int) (a1 : Int) (w0 : (Lit.int .u8 a0).wf = true) (w1 : (Lit.int .u16 a1).wf = true) (w : World) :
    Calls Try.prog 5 #[.int .u8 a0, .int .u16 a1] w fun e w' => e = .returned (.bool true) ∧ Below w.heap.size w w' := by
  have A0 := bounds_u8 w0
  have A1 := bounds_u16 w1
  clear w0 w1
  obtain ⟨n, hn⟩ : ∃ n : Nat, (n : Int) = 1 + a0 % 100 := ⟨(1 + a0 % 100).toNat, by omega⟩
  have P0 : 0 ≤ a1 % 4000 := by omega
  have P1 : a1 % 4000 < 4000 := by omega
  have n1 : 1 ≤ n := by omega
  have n2 : n ≤ 100 := by omega
  have e1 : 1 + a0 % 100 = (n : Int) := hn.symm
  clear hn
  obtain ⟨i0, hi, hz0, hz1, hz2⟩ := info_parts Try.infoSector
  go_enter Try.func5, Try.ntmps5
  go_wp2_with fail
  refine (awake_any _).mono ?_
  rintro e w1 ⟨rfl, hb1⟩
  go_wp2_with fail
  clear e1
  obtain ⟨W0, hW0⟩ : ∃ W0, W0 = w1.alloc (Obj.cells #[Value.int IntKind.i64 1, Value.int IntKind.i64 4, Value.int IntKind.i64 ↑n, Value.int IntKind.i64 2] 3) := ⟨_, rfl⟩
  have L0 : W0.cell? ⟨w1.heap.size, 0, none⟩ = some (.int .i64 1) := by rw [hW0]; simp
  have L1 : W0.cell? ⟨w1.heap.size, 1, none⟩ = some (.int .i64 4) := by rw [hW0]; simp
  have L2 : W0.cell? ⟨w1.heap.size, 2, none⟩ = some (.int .i64 n) := by rw [hW0]; simp
  have L3 : W0.cell? ⟨w1.heap.size, 3, none⟩ = some (.int .i64 2) := by rw [hW0]; simp
  have S0 : W0.heap.size = w1.heap.size + 1 := by rw [hW0]; simp
  have B0 : Below w.heap.size w W0 := by rw [hW0]; exact hb1.alloc hb1.size _
  rw [← hW0]
  clear hW0
  have LL : ∀ k, k < 4 → W0.cell? ⟨w1.heap.size, k, none⟩ = some (.int .i64 (ocnt n k : Nat)) := by
    intro k hk
    match k, hk with
    | 0, _ => exact L0
    | 1, _ => exact L1
    | 2, _ => exact L2
    | 3, _ => exact L3
  have HL := hid LL
  have HS := hid S0
  clear L0 L1 L2 L3 LL S0
  go_loopw [7, 27] (fun v i wr => ∃ k : Nat, k ≤ 4 ∧ i = .int .i64 k ∧ wr.ownsRow W0.heap.size 27 3 v (ooff n k) (ows (a1 % 4000) n (ooff n k)) ∧ Below W0.heap.size W0 wr) (fun _ i _ => 4 - (intOf i).toNat)
  case atStart => exact ⟨0, by omega, rfl, World.ownsRow_nil _ _ _ _, Below.refl _ _⟩
  case round =>
    obtain ⟨k, hk, rfl, hown, hbel⟩ := hrel
    by_cases hlt : k < 4
    · have hcell : wr.cell? ⟨w1.heap.size, k, none⟩ = some (.int .i64 (ocnt n k : Nat)) := (hbel.cell (p := ⟨w1.heap.size, k, none⟩) (by have := HS.out; show w1.heap.size < _; omega)).trans (HL.out k hlt)
      have hcl := ocnt_le n k
      have hol := ooff_le n k hk
      obtain ⟨wo, hwo⟩ : ∃ wo : World, wo = wr := ⟨_, rfl⟩
      subst hwo
      have hd : decide ((k : Int) < 4) = true := decide_eq_true (by omega)
      go_wp2
      clear hd
      go_loopw [7, 33] (fun v i wr => ∃ q : Nat, q ≤ ocnt n k ∧ i = .int .i64 q ∧ wr.ownsRow W0.heap.size 27 3 v (ooff n k + q) (ows (a1 % 4000) n (ooff n k + q)) ∧ Below W0.heap.size W0 wr) (fun _ i _ => ocnt n k - (intOf i).toNat)
      case atStart => exact ⟨0, by omega, rfl, hown, hbel⟩
      case round =>
        obtain ⟨q, hq, rfl, hown2, hbel2⟩ := hrel
        by_cases hql : q < ocnt n k
        · go_wp2_with (at_builtin; refine wpList_append_own _ rfl _ _ 32 rfl W0.heap.size 27 i0 (.agg #[.int .i64 0, .int .i64 0, .int .i64 0]) 3 24 Try.underlying32 hi hz0 hz1 hz2 rfl (by decide) _ _ _ rfl (hown2.alloc _) ⟨wr.heap.size, 0, none⟩ 1 1 [.int .i64 (a1 % 4000), .int .i64 k, .int .i64 q] rfl rfl ?c1 ?c2 ?c3 ?c4 ?c5 ?_)
          case c1 =>
            intro j u hj
            match j, hj with
            | 0, hj => simp at hj; subst hj; simp [Addr.add]
            | 1, hj => simp at hj; subst hj; simp [Addr.add]
            | 2, hj => simp at hj; subst hj; simp [Addr.add]
          case c2 => intro u hu; simp at hu; rcases hu with rfl | rfl | rfl <;> rfl
          case c3 => unfold maxLen; omega
          case c4 => omega
          case c5 => have := hbel2.size; simp; omega
          intro v' w' hown' hgrow _
          have hb' : Below W0.heap.size W0 w' := (hbel2.alloc hbel2.size _).grown hgrow (by have := hbel2.size; simp; omega) (fun r hr => (hown2.lt r hr).1)
          have HO := hid hown'
          clear hown' hown2 hgrow
          go_wp2
          go_roundw
          case rel => exact ⟨q + 1, by omega, by go_num, by rw [ows_snoc _ n k q hlt hql]; exact HO.out, hb'⟩
          case measure => simp [intOf]; omega
        · obtain rfl : q = ocnt n k := by omega
          go_wp2
          go_roundw
          case rel => exact ⟨k + 1, by omega, by go_num, by rw [ooff_succ n k hlt]; exact hown2, hbel2⟩
          case measure => simp [intOf]; omega
    · have e4 : k = 4 := by omega
      have HO : Hid (wr.ownsRow W0.heap.size 27 3 u7 (n + 7) (ows (a1 % 4000) n (n + 7))) := by have := hown; rw [e4, show ooff n 4 = n + 7 by simp only [ooff]; omega] at this; exact this
      obtain ⟨g, cap, rfl, hg1, hg2, hg3⟩ := own_form HO.out (by omega)
      have hd : decide ((k : Int) < 4) = false := decide_eq_false (by omega)
      clear hown e4
      go_wp2
      clear hd
      go_loopw [47] (fun i wr => ∃ j : Nat, j ≤ n + 7 ∧ i = .int .i64 j ∧ Hid (wr.ownsRow W0.heap.size 27 3 (.slice (some ⟨g, 0, none⟩) (n + 7) cap) (n + 7) (ows (a1 % 4000) n (n + 7))) ∧ Below W0.heap.size W0 wr) (fun i _ => n + 7 - (intOf i).toNat)
      case atStart => exact ⟨0, by omega, rfl, HO, hbel⟩
      case round =>
        obtain ⟨j, hj, rfl, HO2, hbel2⟩ := hrel
        by_cases hjl : j < n + 7
        · have m0 : 0 ≤ (a1 % 4000) * ((n : Int) + 7) := Int.mul_nonneg (by omega) (by omega)
          have m1 : (a1 % 4000) * ((n : Int) + 7) ≤ 3999 * 107 := Int.mul_le_mul (by omega) (by omega) (by omega) (by omega)
          have HC : Hid (∀ w : World, Calls Try.prog 15 #[.int .i64 n, .int .i64 ((a1 % 4000) * ((n : Int) + 7) + j)] w fun e w' => e = .returned (.tuple #[.agg #[.int .i64 (a1 % 4000), .int .i64 (plP n j).1, .int .i64 (plP n j).2], .int .i64 0]) ∧ Below w.heap.size w w') := fun w => by
            have := Locate_tup n ((a1 % 4000) * ((n : Int) + 7) + j) w; rw [loc_of (a1 % 4000) n j n1 n2 P0 P1 hjl] at this; exact this
          have hgl : g < wr.heap.size := (HO2.out.lt g rfl).2
          have c0 : wr.cell? ⟨g, j * 3, none⟩ = some (.int .i64 (a1 % 4000)) := (HO2.out.cellAt (j * 3) (by omega)).trans (ows_at (a1 % 4000) n (n + 7) j 0 hjl (by omega))
          have c1 : wr.cell? ⟨g, j * 3 + 1, none⟩ = some (.int .i64 (plP n j).1) := (HO2.out.cellAt (j * 3 + 1) (by omega)).trans (ows_at (a1 % 4000) n (n + 7) j 1 hjl (by omega))
          have c2 : wr.cell? ⟨g, j * 3 + 2, none⟩ = some (.int .i64 (plP n j).2) := (HO2.out.cellAt (j * 3 + 2) (by omega)).trans (ows_at (a1 % 4000) n (n + 7) j 2 hjl (by omega))
          go_wp2_with fail
          refine (HC.out _).mono ?_
          rintro e w2 ⟨rfl, hb2⟩
          obtain ⟨hz3, k0, k1, k2⟩ := keep3 hb2
          go_wp2_with fail
          have bs : W0.heap.size ≤ wr.heap.size := hbel2.size
          have b2 : Below W0.heap.size W0 w2 := (hbel2.alloc bs _).trans (hb2.mono (by simp; omega))
          have HO3 : Hid (w2.ownsRow W0.heap.size 27 3 (.slice (some ⟨g, 0, none⟩) (n + 7) cap) (n + 7) (ows (a1 % 4000) n (n + 7))) := own_below (HO2.out.alloc _) hb2
          go_roundw
          case rel => exact ⟨j + 1, by omega, by go_num, HO3.out.alloc _, b2.alloc b2.size _⟩
          case measure => simp [intOf]; omega
        · obtain rfl : j = n + 7 := by omega
          go_wp2
          go_ret
          exact ⟨rfl, B0.trans (hbel2.mono B0.size)⟩
end Go.Proofs.Ytpcfjlfdjkifgaa

/-
  For PacketRecords: equal lists of packets.
-/
import Derived.Test.YtpcfjlfdjkifgaaPrP
namespace Go.Proofs.Ytpcfjlfdjkifgaa
open Go.RowKit Go.Lib
set_option linter.unusedVariables false
set_option linter.unusedSimpArgs false

theorem sp_keep {w w' w2 : World} {p q : Addr} {u v : Value} (h : w'.cell? p = some u ∧ w'.cell? q = some v ∧ Below w.heap.size w w') (hb : Below w'.heap.size w' w2) : w2.cell? p = some u ∧ w2.cell? q = some v ∧ Below w.heap.size w w2 :=
  ⟨below_cell hb h.1, below_cell hb h.2.1, bthen h.2.2 hb⟩
set_option maxRecDepth 20000 in
set_option maxHeartbeats 1000000 in
theorem SamePackets_same (B1 B2 : Nat) (a b : Value) (vs us : List Value) (ps : List (List ByteArray)) (w : World) (hl : ps.length ≤ 100000) (hp : ∀ x ∈ ps, x.length ≤ 100000) (ha : PKI w B1 a vs ps) (hb : PKI w B2 b us ps) :
    Calls Try.prog 25 #[a, b] w fun e w' => e = .returned (.bool true) ∧ Below w.heap.size w w' := by
  have HA := hid ha
  have HB := hid hb
  obtain ⟨p, cap, rfl⟩ := own_len ha.own
  obtain ⟨p2, cap2, rfl⟩ := own_len hb.own
  clear ha hb
  generalize hN : ps.length = n at *
  have HP := hid hp
  clear hp
  go_enter Try.func25, Try.ntmps25
  go_wp2_with fail
  go_loopw [5] (fun c wr => ∃ i : Nat, i ≤ n ∧ c = .int .i64 i ∧ Below w.heap.size w wr) (fun c _ => n - (RowKit.intOf c).toNat)
  case atStart => exact ⟨0, Nat.zero_le _, rfl, Below.refl _ _⟩
  case round =>
    obtain ⟨i, hi, rfl, hbel⟩ := hrel
    by_cases hlt : i < n
    · have d1 : decide ((i : Int) < (n : Int)) = true := decide_eq_true (by omega)
      have l1 : (i : Int) < (n : Int) := by omega
      obtain ⟨g, c1, he, _, _, _⟩ := own_form HA.out.own (by omega)
      injection he with he1 he2 he3
      subst he1 he3
      clear he2
      obtain ⟨g2, c2, he, _, _, _⟩ := own_form HB.out.own (by omega)
      injection he with he1 he2 he3
      subst he1 he3
      clear he2
      have hoA := HA.out.own
      have hoB := HB.out.own
      rw [hN] at hoA hoB
      obtain ⟨x, hx⟩ : ∃ x, vs[i]? = some x := ⟨vs[i]'(by rw [HA.out.len]; omega), List.getElem?_eq_getElem _⟩
      obtain ⟨y, hy⟩ : ∃ y, us[i]? = some y := ⟨us[i]'(by rw [HB.out.len]; omega), List.getElem?_eq_getElem _⟩
      obtain ⟨l, hL⟩ : ∃ l, ps[i]? = some l := ⟨ps[i]'(by omega), List.getElem?_eq_getElem _⟩
      have hll := HP.out l (List.mem_of_getElem? hL)
      have hSx : SR wr.drew x l := ((own_SR (HA.out.inn i x l hx hL)).below hbel).below (bdrew (Below.refl _ _))
      have hSy : SR wr.drew y l := ((own_SR (HB.out.inn i y l hy hL)).below hbel).below (bdrew (Below.refl _ _))
      have x1 : wr.cell? ⟨g, i, none⟩ = some x := below_cell hbel (by
        have := hoA.cellAt i (by omega)
        rw [hx] at this; exact this)
      have x2 : wr.cell? ⟨g2, i, none⟩ = some y := below_cell hbel (by
        have := hoB.cellAt i (by omega)
        rw [hy] at this; exact this)
      obtain ⟨px, cx, rfl⟩ := hSx.len
      obtain ⟨py, cy, rfl⟩ := hSy.len
      have hS := And.intro x1 (And.intro x2 hbel)
      have HSt := hid (Strings_same _ _ l wr.drew hll hSx hSy)
      clear hx hy hL hSx hSy x1 x2 hoA hoB
      go_wp2_with fail
      go_region_held3 (fun w' => w'.cell? ⟨g, i, none⟩ = some (.slice px l.length cx) ∧ w'.cell? ⟨g2, i, none⟩ = some (.slice py l.length cy) ∧ Below w.heap.size w w')
        (with_reducible first | exact sp_keep hS hbW | exact sp_keep hS (bdrew (Below.refl _ _)))
        (first | (go_at_call 27; refine HSt.out.mono ?_; rintro e w2 ⟨rfl, hb⟩; have hbW := bthen (bdrew (Below.refl wr.heap.size wr)) hb))
      rename_i hh
      have L := hh.2.2
      clear hh
      go_wp2_with fail
      go_roundw
      case rel => exact ⟨i + 1, by omega, by go_num, L⟩
      case measure => simp [RowKit.intOf]; omega
    · have d1 : decide ((i : Int) < (n : Int)) = false := decide_eq_false (by omega)
      go_wp2_with fail
      go_ret
      exact ⟨rfl, hbel⟩
end Go.Proofs.Ytpcfjlfdjkifgaa

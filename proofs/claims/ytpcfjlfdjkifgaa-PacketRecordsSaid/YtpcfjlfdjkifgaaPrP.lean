/-
  For PacketRecords: equal lists of strings and of sectors.
-/
import Derived.Test.YtpcfjlfdjkifgaaPrO
namespace Go.Proofs.Ytpcfjlfdjkifgaa
open Go.RowKit Go.Lib
set_option linter.unusedVariables false
set_option linter.unusedSimpArgs false

theorem own_SR {w : World} {B : Nat} {v : Value} {l : List ByteArray} (h : w.ownsRow B 9 1 v l.length (strV l)) : SR w v l := by
  by_cases h0 : 0 < l.length
  · obtain ⟨g, cap, rfl, h1, h2, h3⟩ := own_form h h0
    have hm : cap ≤ maxLen := by
      rcases h.2 with ⟨_, h5⟩ | ⟨g', cap', cur, he, _, _, _, h6, _⟩
      · omega
      · injection he with _ _ he; omega
    refine ⟨.inr ⟨g, 0, cap, rfl, h3, hm, fun i s hs => ?_⟩⟩
    have hi : i < l.length := (List.getElem?_eq_some_iff.1 hs).1
    rw [Nat.zero_add, h.cellAt i (by omega)]
    unfold strV
    rw [List.getElem?_map, hs]; rfl
  · have hl : l = [] := List.eq_nil_of_length_eq_zero (by omega)
    subst hl
    obtain ⟨p, cap, rfl⟩ := own_len h
    exact ⟨.inl ⟨rfl, p, cap, rfl⟩⟩

set_option maxRecDepth 20000 in
theorem Strings_same (a b : Value) (l : List ByteArray) (w : World) (hl : l.length ≤ 100000) (ha : SR w a l) (hb : SR w b l) :
    Calls Try.prog 27 #[a, b] w fun e w' => e = .returned (.bool true) ∧ Below w.heap.size w w' := by
  have HA := hid ha
  have HB := hid hb
  obtain ⟨p, cap, rfl⟩ := ha.len
  obtain ⟨p2, cap2, rfl⟩ := hb.len
  clear ha hb
  generalize hN : l.length = n at *
  go_enter Try.func27, Try.ntmps27
  go_wp2_with fail
  go_loopw [5] (fun c wr => ∃ i : Nat, i ≤ n ∧ c = .int .i64 i ∧ Below w.heap.size w wr) (fun c _ => n - (RowKit.intOf c).toNat)
  case atStart => exact ⟨0, Nat.zero_le _, rfl, Below.refl _ _⟩
  case round =>
    obtain ⟨i, hi, rfl, hbel⟩ := hrel
    by_cases hlt : i < n
    · have d1 : decide ((i : Int) < (n : Int)) = true := decide_eq_true (by omega)
      have l1 : (i : Int) < (n : Int) := by omega
      obtain ⟨g, o, c1, he, _, _, hc1⟩ := HA.out.form (by omega)
      injection he with he1 he2 he3
      subst he1 he3
      clear he2
      obtain ⟨g2, o2, c2, he, _, _, hc2⟩ := HB.out.form (by omega)
      injection he with he1 he2 he3
      subst he1 he3
      clear he2
      obtain ⟨c, hc⟩ : ∃ c, l[i]? = some c := ⟨l[i]'(by omega), List.getElem?_eq_getElem (by omega)⟩
      have x1 : wr.cell? ⟨g, o + i, none⟩ = some (.string c) := below_cell hbel (hc1 i c hc)
      have x2 : wr.cell? ⟨g2, o2 + i, none⟩ = some (.string c) := below_cell hbel (hc2 i c hc)
      have q9 : (c.toList != c.toList) = false := bne_self_eq_false _
      clear hc hc1 hc2
      go_wp2_with fail
      go_quiet (fail)
      go_wp2_with fail
      go_roundw
      case rel => exact ⟨i + 1, by omega, by go_num, bdrN hbel _⟩
      case measure => simp [RowKit.intOf]; omega
    · have d1 : decide ((i : Int) < (n : Int)) = false := decide_eq_false (by omega)
      go_wp2_with fail
      go_ret
      exact ⟨rfl, hbel⟩

set_option maxRecDepth 20000 in
set_option maxHeartbeats 1000000 in
theorem SameSectors_same (B1 B2 : Nat) (a b : Value) (st : Int) (ds : List ByteArray) (w : World) (hl : ds.length ≤ 100000) (ha : w.ownsRow B1 53 7 a ds.length (secsC st 0 ds)) (hb : w.ownsRow B2 53 7 b ds.length (secsC st 0 ds)) :
    Calls Try.prog 26 #[a, b] w fun e w' => e = .returned (.bool true) ∧ Below w.heap.size w w' := by
  have HA := hid ha
  have HB := hid hb
  have HS := hid (secsC_at st)
  obtain ⟨p, cap, rfl⟩ := own_len ha
  obtain ⟨p2, cap2, rfl⟩ := own_len hb
  clear ha hb
  generalize hN : ds.length = n at *
  go_enter Try.func26, Try.ntmps26
  go_wp2_with fail
  go_loopw [5] (fun c wr => ∃ i : Nat, i ≤ n ∧ c = .int .i64 i ∧ Below w.heap.size w wr) (fun c _ => n - (RowKit.intOf c).toNat)
  case atStart => exact ⟨0, Nat.zero_le _, rfl, Below.refl _ _⟩
  case round =>
    obtain ⟨i, hi, rfl, hbel⟩ := hrel
    by_cases hlt : i < n
    · have d1 : decide ((i : Int) < (n : Int)) = true := decide_eq_true (by omega)
      have l1 : (i : Int) < (n : Int) := by omega
      obtain ⟨g, c1, he, _, _, _⟩ := own_form HA.out (by omega)
      injection he with he1 he2 he3
      subst he1 he3
      clear he2
      obtain ⟨g2, c2, he, _, _, _⟩ := own_form HB.out (by omega)
      injection he with he1 he2 he3
      subst he1 he3
      clear he2
      obtain ⟨d, hd⟩ : ∃ d, ds[i]? = some d := ⟨ds[i]'(by omega), List.getElem?_eq_getElem (by omega)⟩
      have hx : ∀ (j : Nat) (u : Value), j < 7 → (secC (st + (i : Int)) d)[j]? = some u → wr.cell? ⟨g, i * 7 + j, none⟩ = some u := fun j u hj hu => by
        refine below_cell hbel ?_
        rw [HA.out.cellAt (i * 7 + j) (by omega), HS.out j hj ds 0 i d hd, Nat.zero_add]; exact hu
      have hy : ∀ (j : Nat) (u : Value), j < 7 → (secC (st + (i : Int)) d)[j]? = some u → wr.cell? ⟨g2, i * 7 + j, none⟩ = some u := fun j u hj hu => by
        refine below_cell hbel ?_
        rw [HB.out.cellAt (i * 7 + j) (by omega), HS.out j hj ds 0 i d hd, Nat.zero_add]; exact hu
      have x0 : wr.cell? ⟨g, i * 7, none⟩ = _ := hx 0 _ (by decide) rfl
      have x1 := hx 1 _ (by decide) rfl
      have x2 := hx 2 _ (by decide) rfl
      have x3 := hx 3 _ (by decide) rfl
      have x4 := hx 4 _ (by decide) rfl
      have x5 := hx 5 _ (by decide) rfl
      have x6 := hx 6 _ (by decide) rfl
      have y0 : wr.cell? ⟨g2, i * 7, none⟩ = _ := hy 0 _ (by decide) rfl
      have y1 := hy 1 _ (by decide) rfl
      have y2 := hy 2 _ (by decide) rfl
      have y3 := hy 3 _ (by decide) rfl
      have y4 := hy 4 _ (by decide) rfl
      have y5 := hy 5 _ (by decide) rfl
      have y6 := hy 6 _ (by decide) rfl
      have q9 : (d.toList == d.toList) = true := beq_self_eq_true _
      have q8 : (d.toList != d.toList) = false := bne_self_eq_false _
      clear hd hx hy
      go_wp2_with fail
      go_quiet (fail)
      go_wp2_with fail
      go_roundw
      case rel => exact ⟨i + 1, by omega, by go_num, bdrN hbel _⟩
      case measure => simp [RowKit.intOf]; omega
    · have d1 : decide ((i : Int) < (n : Int)) = false := decide_eq_false (by omega)
      go_wp2_with fail
      go_ret
      exact ⟨rfl, hbel⟩
end Go.Proofs.Ytpcfjlfdjkifgaa

/-
  The contract of Split at blocks of the right length.
-/
import Derived.Test.YtpcfjlfdjkifgaaPrC
namespace Go.Proofs.Ytpcfjlfdjkifgaa
open Go.RowKit Go.Lib
set_option linter.unusedVariables false
set_option linter.unusedSimpArgs false

theorem cut_run (g o n cap k : Nat) (hk : k ≤ cap) (h0 : 0 < cap) : ∀ w : World, (Instr.slice 37 (.slice (some ⟨g, o, none⟩) n cap) none (some (.int .i64 (k : Int))) none).run Try.prog w = .ok (.slice (some ⟨g, o, none⟩) k cap) w := by
  intro w
  have hc : (k : Int) ≤ (cap : Int) := by omega
  have hcz : cap ≠ 0 := by omega
  simp [go_sem, hc, sliced, hcz]
theorem strV_get (l : List ByteArray) (j : Nat) (u : Value) (h : (strV l)[j]? = some u) : ∃ s, l[j]? = some s ∧ u = .string s := by
  unfold strV at h
  rw [List.getElem?_map] at h
  cases e : l[j]? with
  | none => rw [e] at h; simp at h
  | some s => rw [e] at h; simp at h; exact ⟨s, rfl, h.symm⟩
theorem strV_one {l : List ByteArray} : ∀ u ∈ strV l, u.oneCell' = true := by
  intro u hu
  unfold strV at hu
  rw [List.mem_map] at hu
  obtain ⟨s, _, rfl⟩ := hu
  rfl
def lenOf : Value → Nat
  | .slice _ n _ => n
  | _ => 0

set_option maxRecDepth 20000 in
set_option maxHeartbeats 2000000 in
theorem Split_ok (s : Nat) (hs : 1 ≤ s ∧ s ≤ 1024) (v : Value) (bs : List ByteArray) (hl : okL bs = true) (hn : bs.length ≤ 4096) (w : World) (hv : SR w v bs) :
    Calls Try.prog 19 #[.int .i64 (s : Int), v] w fun e w' => (∃ vo vs, e = .returned (.tuple #[vo, .int .i64 0]) ∧ PKI w' w.heap.size vo vs (preL s bs (npk s bs.length))) ∧ Below w.heap.size w w' := by
  have HS : Hid (∀ w : World, Calls Try.prog 34 #[.int .i64 (s : Int)] w fun e w' => e = .returned (.bool true) ∧ w = w') := fun w => by
    have := sized_any (s : Int) w
    rwa [show szB (s : Int) = true from decide_eq_true (by omega)] at this
  have HO := hid (okL_get hl)
  have HZ := hid (fun w => zeros_any w)
  have HV := hid hv
  obtain ⟨i0, hi, hz0, hz1, hz2⟩ := info_S
  obtain ⟨i1, ki, kz0, kz1, kz2⟩ := info_Sl
  obtain ⟨p, cap, rfl⟩ := hv.len
  clear hl hv
  generalize hN : bs.length = n at *
  go_enter Try.func19, Try.ntmps19
  go_wp2_with fail
  refine (HS.out _).mono ?_
  rintro e w1 ⟨rfl, rfl⟩
  go_wp2_with fail
  go_loop [16] (fun c => ∃ k : Nat, k ≤ n ∧ c = .int .i64 k) (fun c => n - (RowKit.intOf c).toNat)
  case atStart => exact ⟨0, by omega, rfl⟩
  case round =>
    obtain ⟨k, hk, rfl⟩ := hrel
    by_cases hlt : k < n
    · have d1 : decide ((k : Int) < (n : Int)) = true := decide_eq_true (by omega)
      have l1 : (k : Int) < (n : Int) := by omega
      obtain ⟨g, o, cap2, he, hc1, hc2, hc3⟩ := HV.out.form (by omega)
      obtain ⟨c, hc⟩ : ∃ c, bs[k]? = some c := ⟨bs[k]'(by omega), List.getElem?_eq_getElem (by omega)⟩
      injection he with he1 he2 he3
      subst he1 he3
      have hcell : w.cell? ⟨g, o + k, none⟩ = some (.string c) := hc3 k c hc
      have d2 : ((c.size : Int) != 2048) = false := by rw [HO.out k c hc]; rfl
      clear hc hc3 he2
      go_wp2_with fail
      go_round
      case rel => exact ⟨k + 1, by omega, by go_num⟩
      case measure => simp [RowKit.intOf]; omega
    · have d1 : decide ((k : Int) < (n : Int)) = false := decide_eq_false (by omega)
      go_wp2_with fail
      clear d1 hlt hk
      go_loopw [1, 8] (fun v1 vo wr => ∃ (k : Nat) (vs : List Value), k ≤ npk s n ∧ SR w v1 (bs.drop (k * s)) ∧ PKI wr w.heap.size vo vs (preL s bs k) ∧ Below w.heap.size w wr) (fun v1 _ _ => lenOf v1)
      case atStart => exact ⟨0, [], Nat.zero_le _, by rw [Nat.zero_mul]; exact HV.out, ⟨rfl, World.ownsRow_nil w _ _ _, fun p x b h => by simp at h⟩, Below.refl _ _⟩
      case round =>
        obtain ⟨k, vs, hk, hsr, hpk, hbel⟩ := hrel
        have hlen : (bs.drop (k * s)).length = n - k * s := by rw [List.length_drop, hN]
        obtain ⟨p1, cap1, rfl⟩ := hsr.len
        rw [hlen] at hsr ⊢
        by_cases hlt : k < npk s n
        · have hks := (npk_iff s n k hs.1).1 hlt
          obtain ⟨r, hr⟩ : ∃ r, n - k * s = r := ⟨_, rfl⟩
          rw [hr] at hlen hsr ⊢
          have hr0 : 0 < r := by omega
          have hrn : r ≤ 4096 := by omega
          obtain ⟨g, o, cap2, he, hc1, hc2, hc3⟩ := hsr.form (by omega)
          injection he with he1 he2 he3
          subst he1 he3
          clear he2
          have hSR := hid hsr
          have hPK := hid hpk
          clear hsr hpk
          obtain ⟨wo, hwo⟩ : ∃ wo : World, wo = wr := ⟨_, rfl⟩
          subst hwo
          have hL2 : pkt s (bs.drop (k * s)) = (bs.drop (k * s)).take s ++ List.replicate (s - (bs.drop (k * s)).length) zeroS := rfl
          generalize hLd : bs.drop (k * s) = l at *
          have d1 : decide ((0 : Int) < (r : Int)) = true := decide_eq_true (by omega)
          obtain ⟨m, hm1, hm2, hm3, hm4, hm5⟩ : ∃ m : Nat, min (s : Int) (r : Int) = (m : Int) ∧ Hid (m = min s r) ∧ 0 < m ∧ m ≤ r ∧ m ≤ s := ⟨min s r, by omega, rfl, by omega, by omega, by omega⟩
          have K1 := cut_run g o r cap1 m (by omega) (by omega)
          have hsz : w.heap.size ≤ wo.heap.size := hbel.size
          go_wp2_with (at_builtin; refine wpList_append_own _ rfl _ _ 37 rfl wo.heap.size 9 i0 (.string { data := #[] }) 1 16 Try.underlying37 hi hz0 hz1 hz2 rfl (by decide) _ _ _ rfl (World.ownsRow_lit wo #[] 0 (Nat.le_refl _) (by decide) rfl) ⟨g, o, none⟩ m cap1 (strV (l.take m)) rfl ?c0 ?c1 ?c2 ?c3 ?c4 ?c5 ?_)
          case c0 => unfold strV; rw [List.length_map, List.length_take, hlen]; omega
          case c1 =>
            intro j u hj
            obtain ⟨b, hb, rfl⟩ := strV_get _ _ _ hj
            rw [Addr.add_mid]
            have hj2 : j < m := by
              have q := (List.getElem?_eq_some_iff.1 hb).1
              rw [List.length_take] at q; omega
            rw [List.getElem?_take_of_lt hj2] at hb
            exact alloc_cell (below_cell hbel (hc3 j b hb))
          case c2 => exact strV_one
          case c3 => unfold maxLen; omega
          case c4 => omega
          case c5 => simp
          intro v3 w3 hown3 hgrow _
          have hb3 : Below wo.heap.size wo w3 := ((Below.refl _ _).alloc (Nat.le_refl _) _).grown hgrow (by simp) (fun q hq => by simp [Value.ownBlock] at hq; omega)
          have HO3 : Hid (w3.ownsRow wo.heap.size 9 1 v3 (m + 0) (strV (l.take m ++ List.replicate 0 zeroS))) := by
            unfold Hid; simpa using hown3
          clear hown3 hgrow K1
          have hkb : k ≤ 4096 := by have := Nat.le_mul_of_pos_right k (show 0 < s by omega); omega
          go_wp2_with fail
          go_loopw [10] (fun vp wq => ∃ j : Nat, m + j ≤ s ∧ wq.ownsRow wo.heap.size 9 1 vp (m + j) (strV (l.take m ++ List.replicate j zeroS)) ∧ Below wo.heap.size wo wq) (fun vp _ => s - lenOf vp)
          case atStart => exact ⟨0, by omega, HO3.out, hb3⟩
          case round =>
            obtain ⟨j, hj, hown, hbq⟩ := hrel
            obtain ⟨g2, cap2, rfl, hg1, hg2, hg3⟩ := own_form hown (by omega)
            have hbz : wo.heap.size ≤ wr.heap.size := hbq.size
            by_cases hjs : m + j < s
            · have d2 : m + j < s := hjs
              go_wp2_with fail
              refine (HZ.out _).mono ?_
              rintro e w4 ⟨rfl, hb4⟩
              have hown4 := own_below hown hb4
              have hb4z := hb4.size
              go_wp2_with (at_builtin; refine wpList_append_own _ rfl _ _ 37 rfl wo.heap.size 9 i0 (.string { data := #[] }) 1 16 Try.underlying37 hi hz0 hz1 hz2 rfl (by decide) _ _ _ rfl (hown4.alloc _) ⟨w4.heap.size, 0, none⟩ 1 1 [.string zeroS] rfl rfl ?c1 ?c2 ?c3 ?c4 ?c5 ?_)
              case c1 =>
                intro j u hj
                match j, hj with
                | 0, hj => simp at hj; subst hj; simp [Addr.add]
              case c2 => intro u hu; simp at hu; subst hu; rfl
              case c3 => unfold maxLen; omega
              case c4 => omega
              case c5 => simp; omega
              intro v5 w5 hown5 hgrow5 _
              have hb5 : Below wo.heap.size wo w5 := (balloc (bthen hbq hb4) _).grown hgrow5 (by simp; omega) (fun r hr => (hown4.lt r hr).1)
              have HO5 := hid hown5
              clear hown5 hgrow5 hown4 hown
              go_wp2
              go_roundw
              case rel => exact ⟨j + 1, by omega, by rw [List.replicate_succ', ← List.append_assoc]; have := HO5.out; unfold strV at this ⊢; rw [List.map_append]; exact this, hb5⟩
              case measure =>
                obtain ⟨_, _, rfl, _⟩ := own_form HO5.out (by omega)
                simp [lenOf]; omega
            · have d2 : ¬ (m + j < s) := hjs
              have hPKq := hPK.out.below hbq
              have hx := hid (own_base hown hsz)
              clear hown
              go_wp2_with (at_builtin; refine wpList_append_own _ rfl _ _ 39 rfl w.heap.size 37 i1 (.slice none 0 0) 1 24 Try.underlying39 ki kz0 kz1 kz2 rfl (by decide) _ _ _ rfl (hPKq.own.alloc _) ⟨wr.heap.size, 0, none⟩ 1 1 [.slice (some ⟨g2, 0, none⟩) (m + j) cap2] rfl rfl ?c1 ?c2 ?c3 ?c4 ?c5 ?_)
              case c1 =>
                intro j u hj
                match j, hj with
                | 0, hj => simp at hj; subst hj; simp [Addr.add]
              case c2 => intro u hu; simp at hu; subst hu; rfl
              case c3 => rw [preL_len]; unfold maxLen; omega
              case c4 => rw [preL_len]; omega
              case c5 => simp; omega
              intro v6 w6 hown6 hgrow6 _
              have hb6 : Below w.heap.size w w6 := (balloc (bthen hbel hbq) _).grown hgrow6 (by simp; omega) (fun r hr => (hPKq.own.lt r hr).1)
              have hbl : (l.take m ++ List.replicate j zeroS).length = m + j := by rw [List.length_append, List.length_take, List.length_replicate, hlen]; omega
              have hbe : l.take m ++ List.replicate j zeroS = pkt s l := by
                have hm := hm2.out
                unfold pkt
                rw [hlen]
                by_cases q : s ≤ r
                · rw [show m = s by omega, show j = s - r by omega]
                · rw [show j = s - r by omega, List.take_of_length_le (show l.length ≤ m by omega), List.take_of_length_le (show l.length ≤ s by omega)]
              have hx2 := (hx.out.alloc (.cells #[.slice (some ⟨g2, 0, none⟩) (m + j) cap2] 37))
              rw [← hbl] at hx2
              have hPK6 := PKI.snoc (hPKq.below (balloc (Below.refl _ _) (.cells #[.slice (some ⟨g2, 0, none⟩) (m + j) cap2] 37))) (by rw [hbl] at hx2 ⊢; exact hx2) hown6 hgrow6
              rw [hbe, ← hLd, ← preL_snoc] at hPK6
              have HP6 := hid hPK6
              clear hPK6 hx hx2 hown6 hgrow6 hPKq
              obtain ⟨v9, KD, hsr9⟩ := hSR.out.drop m hm3 (by omega)
              have hdr : l.drop m = bs.drop ((k + 1) * s) := by
                have hm := hm2.out
                rw [Nat.add_mul, Nat.one_mul, ← List.drop_drop, hLd]
                by_cases q : s ≤ r
                · rw [show m = s by omega]
                · rw [List.drop_eq_nil_of_le (show l.length ≤ m by omega), List.drop_eq_nil_of_le (show l.length ≤ s by omega)]
              go_wp2_with fail
              go_roundw
              case rel => exact ⟨k + 1, vs ++ [.slice (some ⟨g2, 0, none⟩) (m + j) cap2], by omega, by rw [← hdr]; exact hsr9, HP6.out, hb6⟩
              case measure =>
                obtain ⟨_, _, rfl⟩ := hsr9.len
                simp [lenOf, hlen]; omega
        · have hks : ¬ (k * s < n) := fun h => hlt ((npk_iff s n k hs.1).2 h)
          have e0 : n - k * s = 0 := by omega
          have d1 : decide ((0 : Int) < ((n - k * s : Nat) : Int)) = false := decide_eq_false (by omega)
          rw [e0]
          go_wp2_with fail
          go_ret2
          exact ⟨⟨_, vs, rfl, by rw [show npk s n = k by omega]; exact hpk⟩, hbel⟩
end Go.Proofs.Ytpcfjlfdjkifgaa

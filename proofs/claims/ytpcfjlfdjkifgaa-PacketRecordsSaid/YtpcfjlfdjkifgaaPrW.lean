/-
  For PacketRecords: the contract of the reference's Split.
-/
import Derived.Test.YtpcfjlfdjkifgaaPrV
namespace Go.Proofs.Ytpcfjlfdjkifgaa
open Go.RowKit Go.Lib
set_option linter.unusedVariables false
set_option linter.unusedSimpArgs false

/-- What stands at the head of a round. -/
def SpI (s : Nat) (bs : List ByteArray) (base : Nat) (w : World) (vo : Value) (i : Nat) : Prop :=
  (i = 0 ∧ PKI w base vo [] []) ∨ ∃ (k r T : Nat) (x : Value) (vs : List Value), i = k * s + r ∧ 1 ≤ r ∧ r ≤ s ∧ RI w base T vo x vs (preL s bs k) ((bs.drop (k * s)).take r)
theorem SpI.len {s : Nat} {bs : List ByteArray} {base : Nat} {w : World} {vo : Value} {i : Nat} (h : SpI s bs base w vo i) : ∃ p m cap, vo = .slice p m cap := by
  rcases h with ⟨_, h⟩ | ⟨k, r, T, x, vs, _, _, _, h⟩
  · obtain ⟨p, cap, h⟩ := own_len h.own; exact ⟨p, _, cap, h⟩
  · obtain ⟨p, cap, h⟩ := own_len h.own; exact ⟨p, _, cap, h⟩
def okTo (bs : List ByteArray) (i : Nat) : Prop := ∀ (j : Nat) (c : ByteArray), j < i → bs[j]? = some c → c.size = 2048
theorem okTo.snoc {bs : List ByteArray} {i : Nat} {c : ByteArray} (h : okTo bs i) (hc : bs[i]? = some c) (hz : c.size = 2048) : okTo bs (i + 1) := fun j d hj hd => by
  by_cases e : j = i
  · subst e
    rw [hc] at hd
    injection hd with hd
    rw [← hd]; exact hz
  · exact h j d (by omega) hd
def SplP (s : Nat) (bs : List ByteArray) (w : World) (e : Ending) (w' : World) : Prop :=
  ((okL bs = true ∧ ∃ vo vs, e = .returned (.tuple #[vo, .int .i64 0]) ∧ PKI w' w.heap.size vo vs (preL s bs (npk s bs.length))) ∨ (okL bs = false ∧ e = .returned (.tuple #[.slice none 0 0, .int .i64 1]))) ∧ Below w.heap.size w w'
theorem grown_tr {w w1 w2 : World} {r : Option Nat} (h : w.grownBy w1 r) (k : w1.grownBy w2 r) : w.grownBy w2 r :=
  ⟨k.os.trans h.os, k.tape.trans h.tape, k.output.trans h.output, Nat.le_trans h.size k.size, fun i hi hr => (k.block i (Nat.lt_of_lt_of_le hi h.size) hr).trans (h.block i hi hr)⟩
theorem ff_keep {w' w2 : World} {p q : Addr} {u v : Value} (h : w'.cell? p = some u ∧ w'.cell? q = some v) (hb : Below w'.heap.size w' w2) : w2.cell? p = some u ∧ w2.cell? q = some v :=
  ⟨below_cell hb h.1, below_cell hb h.2⟩
theorem fg_keep {w' w2 : World} {p q : Addr} {u v : Value} {r : Option Nat} (h : w'.cell? p = some u ∧ w'.cell? q = some v) (hg : w'.grownBy w2 r) (hp : some p.block ≠ r) (hq : some q.block ≠ r) : w2.cell? p = some u ∧ w2.cell? q = some v :=
  ⟨hg.cell h.1 hp, hg.cell h.2 hq⟩
theorem SpI.part {s : Nat} {bs : List ByteArray} {base : Nat} {w : World} {vo : Value} {i : Nat} (hs : 1 ≤ s) (h : SpI s bs base w vo i) (hi : i < bs.length) :
    (∃ (k : Nat) (vs : List Value), i = k * s ∧ PKI w base vo vs (preL s bs k)) ∨ ∃ (k r T : Nat) (x : Value) (vs : List Value), i = k * s + r ∧ 1 ≤ r ∧ r < s ∧ RI w base T vo x vs (preL s bs k) ((bs.drop (k * s)).take r) := by
  rcases h with ⟨h0, h⟩ | ⟨k, r, T, x, vs, h0, h1, h2, h⟩
  · exact .inl ⟨0, [], by omega, h⟩
  · by_cases e : r < s
    · exact .inr ⟨k, r, T, x, vs, h0, h1, e, h⟩
    · obtain rfl : r = s := by omega
      refine .inl ⟨k + 1, vs ++ [x], by rw [Nat.add_mul, Nat.one_mul]; exact h0, ?_⟩
      rw [preL_snoc, pkt_full _ _ (by rw [List.length_drop]; omega)]
      exact h.whole
theorem RI.one {w : World} {base T : Nat} {vo x : Value} {vs : List Value} {ps : List (List ByteArray)} {b : List ByteArray} (h : RI w base T vo x vs ps b) :
    ∃ (go cap : Nat), vo = .slice (some ⟨go, 0, none⟩) (ps.length + 1) cap ∧ w.cell? ⟨go, ps.length, none⟩ = some x ∧ w.frozen? ⟨go, ps.length, none⟩ = false ∧ go < w.heap.size ∧ base ≤ go ∧ some go ≠ x.ownBlock := by
  obtain ⟨go, cap, rfl, h1, h2, h3⟩ := own_form h.own (by omega)
  refine ⟨go, cap, rfl, ?_, h.own.frozenAt _, h2, h1, fun e => ?_⟩
  · rw [h.own.cellAt ps.length (by omega), List.getElem?_append_right (by rw [h.len]; omega), h.len, Nat.sub_self]; rfl
  · rcases own_ne h.last h.own (by decide) with q | q
    · rw [q] at e; cases e
    · exact q e.symm
theorem take_more (bs : List ByteArray) (k r : Nat) (c : ByteArray) (h : bs[k + r]? = some c) : (bs.drop k).take (r + 1) = (bs.drop k).take r ++ [c] := by
  rw [List.take_add_one, List.getElem?_drop, h]; rfl
theorem take_size (bs : List ByteArray) (k r : Nat) (h : k + r ≤ bs.length) : ((bs.drop k).take r).length = r := by
  rw [List.length_take, List.length_drop]; omega
/-- What stands at the head of a round of padding. -/
def PdI (s : Nat) (bs : List ByteArray) (base : Nat) (w : World) (vo : Value) (n : Nat) : Prop :=
  (n = 0 ∧ PKI w base vo [] []) ∨ ∃ (k r j T : Nat) (x : Value) (vs : List Value), n = k * s + r ∧ 1 ≤ r ∧ r + j ≤ s ∧ RI w base T vo x vs (preL s bs k) ((bs.drop (k * s)).take r ++ List.replicate j zeroS)
theorem SpI.pad {s : Nat} {bs : List ByteArray} {base : Nat} {w : World} {vo : Value} {i : Nat} (h : SpI s bs base w vo i) : PdI s bs base w vo i := by
  rcases h with h | ⟨k, r, T, x, vs, h0, h1, h2, h⟩
  · exact .inl h
  · exact .inr ⟨k, r, 0, T, x, vs, h0, h1, h2, by rw [List.replicate_zero, List.append_nil]; exact h⟩
/-- How long the last row is. -/
def lastLen (vo : Value) (w : World) : Nat :=
  match vo with
  | .slice (some a) n _ => match w.cell? ⟨a.block, n - 1, none⟩ with
    | some v => lenOf v
    | none => 0
  | _ => 0

set_option maxRecDepth 20000 in
set_option maxHeartbeats 3000000 in
theorem refSplit_any (s : Nat) (hs : 1 ≤ s ∧ s ≤ 1024) (v : Value) (bs : List ByteArray) (hn : bs.length ≤ 4096) (w : World) (hv : SR w v bs) :
    Calls Try.prog 20 #[.int .i64 (s : Int), v] w (SplP s bs w) := by
  have HS : Hid (∀ w : World, Calls Try.prog 31 #[.int .i64 (s : Int)] w fun e w' => e = .returned (.bool true) ∧ w = w') := fun w => by
    have := refSized_any (s : Int) w
    rwa [show szB (s : Int) = true from decide_eq_true (by omega)] at this
  have HZ := hid (fun w => refZero_any w)
  have HV := hid hv
  obtain ⟨i0, hi, hz0, hz1, hz2⟩ := info_S
  obtain ⟨i1, ki, kz0, kz1, kz2⟩ := info_Sl
  obtain ⟨p, cap, rfl⟩ := hv.len
  clear hv
  generalize hN : bs.length = n at *
  have HN := hid hN
  clear hN
  have hs0 : ((s : Int) == 0) = false := by rw [beq_eq_false_iff_ne]; omega
  go_enter Try.func20, Try.ntmps20
  go_wp2_with fail
  refine (HS.out _).mono ?_
  rintro e w1 ⟨rfl, rfl⟩
  go_wp2_with fail
  go_loopw [6, 7] (fun vo c wr => ∃ i : Nat, i ≤ n ∧ c = .int .i64 i ∧ okTo bs i ∧ SpI s bs w.heap.size wr vo i ∧ Below w.heap.size w wr) (fun _ c _ => n - (RowKit.intOf c).toNat)
  case atStart => exact ⟨0, Nat.zero_le _, rfl, fun j c hj => absurd hj (Nat.not_lt_zero _), .inl ⟨rfl, rfl, World.ownsRow_lit w #[] 0 (Nat.le_refl _) (by decide) rfl, fun p x b h => by simp at h⟩, balloc (Below.refl _ _) _⟩
  case round =>
    obtain ⟨i, hin, rfl, hok, hI, hbel⟩ := hrel
    have hbz : w.heap.size ≤ wr.heap.size := hbel.size
    by_cases hlt : i < n
    · have d1 : decide ((i : Int) < (n : Int)) = true := decide_eq_true (by omega)
      have l1 : (i : Int) < (n : Int) := by omega
      have l0 : (0 : Int) ≤ (i : Int) := Int.natCast_nonneg _
      obtain ⟨g, o, cap2, he, hc1, hc2, hc3⟩ := HV.out.form (by rw [HN.out]; omega)
      rw [HN.out] at he
      injection he with he1 he2 he3
      subst he1 he3
      clear he2
      obtain ⟨c, hc⟩ : ∃ c, bs[i]? = some c := ⟨bs[i]'(by rw [HN.out]; omega), List.getElem?_eq_getElem (by rw [HN.out]; omega)⟩
      have hcell0 := hc3 i c hc
      have hgl := World.block_lt_of_cell? w _ hcell0
      have hgl2 : g < w.heap.size := hgl
      have hcell : wr.cell? ⟨g, o + i, none⟩ = some (.string c) := below_cell hbel hcell0
      have Hc := hid hc
      have HOk := hid hok
      clear hc hc1 hc2 hc3 hcell0 hok
      by_cases hsz : c.size = 2048
      · have d2 : ((c.size : Int) != 2048) = false := by rw [hsz]; rfl
        have HOk2 := hid (HOk.out.snoc Hc.out hsz)
        clear hsz
        rcases SpI.part hs.1 hI (by rw [HN.out]; exact hlt) with ⟨k, vs, hik, hpk⟩ | ⟨k, r, T, x, vs, hik, hr1, hr2, hR0⟩
        · have hm : (i : Int) % (s : Int) = 0 := by rw [hik, Int.natCast_mul, Int.mul_emod_left]
          have hO := hpk.own
          rw [preL_len] at hO
          obtain ⟨p6, cap6, rfl⟩ := own_len hO
          have HPK := hid hpk
          have hk4 : k ≤ 4096 := by have := Nat.le_mul_of_pos_right k (show 0 < s by omega); omega
          have HIK := hid hik
          clear hpk hI hik
          go_wp2_with (at_builtin; refine wpList_append_lies _ rfl _ _ 39 rfl w.heap.size 37 i1 (.slice none 0 0) 1 24 Try.underlying39 ki kz0 kz1 kz2 rfl (by decide) _ k vs rfl ((hO.alloc _).alloc _) ⟨wr.heap.size + 1, 0, none⟩ 1 1 [.slice (some ⟨wr.heap.size, 0, none⟩) 0 0] rfl rfl ?c1 ?c2 (by omega) ?c3 ?c4 ?c5 _ rfl ?_)
          case c2 => rfl
          case c3 => unfold maxLen; omega
          case c4 => omega
          case c5 => omega
          intro go cap1 w5 hown5 hgrow5 hat5 hlt5
          have hgr : wr.grownBy w5 (Value.slice p6 k cap6).ownBlock := grown_tr (grown_tr (World.grownBy_alloc wr _ _) (World.grownBy_alloc _ _ _)) hgrow5
          have hrow : w5.ownsRow wr.heap.size 9 1 (.slice (some ⟨wr.heap.size, 0, none⟩) 0 0) 0 [] := by
            refine World.ownsRow.kept ((World.ownsRow_lit wr #[] 0 (Nat.le_refl _) (by decide) rfl).alloc _) hgrow5 (.inr (fun q => ?_))
            have := (hO.lt wr.heap.size q.symm).2
            omega
          obtain ⟨r, hr⟩ : ∃ r, r = 0 := ⟨_, rfl⟩
          have hR0 : RI w5 w.heap.size wr.heap.size (.slice (some ⟨go, 0, none⟩) (k + 1) cap1) (.slice (some ⟨wr.heap.size, 0, none⟩) 0 0) vs (preL s bs k) ((bs.drop (k * s)).take r) := by
            rw [hr]
            exact PKI.open HPK.out hbz (Nat.lt_of_lt_of_le (show wr.heap.size < _ by simp; omega) hgrow5.size) hrow (by rw [preL_len]; exact hown5) hgr
          have hbW : Below w.heap.size w w5 := (balloc (balloc hbel _) _).grown hgrow5 (by simp; omega) (fun q hq => (hO.lt q hq).1)
          have hcW : w5.cell? ⟨g, o + i, none⟩ = some (.string c) := hgrow5.cell (alloc_cell (alloc_cell hcell)) (fun q => by have := (hO.lt g q.symm).1; omega)
          clear hown5 hgrow5 hat5 hlt5 hgr hrow hm hcell hbel hO
          generalize Value.slice (some ⟨wr.heap.size, 0, none⟩) 0 0 = x at *
          generalize wr.heap.size = T at *
          have hik2 : Hid (i = k * s + r) := by have := HIK.out; show i = k * s + r; omega
          have hr2 : r < s := by omega
          clear hr HIK
          go_wp2_with fail
          have hik := hik2.out
          clear hik2 HPK
          obtain ⟨W, hW⟩ : ∃ W : World, W = w5 := ⟨_, rfl⟩
          subst hW
          have hlen := take_size bs (k * s) r (by rw [HN.out]; omega)
          have htm := take_more bs (k * s) r c (by rw [← hik]; exact Hc.out)
          obtain ⟨go', cap', he, hxc, hxf, hgoz, hgob, hne1⟩ := hR0.one
          rw [preL_len] at he hxc hxf
          injection he with he1 he2 he3
          injection he1 with he1
          injection he1 with he1
          subst he1
          subst he3
          clear he2
          have hl := hR0.last
          rw [hlen] at hl
          obtain ⟨px, cx, hx⟩ := own_len hl
          subst hx
          have hTl := hl.lt
          have hTz := hR0.hT
          have hTW := hR0.hW
          have HR := hid hR0
          have HM := hid htm
          have HL := hid hlen
          have HIK := hid hik
          clear hR0 htm hlen hik
          obtain ⟨M, hM⟩ : ∃ M, k + 1 = M := ⟨_, rfl⟩
          rw [hM]
          have lk : (k : Int) < (M : Int) := by omega
          have lkn : k < M := by omega
          have hj : (M : Int) - 1 = (k : Int) := by omega
          have hjw2 : IntKind.i64.wrap (k : Int) = (k : Int) := IntWalk.i64_in _ (by omega)
          have KI : ∀ w : World, (Instr.indexAt 39 (.slice (some ⟨go, 0, none⟩) M cap1) (.int .i64 (k : Int))).run Try.prog w = .ok (.pointer (some ⟨go, k, none⟩)) w := fun w => by simp [go_sem, lk]
          have HMM := hid hM
          clear hM
          go_region_law (first | (refine step_append_lies _ (by rfl) (.tmp 41) (.tmp 46) 37 (by rfl) T 9 i0 (.string { data := #[] }) 1 16 Try.underlying37 hi hz0 hz1 hz2 rfl (by decide) (.slice px r cx) r (strV ((bs.drop (k * s)).take r)) (by rfl) (hl.drew.alloc _) ⟨W.heap.size, 0, none⟩ 1 1 [.string c] (by rfl) rfl (cell_one_new _ _ _) (by intro u hu; simp at hu; subst hu; rfl) (by omega) (by unfold maxLen; omega) (by omega) (by simp; omega) _ rfl ?_; intro go2 cap2 w1 hown' hgrow hat hgl; have hc9 : w1.cell? ⟨go, k, none⟩ = some (.slice px r cx) := hgrow.cell (below_cell (by first | exact bdrew (balloc (Below.refl _ _) _) | exact balloc (bdrew (Below.refl _ _)) _) hxc) hne1; have hf9 : w1.frozen? ⟨go, k, none⟩ = false := (hgrow.frozen_far _ (by simp; omega) hne1).trans ((Below.frozen (by first | exact bdrew (balloc (Below.refl _ _) _) | exact balloc (bdrew (Below.refl _ _)) _ : Below W.heap.size W _) hgoz).trans hxf)))
          all_goals
            have hg0 : W.grownBy w1 (Value.slice px r cx).ownBlock := grown_tr (grown_of_below' (by first | exact bdrew (balloc (Below.refl _ _) _) | exact balloc (bdrew (Below.refl _ _)) _) _) hgrow
            obtain rfl := HMM.out
            have hlen := HL.out
            have hR5 : RI (w1.setCell ⟨go, (preL s bs k).length, none⟩ (.slice (some ⟨go2, 0, none⟩) (r + 1) cap2)) w.heap.size T (.slice (some ⟨go, 0, none⟩) ((preL s bs k).length + 1) cap1) (.slice (some ⟨go2, 0, none⟩) (r + 1) cap2) vs (preL s bs k) ((bs.drop (k * s)).take r ++ [c]) := RI.push (by rw [preL_len]; exact HR.out) hg0 (by rw [hlen]; exact hown')
            rw [preL_len, ← HM.out] at hR5
            have hb5 : Below w.heap.size w w1 := hbW.grown hg0 hbW.size (fun q hq => Nat.le_trans hTz (hTl q hq).1)
            have hb6 := bset (p := ⟨go, k, none⟩) (.slice (some ⟨go2, 0, none⟩) (r + 1) cap2) hgob hb5
            have HR5 := hid hR5
            have HIK2 := hid HIK.out
            clear hR5 hb5 hg0 hown' hgrow hat hgl hc9 hf9 hlen
            go_wp2_with fail
            go_roundw
            case rel => exact ⟨i + 1, by omega, by go_num, HOk2.out, .inr ⟨k, r + 1, T, _, vs, by rw [HIK2.out, Nat.add_assoc], by omega, by omega, HR5.out⟩, hb6⟩
            case measure => simp [RowKit.intOf]; omega
        · have hm : (i : Int) % (s : Int) = (r : Int) := by
            rw [hik, show ((k * s + r : Nat) : Int) = (r : Int) + (k : Int) * (s : Int) by rw [Int.natCast_add, Int.natCast_mul, Int.add_comm], Int.add_mul_emod_self_right, Int.emod_eq_of_lt (by omega) (by omega)]
          have d3 : ((r : Int) == 0) = false := by rw [beq_eq_false_iff_ne]; omega
          have hk4 : k ≤ 4096 := by have := Nat.le_mul_of_pos_right k (show 0 < s by omega); omega
          obtain ⟨go, cap1, he, _⟩ := hR0.one
          rw [preL_len] at he
          subst he
          have hcW := hcell
          have hbW := hbel
          clear hI hcell hbel
          have HR0 := hid hR0
          have hik2 := hid hik
          clear hR0 hik
          go_wp2_with fail
          have hR0 := HR0.out
          have hik := hik2.out
          clear HR0 hm d3 hik2
          obtain ⟨W, hW⟩ : ∃ W : World, W = wr := ⟨_, rfl⟩
          subst hW
          have hlen := take_size bs (k * s) r (by rw [HN.out]; omega)
          have htm := take_more bs (k * s) r c (by rw [← hik]; exact Hc.out)
          obtain ⟨go', cap', he, hxc, hxf, hgoz, hgob, hne1⟩ := hR0.one
          rw [preL_len] at he hxc hxf
          injection he with he1 he2 he3
          injection he1 with he1
          injection he1 with he1
          subst he1
          subst he3
          clear he2
          have hl := hR0.last
          rw [hlen] at hl
          obtain ⟨px, cx, hx⟩ := own_len hl
          subst hx
          have hTl := hl.lt
          have hTz := hR0.hT
          have hTW := hR0.hW
          have HR := hid hR0
          have HM := hid htm
          have HL := hid hlen
          have HIK := hid hik
          clear hR0 htm hlen hik
          obtain ⟨M, hM⟩ : ∃ M, k + 1 = M := ⟨_, rfl⟩
          rw [hM]
          have lk : (k : Int) < (M : Int) := by omega
          have lkn : k < M := by omega
          have hj : (M : Int) - 1 = (k : Int) := by omega
          have hjw2 : IntKind.i64.wrap (k : Int) = (k : Int) := IntWalk.i64_in _ (by omega)
          have KI : ∀ w : World, (Instr.indexAt 39 (.slice (some ⟨go, 0, none⟩) M cap1) (.int .i64 (k : Int))).run Try.prog w = .ok (.pointer (some ⟨go, k, none⟩)) w := fun w => by simp [go_sem, lk]
          have HMM := hid hM
          clear hM
          go_region_law (first | (refine step_append_lies _ (by rfl) (.tmp 41) (.tmp 46) 37 (by rfl) T 9 i0 (.string { data := #[] }) 1 16 Try.underlying37 hi hz0 hz1 hz2 rfl (by decide) (.slice px r cx) r (strV ((bs.drop (k * s)).take r)) (by rfl) (hl.drew.alloc _) ⟨W.heap.size, 0, none⟩ 1 1 [.string c] (by rfl) rfl (cell_one_new _ _ _) (by intro u hu; simp at hu; subst hu; rfl) (by omega) (by unfold maxLen; omega) (by omega) (by simp; omega) _ rfl ?_; intro go2 cap2 w1 hown' hgrow hat hgl; have hc9 : w1.cell? ⟨go, k, none⟩ = some (.slice px r cx) := hgrow.cell (below_cell (by first | exact bdrew (balloc (Below.refl _ _) _) | exact balloc (bdrew (Below.refl _ _)) _) hxc) hne1; have hf9 : w1.frozen? ⟨go, k, none⟩ = false := (hgrow.frozen_far _ (by simp; omega) hne1).trans ((Below.frozen (by first | exact bdrew (balloc (Below.refl _ _) _) | exact balloc (bdrew (Below.refl _ _)) _ : Below W.heap.size W _) hgoz).trans hxf)))
          all_goals
            have hg0 : W.grownBy w1 (Value.slice px r cx).ownBlock := grown_tr (grown_of_below' (by first | exact bdrew (balloc (Below.refl _ _) _) | exact balloc (bdrew (Below.refl _ _)) _) _) hgrow
            obtain rfl := HMM.out
            have hlen := HL.out
            have hR5 : RI (w1.setCell ⟨go, (preL s bs k).length, none⟩ (.slice (some ⟨go2, 0, none⟩) (r + 1) cap2)) w.heap.size T (.slice (some ⟨go, 0, none⟩) ((preL s bs k).length + 1) cap1) (.slice (some ⟨go2, 0, none⟩) (r + 1) cap2) vs (preL s bs k) ((bs.drop (k * s)).take r ++ [c]) := RI.push (by rw [preL_len]; exact HR.out) hg0 (by rw [hlen]; exact hown')
            rw [preL_len, ← HM.out] at hR5
            have hb5 : Below w.heap.size w w1 := hbW.grown hg0 hbW.size (fun q hq => Nat.le_trans hTz (hTl q hq).1)
            have hb6 := bset (p := ⟨go, k, none⟩) (.slice (some ⟨go2, 0, none⟩) (r + 1) cap2) hgob hb5
            have HR5 := hid hR5
            have HIK2 := hid HIK.out
            clear hR5 hb5 hg0 hown' hgrow hat hgl hc9 hf9 hlen
            go_wp2_with fail
            go_roundw
            case rel => exact ⟨i + 1, by omega, by go_num, HOk2.out, .inr ⟨k, r + 1, T, _, vs, by rw [HIK2.out, Nat.add_assoc], by omega, by omega, HR5.out⟩, hb6⟩
            case measure => simp [RowKit.intOf]; omega
      · have d2 : ((c.size : Int) != 2048) = true := by rw [bne_iff_ne]; omega
        have HNo := hid (okL_not Hc.out hsz)
        clear hsz
        go_wp2_with fail
        go_ret2
        exact ⟨.inr ⟨HNo.out, rfl⟩, hbel⟩
    · have hie : i = n := by omega
      have d1 : decide ((i : Int) < (n : Int)) = false := decide_eq_false (by omega)
      rw [hie] at hok hI
      have HOk := hid (okL_yes (bs := bs) (fun j c hj => hok j c (by have := (List.getElem?_eq_some_iff.1 hj).1; rwa [HN.out] at this) hj))
      obtain ⟨p6, M, cap6, rfl⟩ := hI.len
      have HI := hid hI.pad
      clear hok hI hlt hin
      go_wp2_with fail
      clear d1 hie
      have HBL := hid hbel
      clear hbel hbz
      go_loopw [49] (fun _ wr => PdI s bs w.heap.size wr (.slice p6 M cap6) n ∧ Below w.heap.size w wr) (fun _ wr => s - lastLen (.slice p6 M cap6) wr)
      case atStart => exact ⟨HI.out, HBL.out⟩
      case round =>
        obtain ⟨hP, hbel⟩ := hrel
        clear HI HBL
        rcases hP with ⟨hn0, hP⟩ | ⟨k, r, j, T, x, vs, hik, hr1, hr2, hR0⟩
        · have hM0 : M = 0 := by
            obtain ⟨p7, cap7, he⟩ := own_len hP.own
            injection he
          subst hM0
          have HP := hid hP
          have H0 := hid hn0
          clear hP hn0
          go_wp2_with fail
          go_ret2
          refine ⟨.inl ⟨HOk.out, _, [], rfl, ?_⟩, hbel⟩
          have e : preL s bs (npk s bs.length) = [] := by rw [HN.out, H0.out, npk_zero s hs.1]; rfl
          rw [e]; exact HP.out
        · have hlen : ((bs.drop (k * s)).take r ++ List.replicate j zeroS).length = r + j := by rw [List.length_append, take_size bs (k * s) r (by rw [HN.out]; omega), List.length_replicate]
          have hk4 : k ≤ 4096 := by have := Nat.le_mul_of_pos_right k (show 0 < s by omega); omega
          obtain ⟨go, cap1, he, hxc, hxf, hgoz, hgob, hne1⟩ := hR0.one
          rw [preL_len] at he hxc hxf
          injection he with he1 hM he3
          subst he1 he3
          have hl := hR0.last
          rw [hlen] at hl
          obtain ⟨px, cx, hx⟩ := own_len hl
          subst hx
          have hTl := hl.lt
          have hTz := hR0.hT
          have hTW := hR0.hW
          obtain ⟨q, hq⟩ : ∃ q, r + j = q := ⟨_, rfl⟩
          rw [hq] at hxc hl hne1 hTl hR0
          have HR := hid hR0
          have HL := hid hlen
          have HIK := hid hik
          clear hR0 hlen hik
          have Hq := hid hq
          have hq4 : q ≤ 1024 := by omega
          have lk : (k : Int) < (M : Int) := by omega
          have lkn : k < M := by omega
          have hj : (M : Int) - 1 = (k : Int) := by omega
          have hjw2 : IntKind.i64.wrap (k : Int) = (k : Int) := IntWalk.i64_in _ (by omega)
          have dM : decide ((0 : Int) < (M : Int)) = true := decide_eq_true (by omega)
          have dMn : decide (0 < M) = true := decide_eq_true (by omega)
          have lM : 0 < M := by omega
          have KI : ∀ w : World, (Instr.indexAt 39 (.slice (some ⟨go, 0, none⟩) M cap6) (.int .i64 (k : Int))).run Try.prog w = .ok (.pointer (some ⟨go, k, none⟩)) w := fun w => by simp [go_sem, lk]
          have HLL : Hid (lastLen (.slice (some ⟨go, 0, none⟩) M cap6) wr = q) := by
            unfold Hid lastLen
            rw [hM]
            show (match wr.cell? ⟨go, k + 1 - 1, none⟩ with | some v => lenOf v | none => 0) = q
            rw [Nat.add_sub_cancel, hxc]; rfl
          have HMM := hid hM
          have hrs : r + j ≤ s := hr2
          clear hM hq
          by_cases hqs : q < s
          · have dq : decide ((q : Int) < (s : Int)) = true := decide_eq_true (by omega)
            have hqs2 : (q : Int) < (s : Int) := by omega
            go_wp2_with fail
            obtain ⟨W, hW⟩ : ∃ W : World, W = wr := ⟨_, rfl⟩
            subst hW
            go_region_law (first
              | (refine step_append_lies _ (by rfl) (.tmp 72) (.tmp 74) 37 (by rfl) T 9 i0 (.string { data := #[] }) 1 16 Try.underlying37 hi hz0 hz1 hz2 rfl (by decide) (.slice px q cx) q (strV ((bs.drop (k * s)).take r ++ List.replicate j zeroS)) (by rfl) (hl2.alloc _) ⟨w2.heap.size, 0, none⟩ 1 1 [.string zeroS] (by rfl) rfl (cell_one_new _ _ _) (by intro u hu; simp at hu; subst hu; rfl) (by omega) (by unfold maxLen; omega) (by omega) (by simp; omega) _ rfl ?_; intro go2 cap2 w1 hown' hgrow hat hgl; have hc9 : w1.cell? ⟨go, k, none⟩ = some (.slice px q cx) := hgrow.cell (alloc_cell hxc2) hne1; have hf9 : w1.frozen? ⟨go, k, none⟩ = false := (hgrow.frozen_far _ (by simp; omega) hne1).trans ((Below.frozen (balloc hb2 _) hgoz).trans hxf))
              | (go_simp; go_at_call 28; refine (HZ.out _).mono ?_; rintro e w2 ⟨rfl, hb1⟩; have hb2 : Below W.heap.size W w2 := bthen (bdrew (Below.refl _ _)) hb1; have hxc2 : w2.cell? ⟨go, k, none⟩ = some (.slice px q cx) := below_cell hb2 hxc; have hxc3 := alloc_cell (o := .cells #[.string zeroS] 9) hxc2; have hl2 := own_below hl hb2; have hz2' : W.heap.size ≤ w2.heap.size := hb2.size; clear hb1))
            all_goals
              have hg0 : W.grownBy w1 (Value.slice px q cx).ownBlock := grown_tr (grown_of_below' (balloc hb2 _) _) hgrow
              have hlen := HL.out
              have hMM := HMM.out
              have hR5 : RI (w1.setCell ⟨go, (preL s bs k).length, none⟩ (.slice (some ⟨go2, 0, none⟩) (q + 1) cap2)) w.heap.size T (.slice (some ⟨go, 0, none⟩) ((preL s bs k).length + 1) cap6) (.slice (some ⟨go2, 0, none⟩) (q + 1) cap2) vs (preL s bs k) ((bs.drop (k * s)).take r ++ List.replicate j zeroS ++ [zeroS]) := RI.push (by rw [preL_len, ← hMM]; exact HR.out) hg0 (by rw [hlen, Hq.out]; exact hown')
              rw [preL_len, ← hMM, List.append_assoc, ← List.replicate_succ'] at hR5
              have hb5 : Below w.heap.size w w1 := hbel.grown hg0 hbel.size (fun q hq => Nat.le_trans hTz (hTl q hq).1)
              have hb6 := bset (p := ⟨go, k, none⟩) (.slice (some ⟨go2, 0, none⟩) (q + 1) cap2) hgob hb5
              have hqq := Hq.out
              have hms : lastLen (.slice (some ⟨go, 0, none⟩) M cap6) (w1.setCell ⟨go, k, none⟩ (.slice (some ⟨go2, 0, none⟩) (q + 1) cap2)) = q + 1 := by
                unfold lastLen
                rw [hMM]
                show (match (w1.setCell ⟨go, k, none⟩ (.slice (some ⟨go2, 0, none⟩) (q + 1) cap2)).cell? ⟨go, k + 1 - 1, none⟩ with | some v => lenOf v | none => 0) = q + 1
                rw [Nat.add_sub_cancel, World.cell?_setCell_same _ _ _ hc9]; rfl
              have HR5 := hid hR5
              have HMS := hid hms
              have HLL2 := hid HLL.out
              have HIK2 := hid HIK.out
              clear hR5 hms hb5 hg0 hown' hgrow hat hgl hc9 hf9 hlen hMM hxc2 hxc3 hl2
              go_wp2_with fail
              go_roundw
              case rel => exact ⟨.inr ⟨k, r, j + 1, T, _, vs, HIK2.out, hr1, by omega, HR5.out⟩, hb6⟩
              case measure => rw [HMS.out, HLL2.out]; omega
          · have dq : decide ((q : Int) < (s : Int)) = false := decide_eq_false (by omega)
            have hqs2 : ¬ ((q : Int) < (s : Int)) := by omega
            go_wp2_with fail
            go_ret2
            refine ⟨.inl ⟨HOk.out, _, vs ++ [.slice px q cx], rfl, ?_⟩, hbel⟩
            have e1 : npk s bs.length = k + 1 := by rw [HN.out, HIK.out]; exact npk_at s k r ⟨hr1, by omega⟩
            have hdl : (bs.drop (k * s)).length = r := by rw [List.length_drop, HN.out]; have := HIK.out; omega
            have e2 : pkt s (bs.drop (k * s)) = (bs.drop (k * s)).take r ++ List.replicate j zeroS := by
              unfold pkt
              rw [List.take_of_length_le (by omega), List.take_of_length_le (by omega), hdl, show s - r = j by have := Hq.out; omega]
            rw [e1, preL_snoc, e2]
            exact HR.out.whole
end Go.Proofs.Ytpcfjlfdjkifgaa

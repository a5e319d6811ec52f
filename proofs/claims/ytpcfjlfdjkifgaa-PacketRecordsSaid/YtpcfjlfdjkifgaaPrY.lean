/-
  For PacketRecords: the contract of the reference's Collect at any sectors. (The body is printed by wip/tools/gencol2.py.)
-/
import Derived.Test.YtpcfjlfdjkifgaaPrX
import Derived.Deep.CutRange
namespace Go.Proofs.Ytpcfjlfdjkifgaa
open Go.RowKit Go.Lib
set_option linter.unusedVariables false
set_option linter.unusedSimpArgs false

theorem cx_keep {w w' w2 : World} {p0 p1 p2 p3 p4 p5 p6 a : Addr} {B n : Nat} {e : TypeId} {z : Nat} {v u0 u1 u2 u3 u4 u5 u6 c : Value} {xs : List Value}
    (h : w'.cell? p0 = some u0 ∧ w'.cell? p1 = some u1 ∧ w'.cell? p2 = some u2 ∧ w'.cell? p3 = some u3 ∧ w'.cell? p4 = some u4 ∧ w'.cell? p5 = some u5 ∧ w'.cell? p6 = some u6 ∧ w'.cell? a = some c ∧ w'.ownsRow B e z v n xs ∧ Below w.heap.size w w') (hb : Below w'.heap.size w' w2) :
    w2.cell? p0 = some u0 ∧ w2.cell? p1 = some u1 ∧ w2.cell? p2 = some u2 ∧ w2.cell? p3 = some u3 ∧ w2.cell? p4 = some u4 ∧ w2.cell? p5 = some u5 ∧ w2.cell? p6 = some u6 ∧ w2.cell? a = some c ∧ w2.ownsRow B e z v n xs ∧ Below w.heap.size w w2 := by
  obtain ⟨h0, h1, h2, h3, h4, h5, h6, h7, h9, h10⟩ := h
  exact ⟨below_cell hb h0, below_cell hb h1, below_cell hb h2, below_cell hb h3, below_cell hb h4, below_cell hb h5, below_cell hb h6, below_cell hb h7, own_below h9 hb, bthen h10 hb⟩
theorem vB_mode {l m f c s k n : Int} (h : vB l m f c s k n = true) (hm : m = 0) : vldB l m f c s k n = true := by
  subst hm
  unfold vB at h
  rw [Bool.and_eq_true] at h
  obtain ⟨h1, h2⟩ := h
  obtain ⟨-, a, b, c'⟩ := of_decide_eq_true h1
  unfold subB at h2
  rw [if_pos rfl] at h2
  obtain ⟨d, e, g, h3⟩ := of_decide_eq_true h2
  have hc : (capE 0).1 = 2048 := rfl
  unfold vldB
  rw [decide_eq_true (show -150 ≤ l ∧ l ≤ 449849 from ⟨a, b⟩), decide_eq_true (show (0 : Int) = 0 ∧ f = 0 ∧ c = 0 ∧ s = 0 ∧ k = 0 from ⟨rfl, d, e, g, h3⟩), decide_eq_true (show n = 2048 from c'.trans hc)]; rfl
theorem vldB_not {l m f c s k n : Int} (h : vB l m f c s k n = false ∨ ¬ m = 0) : vldB l m f c s k n = false := by
  cases hv : vldB l m f c s k n with
  | false => rfl
  | true =>
    obtain ⟨h1, h2, h3, h4, h5, h6, h7⟩ := vldB_true hv
    rcases h with h | h
    · subst h2 h3 h4 h5 h6
      have hc : (capE 0).1 = 2048 := rfl
      unfold vB subB at h
      rw [if_pos rfl, decide_eq_true (show (0 : Int) = 0 ∧ (0 : Int) = 0 ∧ (0 : Int) = 0 ∧ (0 : Int) = 0 from ⟨rfl, rfl, rfl, rfl⟩), Bool.and_true] at h
      exact absurd (show (0 ≤ (0 : Int) ∧ (0 : Int) ≤ 2) ∧ -150 ≤ l ∧ l ≤ 449849 ∧ n = (capE 0).1 from ⟨⟨by decide, by decide⟩, h1.1, h1.2, h7.trans hc.symm⟩) (of_decide_eq_false h)
    · exact absurd h2 h
def ColP (s : Nat) (xss : List Sec7) (w : World) (e : Ending) (w' : World) : Prop :=
  ((∃ vo, e = .returned (.tuple #[vo, .int .i64 0]) ∧ w'.ownsRow w.heap.size 9 1 vo (colX s xss xss.length).length (strV (colX s xss xss.length)) ∧ allG s xss xss.length) ∨ (e = .returned (.tuple #[.slice none 0 0, .int .i64 10]) ∧ ¬ allG s xss xss.length)) ∧ Below w.heap.size w w'

set_option maxRecDepth 20000 in
set_option maxHeartbeats 16000000 in
theorem refCollect_any (s : Nat) (hs : 1 ≤ s ∧ s ≤ 1024) (xss : List Sec7) (hT : xss.length % (s + 7) = 0) (hT2 : xss.length ≤ 4096) (v : Value) (w : World) (ho : SecR w v xss) :
    Calls Try.prog 24 #[.int .i64 (s : Int), v] w (ColP s xss w) := by
  have HS : Hid (∀ w : World, Calls Try.prog 31 #[.int .i64 (s : Int)] w fun e w' => e = .returned (.bool true) ∧ w = w') := fun w => by
    have := refSized_any (s : Int) w
    rwa [show szB (s : Int) = true from decide_eq_true (by omega)] at this
  have HZ := hid (fun w => refZero_any w)
  obtain ⟨i0, hi, hz0, hz1, hz2⟩ := info_S
  have HO := hid ho
  obtain ⟨p, cap, rfl⟩ := ho.len
  have hm : (xss.length : Int) % ((s : Int) + 7) = 0 := by rw [show (s : Int) + 7 = ((s + 7 : Nat) : Int) by omega, ← Int.natCast_emod, hT]; rfl
  have hs7 : ((s : Int) + 7 == 0) = false := by rw [beq_eq_false_iff_ne]; omega
  clear ho
  generalize hN : xss.length = n at *
  have HN := hid hN
  go_enter Try.func24, Try.ntmps24
  go_wp2_with fail
  refine (HS.out _).mono ?_
  rintro e w1 ⟨rfl, rfl⟩
  go_wp2_with fail
  clear hm hT
  go_loopw [6, 7] (fun vo c wr => ∃ i : Nat, i ≤ n ∧ c = .int .i64 i ∧ allG s xss i ∧ wr.ownsRow w.heap.size 9 1 vo (colX s xss i).length (strV (colX s xss i)) ∧ Below w.heap.size w wr) (fun _ c _ => n - (RowKit.intOf c).toNat)
  case atStart => exact ⟨0, Nat.zero_le _, rfl, fun j hj => absurd hj (Nat.not_lt_zero _), World.ownsRow_lit w #[] 0 (Nat.le_refl _) (by decide) rfl, balloc (Below.refl _ _) _⟩
  case round =>
    obtain ⟨i, hin, rfl, hG, hown, hbel⟩ := hrel
    by_cases hlt : i < n
    · have d1 : decide ((i : Int) < (n : Int)) = true := decide_eq_true (by omega)
      have l1 : (i : Int) < (n : Int) := by omega
      have l0 : (0 : Int) ≤ (i : Int) := Int.natCast_nonneg _
      obtain ⟨g, o, cap2, he, hg2, hg3, hcl⟩ := HO.out.form (by omega)
      rw [hN] at he
      injection he with he1 he2 he3
      subst he1 he3
      clear he2
      obtain ⟨x, hx⟩ : ∃ x, xss[i]? = some x := ⟨xss[i]'(by omega), List.getElem?_eq_getElem _⟩
      have hwf := HO.out.wf x (List.mem_of_getElem? hx)
      have hc0 : ∀ (j : Nat) (u : Value), x.cells[j]? = some u → w.cell? ⟨g, o + i * 7 + j, none⟩ = some u := fun j u hu => by
        rw [Nat.add_assoc]; exact hcl i x hx j u hu
      have HP := hid (fun (j : Nat) (y : Sec7) (h1 : xss[j]? = some y) => below_cell hbel (hcl j y h1 0 _ rfl))
      have hcs2 := colX_succ s xss i x hx
      have hcll := colX_le s xss i
      have HVa := hid (fun w => refValid_any x.l x.m x.f x.c x.s x.k x.d (bounds_i64 hwf.1) w)
      obtain ⟨xl, xm, xf, xc, xs, xk, xd⟩ := x
      have x0 : wr.cell? ⟨g, o + i * 7, none⟩ = some (.int .i64 xl) := below_cell hbel (hc0 0 _ rfl)
      have x1 : wr.cell? ⟨g, o + i * 7 + 1, none⟩ = some (.int .i64 xm) := below_cell hbel (hc0 1 _ rfl)
      have x2 : wr.cell? ⟨g, o + i * 7 + 2, none⟩ = some (.int .i64 xf) := below_cell hbel (hc0 2 _ rfl)
      have x3 : wr.cell? ⟨g, o + i * 7 + 3, none⟩ = some (.int .i64 xc) := below_cell hbel (hc0 3 _ rfl)
      have x4 : wr.cell? ⟨g, o + i * 7 + 4, none⟩ = some (.int .i64 xs) := below_cell hbel (hc0 4 _ rfl)
      have x5 : wr.cell? ⟨g, o + i * 7 + 5, none⟩ = some (.int .i64 xk) := below_cell hbel (hc0 5 _ rfl)
      have x6 : wr.cell? ⟨g, o + i * 7 + 6, none⟩ = some (.string xd) := below_cell hbel (hc0 6 _ rfl)
      have H6 := hid (hc0 6 _ rfl)
      have HOW := hid hown
      have Hx := hid hx
      have HG := hid hG
      have HC := hid hcs2
      have hbz : w.heap.size ≤ wr.heap.size := hbel.size
      clear hown hx hG hwf hcl hc0 hcs2
      obtain ⟨a, ha⟩ : ∃ a, i % (s + 7) = a := ⟨_, rfl⟩
      have hm : (i : Int) % ((s : Int) + 7) = (a : Int) := by rw [show (s : Int) + 7 = ((s + 7 : Nat) : Int) by omega, ← Int.natCast_emod, ha]
      have hUs : Hid (usr s i = decide (5 ≤ a ∧ a < 5 + s)) := by unfold Hid usr; rw [ha]
      have ha7 : a < s + 7 := by rw [← ha]; exact Nat.mod_lt _ (by omega)
      have w5 : IntKind.i64.wrap (5 + (s : Int)) = 5 + (s : Int) := IntWalk.i64_in _ (by omega)
      clear ha
      go_upto_region 10 with (fail)
      go_cut [8, 9] from 20 to 92 (fun s8 s9 wx => s8 = .int .i64 (a : Int) ∧ s9 = .bool (usr s i) ∧ wx = wr)
      case first =>
        by_cases h5 : 5 ≤ a
        · have u1 : decide ((5 : Int) ≤ (a : Int)) = true := decide_eq_true (by omega)
          by_cases h6 : a < 5 + s
          · have u2 : decide ((a : Int) < 5 + (s : Int)) = true := decide_eq_true (by omega)
            have HU := hid (hUs.out.trans (decide_eq_true ⟨h5, h6⟩))
            clear h5 h6
            go_wp2_with fail
            go_meet
            exact ⟨rfl, by rw [HU.out], rfl⟩
          · have u2 : decide ((a : Int) < 5 + (s : Int)) = false := decide_eq_false (by omega)
            have HU := hid (hUs.out.trans (decide_eq_false (fun h => h6 h.2)))
            clear h5 h6
            go_wp2_with fail
            go_meet
            exact ⟨rfl, by rw [HU.out], rfl⟩
        · have u1 : decide ((5 : Int) ≤ (a : Int)) = false := decide_eq_false (by omega)
          have HU := hid (hUs.out.trans (decide_eq_false (fun h => h5 h.1)))
          clear h5
          go_wp2_with fail
          go_meet
          exact ⟨rfl, by rw [HU.out], rfl⟩
      case rest =>
        obtain ⟨rfl, rfl, rfl⟩ := hcut
        obtain ⟨U, hU⟩ : ∃ U, U = usr s i := ⟨_, rfl⟩
        rw [← hU]
        have HU := hid hU
        clear hU hm w5 hUs ha7
        obtain ⟨wr, hwr⟩ : ∃ W : World, W = wc := ⟨_, rfl⟩
        subst hwr
        go_upto_region 11 with (fail)
        go_cut [83] from 20 to 92 (fun s83 wx => s83 = .bool (!gdS s xss i) ∧ wx.ownsRow w.heap.size 9 1 u6 (colX s xss i).length (strV (colX s xss i)) ∧ Below w.heap.size w wx)
        case first =>
          by_cases hv : vB xl xm xf xc xs xk xd.size = true
          · have hVd : Hid (∀ w : World, Calls Try.prog 39 #[.agg #[.int .i64 xl, .int .i64 xm, .int .i64 xf, .int .i64 xc, .int .i64 xs, .int .i64 xk, .string xd]] w fun e w' => e = .returned (.bool true) ∧ Below w.heap.size w w') := fun w => by
              have := HVa.out w
              rwa [hv] at this
            by_cases hm0 : xm = 0
            · have hvl := vB_mode hv hm0
              obtain ⟨hlr, hm00, rfl, rfl, rfl, rfl, hdz0⟩ := vldB_true hvl
              subst hm00
              have HV := hid hvl
              clear hv hvl HVa
              by_cases hi0 : i = 0
              · have d5 : decide ((0 : Int) < (i : Int)) = false := decide_eq_false (by omega)
                have d5n : decide (0 < i) = false := decide_eq_false (by omega)
                have HGo : Hid ((usr s i = true ∨ xd = zeroS) → gdS s xss i = true) := fun h => gdS_yes Hx.out HV.out (.inl hi0) h
                have HGn : Hid (¬ usr s i = true → ¬ xd = zeroS → gdS s xss i = false) := fun h1 h2 => gdS_no3 Hx.out h1 h2
                clear hi0 HP
                have hS := And.intro x0 (And.intro x1 (And.intro x2 (And.intro x3 (And.intro x4 (And.intro x5 (And.intro x6 (And.intro x0 (And.intro HOW.out hbel))))))))
                clear x0 x1 x2 x3 x4 x5 x6 
                refine wp_region_noPanic ?_
                refine wp_region_held_drew (S := (fun w' => w'.cell? ⟨g, o + i * 7, none⟩ = some (.int .i64 xl) ∧ w'.cell? ⟨g, o + i * 7 + 1, none⟩ = some (.int .i64 0) ∧ w'.cell? ⟨g, o + i * 7 + 2, none⟩ = some (.int .i64 0) ∧ w'.cell? ⟨g, o + i * 7 + 3, none⟩ = some (.int .i64 0) ∧ w'.cell? ⟨g, o + i * 7 + 4, none⟩ = some (.int .i64 0) ∧ w'.cell? ⟨g, o + i * 7 + 5, none⟩ = some (.int .i64 0) ∧ w'.cell? ⟨g, o + i * 7 + 6, none⟩ = some (.string xd) ∧ w'.cell? ⟨g, o + i * 7, none⟩ = some (.int .i64 xl) ∧ w'.ownsRow w.heap.size 9 1 u6 (colX s xss i).length (strV (colX s xss i)) ∧ Below w.heap.size w w')) (by kernel_rfl) (cx_keep hS (bdrew (Below.refl _ _))) (fun hHeld => ?_)
                refine wpAnyH_take (i := 0) (oi := { dst := some 38, op := Op.move (Operand.tmp 1), type := 38, pos := "ref.go:153", after := #[], guard := none }) (v := ?_) rfl (by kernel_rfl) (by kernel_rfl) (by kernel_rfl) (fun _ _ _ h => h) (Or.inl ⟨by rfl, ?_⟩) hHeld ?_
                rotate_left
                · intro w hSw
                  try dsimp only at hSw
                  go_simp
                  with_reducible rfl
                try simp only [Act.put, List.setIfInBounds_toArray, List.set_cons_zero, List.set_cons_succ]
                refine wpAnyH_take (i := 1) (oi := { dst := some 39, op := Op.move (Operand.tmp 7), type := 3, pos := "ref.go:153", after := #[], guard := none }) (v := ?_) rfl (by kernel_rfl) (by kernel_rfl) (by kernel_rfl) (fun _ _ _ h => h) (Or.inl ⟨by rfl, ?_⟩) hHeld ?_
                rotate_left
                · intro w hSw
                  try dsimp only at hSw
                  go_simp
                  with_reducible rfl
                try simp only [Act.put, List.setIfInBounds_toArray, List.set_cons_zero, List.set_cons_succ]
                refine wpAnyH_take (i := 2) (oi := { dst := some 40, op := Op.indexAddr 38 (Operand.tmp 38) (Operand.tmp 39), type := 0, pos := "ref.go:153", after := #[{ on := 0, ground := Ground.data }, { on := 1, ground := Ground.data }], guard := none }) (v := ?_) rfl (by kernel_rfl) (by kernel_rfl) (by kernel_rfl) (fun _ _ _ h => h) (Or.inl ⟨by rfl, ?_⟩) hHeld ?_
                rotate_left
                · intro w hSw
                  try dsimp only at hSw
                  go_simp
                  with_reducible rfl
                try simp only [Act.put, List.setIfInBounds_toArray, List.set_cons_zero, List.set_cons_succ]
                refine wpAnyH_take (i := 3) (oi := { dst := some 41, op := Op.load 53 (Operand.tmp 40), type := 53, pos := "ref.go:153", after := #[{ on := 2, ground := Ground.data }], guard := none }) (v := ?_) rfl (by kernel_rfl) (by kernel_rfl) (by kernel_rfl) (fun _ _ _ h => h) (Or.inl ⟨by rfl, ?_⟩) hHeld ?_
                rotate_left
                · intro w hSw
                  try dsimp only at hSw
                  go_simp
                  with_reducible rfl
                try simp only [Act.put, List.setIfInBounds_toArray, List.set_cons_zero, List.set_cons_succ]
                refine wpAnyH_ready (rs := [4]) (by kernel_rfl) (by simp) ?_
                refine AllReadyH.cons (o := { dst := some 42, op := Op.call { callee := Callee.value (Operand.func 39), args := #[Operand.tmp 41], argTypes := #[53] }, type := 4, pos := "ref.go:153", after := #[{ on := 3, ground := Ground.data }], guard := none }) rfl (fun K hK => ?_) AllReadyH.nil
                go_simp
                go_at_call 39
                refine (hVd.out _).mono ?_
                rintro e w2 ⟨rfl, hb⟩
                go_wp2_with fail
                refine hK.out _ _ (cx_keep hHeld hb) (fun hHeld => ?_)
                clear hK K hb
                try simp only [Act.put, List.setIfInBounds_toArray, List.set_cons_zero, List.set_cons_succ]
                refine wpAnyH_take (i := 5) (oi := { dst := some 43, op := Op.unOp UnOp.not 4 (Operand.tmp 42), type := 4, pos := "ref.go:153", after := #[{ on := 4, ground := Ground.data }], guard := none }) (v := ?_) rfl (by kernel_rfl) (by kernel_rfl) (by kernel_rfl) (fun _ _ _ h => h) (Or.inl ⟨by rfl, ?_⟩) hHeld ?_
                rotate_left
                · intro w hSw
                  try dsimp only at hSw
                  go_simp
                  with_reducible rfl
                try simp only [Act.put, List.setIfInBounds_toArray, List.set_cons_zero, List.set_cons_succ]
                refine wpAnyH_take (i := 6) (oi := { dst := some 44, op := Op.move (Operand.tmp 43), type := 4, pos := "ref.go:153", after := #[{ on := 5, ground := Ground.data }, { on := 4, ground := Ground.chain }], guard := none }) (v := ?_) rfl (by kernel_rfl) (by kernel_rfl) (by kernel_rfl) (fun _ _ _ h => h) (Or.inl ⟨by rfl, ?_⟩) hHeld ?_
                rotate_left
                · intro w hSw
                  try dsimp only at hSw
                  go_simp
                  with_reducible rfl
                try simp only [Act.put, List.setIfInBounds_toArray, List.set_cons_zero, List.set_cons_succ]
                refine wpAnyH_take (i := 7) (oi := { dst := some 45, op := Op.move (Operand.tmp 1), type := 38, pos := "ref.go:153", after := #[{ on := 6, ground := Ground.guard }], guard := some (6, false) }) (v := ?_) rfl (by kernel_rfl) (by kernel_rfl) (by kernel_rfl) (fun _ _ _ h => h) (Or.inl ⟨by rfl, ?_⟩) hHeld ?_
                rotate_left
                · intro w hSw
                  try dsimp only at hSw
                  go_simp
                  with_reducible rfl
                try simp only [Act.put, List.setIfInBounds_toArray, List.set_cons_zero, List.set_cons_succ]
                refine wpAnyH_take (i := 8) (oi := { dst := some 46, op := Op.move (Operand.tmp 7), type := 3, pos := "ref.go:153", after := #[{ on := 6, ground := Ground.guard }], guard := some (6, false) }) (v := ?_) rfl (by kernel_rfl) (by kernel_rfl) (by kernel_rfl) (fun _ _ _ h => h) (Or.inl ⟨by rfl, ?_⟩) hHeld ?_
                rotate_left
                · intro w hSw
                  try dsimp only at hSw
                  go_simp
                  with_reducible rfl
                try simp only [Act.put, List.setIfInBounds_toArray, List.set_cons_zero, List.set_cons_succ]
                refine wpAnyH_take (i := 9) (oi := { dst := some 47, op := Op.indexAddr 38 (Operand.tmp 45) (Operand.tmp 46), type := 0, pos := "ref.go:153", after := #[{ on := 7, ground := Ground.data }, { on := 8, ground := Ground.data }, { on := 6, ground := Ground.guard }], guard := some (6, false) }) (v := ?_) rfl (by kernel_rfl) (by kernel_rfl) (by kernel_rfl) (fun _ _ _ h => h) (Or.inl ⟨by rfl, ?_⟩) hHeld ?_
                rotate_left
                · intro w hSw
                  try dsimp only at hSw
                  go_simp
                  with_reducible rfl
                try simp only [Act.put, List.setIfInBounds_toArray, List.set_cons_zero, List.set_cons_succ]
                refine wpAnyH_take (i := 10) (oi := { dst := some 48, op := Op.fieldAddr 53 (Operand.tmp 47) 1, type := 0, pos := "ref.go:153", after := #[{ on := 9, ground := Ground.data }, { on := 6, ground := Ground.guard }], guard := some (6, false) }) (v := ?_) rfl (by kernel_rfl) (by kernel_rfl) (by kernel_rfl) (fun _ _ _ h => h) (Or.inl ⟨by rfl, ?_⟩) hHeld ?_
                rotate_left
                · intro w hSw
                  try dsimp only at hSw
                  go_simp
                  with_reducible rfl
                try simp only [Act.put, List.setIfInBounds_toArray, List.set_cons_zero, List.set_cons_succ]
                refine wpAnyH_take (i := 11) (oi := { dst := some 49, op := Op.load 3 (Operand.tmp 48), type := 3, pos := "ref.go:153", after := #[{ on := 10, ground := Ground.data }, { on := 6, ground := Ground.guard }], guard := some (6, false) }) (v := ?_) rfl (by kernel_rfl) (by kernel_rfl) (by kernel_rfl) (fun _ _ _ h => h) (Or.inl ⟨by rfl, ?_⟩) hHeld ?_
                rotate_left
                · intro w hSw
                  try dsimp only at hSw
                  go_simp
                  with_reducible rfl
                try simp only [Act.put, List.setIfInBounds_toArray, List.set_cons_zero, List.set_cons_succ]
                refine wpAnyH_take (i := 12) (oi := { dst := some 50, op := Op.binOp BinOp.neq 3 (Operand.tmp 49) (Operand.const (Value.int IntKind.i64 0)) 3, type := 4, pos := "ref.go:153", after := #[{ on := 11, ground := Ground.data }, { on := 6, ground := Ground.guard }], guard := some (6, false) }) (v := ?_) rfl (by kernel_rfl) (by kernel_rfl) (by kernel_rfl) (fun _ _ _ h => h) (Or.inl ⟨by rfl, ?_⟩) hHeld ?_
                rotate_left
                · intro w hSw
                  try dsimp only at hSw
                  go_simp
                  with_reducible rfl
                try simp only [Act.put, List.setIfInBounds_toArray, List.set_cons_zero, List.set_cons_succ]
                refine wpAnyH_take (i := 13) (oi := { dst := some 51, op := Op.pick (Operand.tmp 44) (Operand.const (Value.bool true)) (Operand.tmp 50), type := 4, pos := "ref.go:153", after := #[{ on := 6, ground := Ground.data }, { on := 12, ground := Ground.data }], guard := none }) (v := ?_) rfl (by kernel_rfl) (by kernel_rfl) (by kernel_rfl) (fun _ _ _ h => h) (Or.inl ⟨by rfl, ?_⟩) hHeld ?_
                rotate_left
                · intro w hSw
                  try dsimp only at hSw
                  go_simp
                  with_reducible rfl
                try simp only [Act.put, List.setIfInBounds_toArray, List.set_cons_zero, List.set_cons_succ]
                refine wpAnyH_take (i := 14) (oi := { dst := some 52, op := Op.move (Operand.tmp 51), type := 4, pos := "ref.go:153", after := #[{ on := 13, ground := Ground.data }, { on := 6, ground := Ground.chain }], guard := none }) (v := ?_) rfl (by kernel_rfl) (by kernel_rfl) (by kernel_rfl) (fun _ _ _ h => h) (Or.inl ⟨by rfl, ?_⟩) hHeld ?_
                rotate_left
                · intro w hSw
                  try dsimp only at hSw
                  go_simp
                  with_reducible rfl
                try simp only [Act.put, List.setIfInBounds_toArray, List.set_cons_zero, List.set_cons_succ]
                refine wpAnyH_take (i := 15) (oi := { dst := some 53, op := Op.move (Operand.tmp 7), type := 3, pos := "ref.go:153", after := #[{ on := 14, ground := Ground.guard }], guard := some (14, false) }) (v := ?_) rfl (by kernel_rfl) (by kernel_rfl) (by kernel_rfl) (fun _ _ _ h => h) (Or.inl ⟨by rfl, ?_⟩) hHeld ?_
                rotate_left
                · intro w hSw
                  try dsimp only at hSw
                  go_simp
                  with_reducible rfl
                try simp only [Act.put, List.setIfInBounds_toArray, List.set_cons_zero, List.set_cons_succ]
                refine wpAnyH_take (i := 16) (oi := { dst := some 54, op := Op.binOp BinOp.gtr 3 (Operand.tmp 53) (Operand.const (Value.int IntKind.i64 0)) 3, type := 4, pos := "ref.go:153", after := #[{ on := 15, ground := Ground.data }, { on := 14, ground := Ground.guard }], guard := some (14, false) }) (v := ?_) rfl (by kernel_rfl) (by kernel_rfl) (by kernel_rfl) (fun _ _ _ h => h) (Or.inl ⟨by rfl, ?_⟩) hHeld ?_
                rotate_left
                · intro w hSw
                  try dsimp only at hSw
                  go_simp
                  with_reducible rfl
                try simp only [Act.put, List.setIfInBounds_toArray, List.set_cons_zero, List.set_cons_succ]
                refine wpAnyH_take (i := 17) (oi := { dst := some 55, op := Op.move (Operand.tmp 54), type := 4, pos := "ref.go:153", after := #[{ on := 16, ground := Ground.data }, { on := 14, ground := Ground.chain }, { on := 14, ground := Ground.guard }], guard := some (14, false) }) (v := ?_) rfl (by kernel_rfl) (by kernel_rfl) (by kernel_rfl) (fun _ _ _ h => h) (Or.inl ⟨by rfl, ?_⟩) hHeld ?_
                rotate_left
                · intro w hSw
                  try dsimp only at hSw
                  go_simp
                  with_reducible rfl
                try simp only [Act.put, List.setIfInBounds_toArray, List.set_cons_zero, List.set_cons_succ]
                refine wpAnyH_take (i := 18) (oi := { dst := some 56, op := Op.move (Operand.tmp 1), type := 38, pos := "ref.go:153", after := #[{ on := 17, ground := Ground.guard }], guard := some (17, true) }) (v := undef) rfl (by kernel_rfl) (by kernel_rfl) (by kernel_rfl) (fun _ _ _ h => h) (Or.inr ⟨by rfl, rfl⟩) hHeld ?_
                try simp only [Act.put, List.setIfInBounds_toArray, List.set_cons_zero, List.set_cons_succ]
                refine wpAnyH_take (i := 19) (oi := { dst := some 57, op := Op.move (Operand.tmp 7), type := 3, pos := "ref.go:153", after := #[{ on := 17, ground := Ground.guard }], guard := some (17, true) }) (v := undef) rfl (by kernel_rfl) (by kernel_rfl) (by kernel_rfl) (fun _ _ _ h => h) (Or.inr ⟨by rfl, rfl⟩) hHeld ?_
                try simp only [Act.put, List.setIfInBounds_toArray, List.set_cons_zero, List.set_cons_succ]
                refine wpAnyH_take (i := 20) (oi := { dst := some 58, op := Op.indexAddr 38 (Operand.tmp 56) (Operand.tmp 57), type := 0, pos := "ref.go:153", after := #[{ on := 18, ground := Ground.data }, { on := 19, ground := Ground.data }, { on := 17, ground := Ground.guard }], guard := some (17, true) }) (v := undef) rfl (by kernel_rfl) (by kernel_rfl) (by kernel_rfl) (fun _ _ _ h => h) (Or.inr ⟨by rfl, rfl⟩) hHeld ?_
                try simp only [Act.put, List.setIfInBounds_toArray, List.set_cons_zero, List.set_cons_succ]
                refine wpAnyH_take (i := 21) (oi := { dst := some 59, op := Op.fieldAddr 53 (Operand.tmp 58) 0, type := 0, pos := "ref.go:153", after := #[{ on := 20, ground := Ground.data }, { on := 17, ground := Ground.guard }], guard := some (17, true) }) (v := undef) rfl (by kernel_rfl) (by kernel_rfl) (by kernel_rfl) (fun _ _ _ h => h) (Or.inr ⟨by rfl, rfl⟩) hHeld ?_
                try simp only [Act.put, List.setIfInBounds_toArray, List.set_cons_zero, List.set_cons_succ]
                refine wpAnyH_take (i := 22) (oi := { dst := some 60, op := Op.load 3 (Operand.tmp 59), type := 3, pos := "ref.go:153", after := #[{ on := 21, ground := Ground.data }, { on := 17, ground := Ground.guard }], guard := some (17, true) }) (v := undef) rfl (by kernel_rfl) (by kernel_rfl) (by kernel_rfl) (fun _ _ _ h => h) (Or.inr ⟨by rfl, rfl⟩) hHeld ?_
                try simp only [Act.put, List.setIfInBounds_toArray, List.set_cons_zero, List.set_cons_succ]
                refine wpAnyH_take (i := 23) (oi := { dst := some 61, op := Op.move (Operand.tmp 1), type := 38, pos := "ref.go:153", after := #[{ on := 17, ground := Ground.guard }], guard := some (17, true) }) (v := undef) rfl (by kernel_rfl) (by kernel_rfl) (by kernel_rfl) (fun _ _ _ h => h) (Or.inr ⟨by rfl, rfl⟩) hHeld ?_
                try simp only [Act.put, List.setIfInBounds_toArray, List.set_cons_zero, List.set_cons_succ]
                refine wpAnyH_take (i := 24) (oi := { dst := some 62, op := Op.move (Operand.tmp 7), type := 3, pos := "ref.go:153", after := #[{ on := 17, ground := Ground.guard }], guard := some (17, true) }) (v := undef) rfl (by kernel_rfl) (by kernel_rfl) (by kernel_rfl) (fun _ _ _ h => h) (Or.inr ⟨by rfl, rfl⟩) hHeld ?_
                try simp only [Act.put, List.setIfInBounds_toArray, List.set_cons_zero, List.set_cons_succ]
                refine wpAnyH_take (i := 25) (oi := { dst := some 63, op := Op.binOp BinOp.sub 3 (Operand.tmp 62) (Operand.const (Value.int IntKind.i64 1)) 3, type := 3, pos := "ref.go:153", after := #[{ on := 24, ground := Ground.data }, { on := 17, ground := Ground.guard }], guard := some (17, true) }) (v := undef) rfl (by kernel_rfl) (by kernel_rfl) (by kernel_rfl) (fun _ _ _ h => h) (Or.inr ⟨by rfl, rfl⟩) hHeld ?_
                try simp only [Act.put, List.setIfInBounds_toArray, List.set_cons_zero, List.set_cons_succ]
                refine wpAnyH_take (i := 26) (oi := { dst := some 64, op := Op.indexAddr 38 (Operand.tmp 61) (Operand.tmp 63), type := 0, pos := "ref.go:153", after := #[{ on := 23, ground := Ground.data }, { on := 25, ground := Ground.data }, { on := 17, ground := Ground.guard }], guard := some (17, true) }) (v := undef) rfl (by kernel_rfl) (by kernel_rfl) (by kernel_rfl) (fun _ _ _ h => h) (Or.inr ⟨by rfl, rfl⟩) hHeld ?_
                try simp only [Act.put, List.setIfInBounds_toArray, List.set_cons_zero, List.set_cons_succ]
                refine wpAnyH_take (i := 27) (oi := { dst := some 65, op := Op.fieldAddr 53 (Operand.tmp 64) 0, type := 0, pos := "ref.go:153", after := #[{ on := 26, ground := Ground.data }, { on := 17, ground := Ground.guard }], guard := some (17, true) }) (v := undef) rfl (by kernel_rfl) (by kernel_rfl) (by kernel_rfl) (fun _ _ _ h => h) (Or.inr ⟨by rfl, rfl⟩) hHeld ?_
                try simp only [Act.put, List.setIfInBounds_toArray, List.set_cons_zero, List.set_cons_succ]
                refine wpAnyH_take (i := 28) (oi := { dst := some 66, op := Op.load 3 (Operand.tmp 65), type := 3, pos := "ref.go:153", after := #[{ on := 27, ground := Ground.data }, { on := 17, ground := Ground.guard }], guard := some (17, true) }) (v := undef) rfl (by kernel_rfl) (by kernel_rfl) (by kernel_rfl) (fun _ _ _ h => h) (Or.inr ⟨by rfl, rfl⟩) hHeld ?_
                try simp only [Act.put, List.setIfInBounds_toArray, List.set_cons_zero, List.set_cons_succ]
                refine wpAnyH_take (i := 29) (oi := { dst := some 67, op := Op.binOp BinOp.add 3 (Operand.tmp 66) (Operand.const (Value.int IntKind.i64 1)) 3, type := 3, pos := "ref.go:153", after := #[{ on := 28, ground := Ground.data }, { on := 17, ground := Ground.guard }], guard := some (17, true) }) (v := undef) rfl (by kernel_rfl) (by kernel_rfl) (by kernel_rfl) (fun _ _ _ h => h) (Or.inr ⟨by rfl, rfl⟩) hHeld ?_
                try simp only [Act.put, List.setIfInBounds_toArray, List.set_cons_zero, List.set_cons_succ]
                refine wpAnyH_take (i := 30) (oi := { dst := some 68, op := Op.binOp BinOp.neq 3 (Operand.tmp 60) (Operand.tmp 67) 3, type := 4, pos := "ref.go:153", after := #[{ on := 22, ground := Ground.data }, { on := 29, ground := Ground.data }, { on := 17, ground := Ground.guard }], guard := some (17, true) }) (v := undef) rfl (by kernel_rfl) (by kernel_rfl) (by kernel_rfl) (fun _ _ _ h => h) (Or.inr ⟨by rfl, rfl⟩) hHeld ?_
                try simp only [Act.put, List.setIfInBounds_toArray, List.set_cons_zero, List.set_cons_succ]
                refine wpAnyH_take (i := 31) (oi := { dst := some 69, op := Op.pick (Operand.tmp 55) (Operand.tmp 68) (Operand.const (Value.bool false)), type := 4, pos := "ref.go:153", after := #[{ on := 17, ground := Ground.data }, { on := 30, ground := Ground.data }, { on := 14, ground := Ground.guard }], guard := some (14, false) }) (v := ?_) rfl (by kernel_rfl) (by kernel_rfl) (by kernel_rfl) (fun _ _ _ h => h) (Or.inl ⟨by rfl, ?_⟩) hHeld ?_
                rotate_left
                · intro w hSw
                  try dsimp only at hSw
                  go_simp
                  with_reducible rfl
                try simp only [Act.put, List.setIfInBounds_toArray, List.set_cons_zero, List.set_cons_succ]
                refine wpAnyH_take (i := 32) (oi := { dst := some 70, op := Op.pick (Operand.tmp 52) (Operand.const (Value.bool true)) (Operand.tmp 69), type := 4, pos := "ref.go:153", after := #[{ on := 14, ground := Ground.data }, { on := 31, ground := Ground.data }], guard := none }) (v := ?_) rfl (by kernel_rfl) (by kernel_rfl) (by kernel_rfl) (fun _ _ _ h => h) (Or.inl ⟨by rfl, ?_⟩) hHeld ?_
                rotate_left
                · intro w hSw
                  try dsimp only at hSw
                  go_simp
                  with_reducible rfl
                try simp only [Act.put, List.setIfInBounds_toArray, List.set_cons_zero, List.set_cons_succ]
                refine wpAnyH_take (i := 33) (oi := { dst := some 71, op := Op.move (Operand.tmp 70), type := 4, pos := "ref.go:153", after := #[{ on := 32, ground := Ground.data }, { on := 17, ground := Ground.chain }], guard := none }) (v := ?_) rfl (by kernel_rfl) (by kernel_rfl) (by kernel_rfl) (fun _ _ _ h => h) (Or.inl ⟨by rfl, ?_⟩) hHeld ?_
                rotate_left
                · intro w hSw
                  try dsimp only at hSw
                  go_simp
                  with_reducible rfl
                try simp only [Act.put, List.setIfInBounds_toArray, List.set_cons_zero, List.set_cons_succ]
                cases U
                · have HNU := hid (show ¬ usr s i = true by rw [← HU.out]; decide)
                  refine wpAnyH_take (i := 34) (oi := { dst := some 72, op := Op.move (Operand.tmp 9), type := 4, pos := "ref.go:153", after := #[{ on := 33, ground := Ground.guard }], guard := some (33, false) }) (v := ?_) rfl (by kernel_rfl) (by kernel_rfl) (by kernel_rfl) (fun _ _ _ h => h) (Or.inl ⟨by rfl, ?_⟩) hHeld ?_
                  rotate_left
                  · intro w hSw
                    try dsimp only at hSw
                    go_simp
                    with_reducible rfl
                  try simp only [Act.put, List.setIfInBounds_toArray, List.set_cons_zero, List.set_cons_succ]
                  refine wpAnyH_take (i := 35) (oi := { dst := some 73, op := Op.unOp UnOp.not 4 (Operand.tmp 72), type := 4, pos := "ref.go:153", after := #[{ on := 34, ground := Ground.data }, { on := 33, ground := Ground.guard }], guard := some (33, false) }) (v := ?_) rfl (by kernel_rfl) (by kernel_rfl) (by kernel_rfl) (fun _ _ _ h => h) (Or.inl ⟨by rfl, ?_⟩) hHeld ?_
                  rotate_left
                  · intro w hSw
                    try dsimp only at hSw
                    go_simp
                    with_reducible rfl
                  try simp only [Act.put, List.setIfInBounds_toArray, List.set_cons_zero, List.set_cons_succ]
                  refine wpAnyH_take (i := 36) (oi := { dst := some 74, op := Op.move (Operand.tmp 73), type := 4, pos := "ref.go:153", after := #[{ on := 35, ground := Ground.data }, { on := 33, ground := Ground.chain }, { on := 33, ground := Ground.guard }], guard := some (33, false) }) (v := ?_) rfl (by kernel_rfl) (by kernel_rfl) (by kernel_rfl) (fun _ _ _ h => h) (Or.inl ⟨by rfl, ?_⟩) hHeld ?_
                  rotate_left
                  · intro w hSw
                    try dsimp only at hSw
                    go_simp
                    with_reducible rfl
                  try simp only [Act.put, List.setIfInBounds_toArray, List.set_cons_zero, List.set_cons_succ]
                  refine wpAnyH_take (i := 37) (oi := { dst := some 75, op := Op.move (Operand.tmp 1), type := 38, pos := "ref.go:153", after := #[{ on := 36, ground := Ground.guard }], guard := some (36, true) }) (v := ?_) rfl (by kernel_rfl) (by kernel_rfl) (by kernel_rfl) (fun _ _ _ h => h) (Or.inl ⟨by rfl, ?_⟩) hHeld ?_
                  rotate_left
                  · intro w hSw
                    try dsimp only at hSw
                    go_simp
                    with_reducible rfl
                  try simp only [Act.put, List.setIfInBounds_toArray, List.set_cons_zero, List.set_cons_succ]
                  refine wpAnyH_take (i := 38) (oi := { dst := some 76, op := Op.move (Operand.tmp 7), type := 3, pos := "ref.go:153", after := #[{ on := 36, ground := Ground.guard }], guard := some (36, true) }) (v := ?_) rfl (by kernel_rfl) (by kernel_rfl) (by kernel_rfl) (fun _ _ _ h => h) (Or.inl ⟨by rfl, ?_⟩) hHeld ?_
                  rotate_left
                  · intro w hSw
                    try dsimp only at hSw
                    go_simp
                    with_reducible rfl
                  try simp only [Act.put, List.setIfInBounds_toArray, List.set_cons_zero, List.set_cons_succ]
                  refine wpAnyH_take (i := 39) (oi := { dst := some 77, op := Op.indexAddr 38 (Operand.tmp 75) (Operand.tmp 76), type := 0, pos := "ref.go:153", after := #[{ on := 37, ground := Ground.data }, { on := 38, ground := Ground.data }, { on := 36, ground := Ground.guard }], guard := some (36, true) }) (v := ?_) rfl (by kernel_rfl) (by kernel_rfl) (by kernel_rfl) (fun _ _ _ h => h) (Or.inl ⟨by rfl, ?_⟩) hHeld ?_
                  rotate_left
                  · intro w hSw
                    try dsimp only at hSw
                    go_simp
                    with_reducible rfl
                  try simp only [Act.put, List.setIfInBounds_toArray, List.set_cons_zero, List.set_cons_succ]
                  refine wpAnyH_take (i := 40) (oi := { dst := some 78, op := Op.fieldAddr 53 (Operand.tmp 77) 3, type := 0, pos := "ref.go:153", after := #[{ on := 39, ground := Ground.data }, { on := 36, ground := Ground.guard }], guard := some (36, true) }) (v := ?_) rfl (by kernel_rfl) (by kernel_rfl) (by kernel_rfl) (fun _ _ _ h => h) (Or.inl ⟨by rfl, ?_⟩) hHeld ?_
                  rotate_left
                  · intro w hSw
                    try dsimp only at hSw
                    go_simp
                    with_reducible rfl
                  try simp only [Act.put, List.setIfInBounds_toArray, List.set_cons_zero, List.set_cons_succ]
                  refine wpAnyH_take (i := 41) (oi := { dst := some 79, op := Op.load 9 (Operand.tmp 78), type := 9, pos := "ref.go:153", after := #[{ on := 40, ground := Ground.data }, { on := 36, ground := Ground.guard }], guard := some (36, true) }) (v := ?_) rfl (by kernel_rfl) (by kernel_rfl) (by kernel_rfl) (fun _ _ _ h => h) (Or.inl ⟨by rfl, ?_⟩) hHeld ?_
                  rotate_left
                  · intro w hSw
                    try dsimp only at hSw
                    go_simp
                    with_reducible rfl
                  try simp only [Act.put, List.setIfInBounds_toArray, List.set_cons_zero, List.set_cons_succ]
                  refine wpAnyH_ready (rs := [42]) (by kernel_rfl) (by simp) ?_
                  refine AllReadyH.cons (o := { dst := some 80, op := Op.call { callee := Callee.value (Operand.func 28), args := #[], argTypes := #[] }, type := 9, pos := "ref.go:153", after := #[{ on := 36, ground := Ground.chain }, { on := 36, ground := Ground.guard }], guard := some (36, true) }) rfl (fun K hK => ?_) AllReadyH.nil
                  go_simp
                  go_at_call 28
                  refine (HZ.out _).mono ?_
                  rintro e w2 ⟨rfl, hb⟩
                  go_wp2_with fail
                  refine hK.out _ _ (cx_keep hHeld hb) (fun hHeld => ?_)
                  clear hK K hb
                  try simp only [Act.put, List.setIfInBounds_toArray, List.set_cons_zero, List.set_cons_succ]
                  by_cases hdz : xd = zeroS
                  · have q9 : (xd.toList == zeroS.toList) = true := by rw [hdz]; exact beq_self_eq_true _
                    have q8 : (xd.toList != zeroS.toList) = false := by rw [hdz]; exact bne_self_eq_false _
                    have HR := hid (HGo.out (.inr hdz))
                    clear hdz
                    generalize zeroS = Zz at *
                    refine wpAnyH_take (i := 43) (oi := { dst := some 81, op := Op.binOp BinOp.neq 9 (Operand.tmp 79) (Operand.tmp 80) 9, type := 4, pos := "ref.go:153", after := #[{ on := 41, ground := Ground.data }, { on := 42, ground := Ground.data }, { on := 36, ground := Ground.guard }], guard := some (36, true) }) (v := ?_) rfl (by kernel_rfl) (by kernel_rfl) (by kernel_rfl) (fun _ _ _ h => h) (Or.inl ⟨by rfl, ?_⟩) hHeld ?_
                    rotate_left
                    · intro w hSw
                      try dsimp only at hSw
                      go_simp
                      with_reducible rfl
                    try simp only [Act.put, List.setIfInBounds_toArray, List.set_cons_zero, List.set_cons_succ]
                    refine wpAnyH_take (i := 44) (oi := { dst := some 82, op := Op.pick (Operand.tmp 74) (Operand.tmp 81) (Operand.const (Value.bool false)), type := 4, pos := "ref.go:153", after := #[{ on := 36, ground := Ground.data }, { on := 43, ground := Ground.data }, { on := 33, ground := Ground.guard }], guard := some (33, false) }) (v := ?_) rfl (by kernel_rfl) (by kernel_rfl) (by kernel_rfl) (fun _ _ _ h => h) (Or.inl ⟨by rfl, ?_⟩) hHeld ?_
                    rotate_left
                    · intro w hSw
                      try dsimp only at hSw
                      go_simp
                      with_reducible rfl
                    try simp only [Act.put, List.setIfInBounds_toArray, List.set_cons_zero, List.set_cons_succ]
                    refine wpAnyH_take (i := 45) (oi := { dst := some 83, op := Op.pick (Operand.tmp 71) (Operand.const (Value.bool true)) (Operand.tmp 82), type := 4, pos := "ref.go:153", after := #[{ on := 33, ground := Ground.data }, { on := 44, ground := Ground.data }], guard := none }) (v := ?_) rfl (by kernel_rfl) (by kernel_rfl) (by kernel_rfl) (fun _ _ _ h => h) (Or.inl ⟨by rfl, ?_⟩) hHeld ?_
                    rotate_left
                    · intro w hSw
                      try dsimp only at hSw
                      go_simp
                      with_reducible rfl
                    try simp only [Act.put, List.setIfInBounds_toArray, List.set_cons_zero, List.set_cons_succ]
                    refine wpAnyH_done (by kernel_rfl) ?_ _
                    refine NoPanic.normal ?_
                    obtain ⟨-, -, -, -, -, -, -, -, HO2, L⟩ := hHeld
                    go_wp2_with fail
                    go_meet
                    exact ⟨by rw [HR.out]; rfl, HO2, L⟩
                  · have q9 : (xd.toList == zeroS.toList) = false := beq_eq_false_iff_ne.2 (fun h => hdz (ba_inj h))
                    have q8 : (xd.toList != zeroS.toList) = true := bne_iff_ne.2 (fun h => hdz (ba_inj h))
                    have HR := hid (HGn.out HNU.out hdz)
                    clear hdz
                    generalize zeroS = Zz at *
                    refine wpAnyH_take (i := 43) (oi := { dst := some 81, op := Op.binOp BinOp.neq 9 (Operand.tmp 79) (Operand.tmp 80) 9, type := 4, pos := "ref.go:153", after := #[{ on := 41, ground := Ground.data }, { on := 42, ground := Ground.data }, { on := 36, ground := Ground.guard }], guard := some (36, true) }) (v := ?_) rfl (by kernel_rfl) (by kernel_rfl) (by kernel_rfl) (fun _ _ _ h => h) (Or.inl ⟨by rfl, ?_⟩) hHeld ?_
                    rotate_left
                    · intro w hSw
                      try dsimp only at hSw
                      go_simp
                      with_reducible rfl
                    try simp only [Act.put, List.setIfInBounds_toArray, List.set_cons_zero, List.set_cons_succ]
                    refine wpAnyH_take (i := 44) (oi := { dst := some 82, op := Op.pick (Operand.tmp 74) (Operand.tmp 81) (Operand.const (Value.bool false)), type := 4, pos := "ref.go:153", after := #[{ on := 36, ground := Ground.data }, { on := 43, ground := Ground.data }, { on := 33, ground := Ground.guard }], guard := some (33, false) }) (v := ?_) rfl (by kernel_rfl) (by kernel_rfl) (by kernel_rfl) (fun _ _ _ h => h) (Or.inl ⟨by rfl, ?_⟩) hHeld ?_
                    rotate_left
                    · intro w hSw
                      try dsimp only at hSw
                      go_simp
                      with_reducible rfl
                    try simp only [Act.put, List.setIfInBounds_toArray, List.set_cons_zero, List.set_cons_succ]
                    refine wpAnyH_take (i := 45) (oi := { dst := some 83, op := Op.pick (Operand.tmp 71) (Operand.const (Value.bool true)) (Operand.tmp 82), type := 4, pos := "ref.go:153", after := #[{ on := 33, ground := Ground.data }, { on := 44, ground := Ground.data }], guard := none }) (v := ?_) rfl (by kernel_rfl) (by kernel_rfl) (by kernel_rfl) (fun _ _ _ h => h) (Or.inl ⟨by rfl, ?_⟩) hHeld ?_
                    rotate_left
                    · intro w hSw
                      try dsimp only at hSw
                      go_simp
                      with_reducible rfl
                    try simp only [Act.put, List.setIfInBounds_toArray, List.set_cons_zero, List.set_cons_succ]
                    refine wpAnyH_done (by kernel_rfl) ?_ _
                    refine NoPanic.normal ?_
                    obtain ⟨-, -, -, -, -, -, -, -, HO2, L⟩ := hHeld
                    go_wp2_with fail
                    go_meet
                    exact ⟨by rw [HR.out]; rfl, HO2, L⟩
                · have HR := hid (HGo.out (.inl (by rw [← HU.out])))
                  refine wpAnyH_take (i := 34) (oi := { dst := some 72, op := Op.move (Operand.tmp 9), type := 4, pos := "ref.go:153", after := #[{ on := 33, ground := Ground.guard }], guard := some (33, false) }) (v := ?_) rfl (by kernel_rfl) (by kernel_rfl) (by kernel_rfl) (fun _ _ _ h => h) (Or.inl ⟨by rfl, ?_⟩) hHeld ?_
                  rotate_left
                  · intro w hSw
                    try dsimp only at hSw
                    go_simp
                    with_reducible rfl
                  try simp only [Act.put, List.setIfInBounds_toArray, List.set_cons_zero, List.set_cons_succ]
                  refine wpAnyH_take (i := 35) (oi := { dst := some 73, op := Op.unOp UnOp.not 4 (Operand.tmp 72), type := 4, pos := "ref.go:153", after := #[{ on := 34, ground := Ground.data }, { on := 33, ground := Ground.guard }], guard := some (33, false) }) (v := ?_) rfl (by kernel_rfl) (by kernel_rfl) (by kernel_rfl) (fun _ _ _ h => h) (Or.inl ⟨by rfl, ?_⟩) hHeld ?_
                  rotate_left
                  · intro w hSw
                    try dsimp only at hSw
                    go_simp
                    with_reducible rfl
                  try simp only [Act.put, List.setIfInBounds_toArray, List.set_cons_zero, List.set_cons_succ]
                  refine wpAnyH_take (i := 36) (oi := { dst := some 74, op := Op.move (Operand.tmp 73), type := 4, pos := "ref.go:153", after := #[{ on := 35, ground := Ground.data }, { on := 33, ground := Ground.chain }, { on := 33, ground := Ground.guard }], guard := some (33, false) }) (v := ?_) rfl (by kernel_rfl) (by kernel_rfl) (by kernel_rfl) (fun _ _ _ h => h) (Or.inl ⟨by rfl, ?_⟩) hHeld ?_
                  rotate_left
                  · intro w hSw
                    try dsimp only at hSw
                    go_simp
                    with_reducible rfl
                  try simp only [Act.put, List.setIfInBounds_toArray, List.set_cons_zero, List.set_cons_succ]
                  refine wpAnyH_take (i := 37) (oi := { dst := some 75, op := Op.move (Operand.tmp 1), type := 38, pos := "ref.go:153", after := #[{ on := 36, ground := Ground.guard }], guard := some (36, true) }) (v := undef) rfl (by kernel_rfl) (by kernel_rfl) (by kernel_rfl) (fun _ _ _ h => h) (Or.inr ⟨by rfl, rfl⟩) hHeld ?_
                  try simp only [Act.put, List.setIfInBounds_toArray, List.set_cons_zero, List.set_cons_succ]
                  refine wpAnyH_take (i := 38) (oi := { dst := some 76, op := Op.move (Operand.tmp 7), type := 3, pos := "ref.go:153", after := #[{ on := 36, ground := Ground.guard }], guard := some (36, true) }) (v := undef) rfl (by kernel_rfl) (by kernel_rfl) (by kernel_rfl) (fun _ _ _ h => h) (Or.inr ⟨by rfl, rfl⟩) hHeld ?_
                  try simp only [Act.put, List.setIfInBounds_toArray, List.set_cons_zero, List.set_cons_succ]
                  refine wpAnyH_take (i := 39) (oi := { dst := some 77, op := Op.indexAddr 38 (Operand.tmp 75) (Operand.tmp 76), type := 0, pos := "ref.go:153", after := #[{ on := 37, ground := Ground.data }, { on := 38, ground := Ground.data }, { on := 36, ground := Ground.guard }], guard := some (36, true) }) (v := undef) rfl (by kernel_rfl) (by kernel_rfl) (by kernel_rfl) (fun _ _ _ h => h) (Or.inr ⟨by rfl, rfl⟩) hHeld ?_
                  try simp only [Act.put, List.setIfInBounds_toArray, List.set_cons_zero, List.set_cons_succ]
                  refine wpAnyH_take (i := 40) (oi := { dst := some 78, op := Op.fieldAddr 53 (Operand.tmp 77) 3, type := 0, pos := "ref.go:153", after := #[{ on := 39, ground := Ground.data }, { on := 36, ground := Ground.guard }], guard := some (36, true) }) (v := undef) rfl (by kernel_rfl) (by kernel_rfl) (by kernel_rfl) (fun _ _ _ h => h) (Or.inr ⟨by rfl, rfl⟩) hHeld ?_
                  try simp only [Act.put, List.setIfInBounds_toArray, List.set_cons_zero, List.set_cons_succ]
                  refine wpAnyH_take (i := 41) (oi := { dst := some 79, op := Op.load 9 (Operand.tmp 78), type := 9, pos := "ref.go:153", after := #[{ on := 40, ground := Ground.data }, { on := 36, ground := Ground.guard }], guard := some (36, true) }) (v := undef) rfl (by kernel_rfl) (by kernel_rfl) (by kernel_rfl) (fun _ _ _ h => h) (Or.inr ⟨by rfl, rfl⟩) hHeld ?_
                  try simp only [Act.put, List.setIfInBounds_toArray, List.set_cons_zero, List.set_cons_succ]
                  refine wpAnyH_take (i := 42) (oi := { dst := some 80, op := Op.call { callee := Callee.value (Operand.func 28), args := #[], argTypes := #[] }, type := 9, pos := "ref.go:153", after := #[{ on := 36, ground := Ground.chain }, { on := 36, ground := Ground.guard }], guard := some (36, true) }) (v := undef) rfl (by kernel_rfl) (by kernel_rfl) (by kernel_rfl) (fun _ _ _ h => h) (Or.inr ⟨by rfl, rfl⟩) hHeld ?_
                  try simp only [Act.put, List.setIfInBounds_toArray, List.set_cons_zero, List.set_cons_succ]
                  refine wpAnyH_take (i := 43) (oi := { dst := some 81, op := Op.binOp BinOp.neq 9 (Operand.tmp 79) (Operand.tmp 80) 9, type := 4, pos := "ref.go:153", after := #[{ on := 41, ground := Ground.data }, { on := 42, ground := Ground.data }, { on := 36, ground := Ground.guard }], guard := some (36, true) }) (v := undef) rfl (by kernel_rfl) (by kernel_rfl) (by kernel_rfl) (fun _ _ _ h => h) (Or.inr ⟨by rfl, rfl⟩) hHeld ?_
                  try simp only [Act.put, List.setIfInBounds_toArray, List.set_cons_zero, List.set_cons_succ]
                  refine wpAnyH_take (i := 44) (oi := { dst := some 82, op := Op.pick (Operand.tmp 74) (Operand.tmp 81) (Operand.const (Value.bool false)), type := 4, pos := "ref.go:153", after := #[{ on := 36, ground := Ground.data }, { on := 43, ground := Ground.data }, { on := 33, ground := Ground.guard }], guard := some (33, false) }) (v := ?_) rfl (by kernel_rfl) (by kernel_rfl) (by kernel_rfl) (fun _ _ _ h => h) (Or.inl ⟨by rfl, ?_⟩) hHeld ?_
                  rotate_left
                  · intro w hSw
                    try dsimp only at hSw
                    go_simp
                    with_reducible rfl
                  try simp only [Act.put, List.setIfInBounds_toArray, List.set_cons_zero, List.set_cons_succ]
                  refine wpAnyH_take (i := 45) (oi := { dst := some 83, op := Op.pick (Operand.tmp 71) (Operand.const (Value.bool true)) (Operand.tmp 82), type := 4, pos := "ref.go:153", after := #[{ on := 33, ground := Ground.data }, { on := 44, ground := Ground.data }], guard := none }) (v := ?_) rfl (by kernel_rfl) (by kernel_rfl) (by kernel_rfl) (fun _ _ _ h => h) (Or.inl ⟨by rfl, ?_⟩) hHeld ?_
                  rotate_left
                  · intro w hSw
                    try dsimp only at hSw
                    go_simp
                    with_reducible rfl
                  try simp only [Act.put, List.setIfInBounds_toArray, List.set_cons_zero, List.set_cons_succ]
                  refine wpAnyH_done (by kernel_rfl) ?_ _
                  refine NoPanic.normal ?_
                  obtain ⟨-, -, -, -, -, -, -, -, HO2, L⟩ := hHeld
                  go_wp2_with fail
                  go_meet
                  exact ⟨by rw [HR.out]; rfl, HO2, L⟩
              · obtain ⟨j, hj⟩ : ∃ j : Nat, (i : Int) - 1 = (j : Int) := ⟨i - 1, by omega⟩
                have hij : i = j + 1 := by omega
                have d5 : decide ((0 : Int) < (i : Int)) = true := decide_eq_true (by omega)
                have d5n : decide (0 < i) = true := decide_eq_true (by omega)
                obtain ⟨p, hp⟩ : ∃ p, xss[j]? = some p := ⟨xss[j]'(by omega), List.getElem?_eq_getElem _⟩
                have hpr := gdS_range hp (HG.out j (by omega))
                have xp : wr.cell? ⟨g, o + j * 7, none⟩ = some (.int .i64 p.l) := HP.out j p hp
                have l3 : (j : Int) < (n : Int) := by omega
                have l3n : j < n := by omega
                have hjw2 : IntKind.i64.wrap (j : Int) = (j : Int) := IntWalk.i64_in _ (by omega)
                have KI : ∀ w : World, (Instr.indexAt 38 (.slice (some ⟨g, o, none⟩) n cap) (.int .i64 (j : Int))).run Try.prog w = .ok (.pointer (some ⟨g, o + j * 7, none⟩)) w := fun w => by simp [go_sem, l3, Addr.add]
                have hjw : IntKind.i64.wrap ((i : Int) - 1) = (j : Int) := by rw [hj]; exact IntWalk.i64_in _ (by omega)
                have q7 : IntKind.i64.wrap (p.l + 1) = p.l + 1 := IntWalk.i64_in _ (by omega)
                have HGn : Hid (¬ usr s i = true → ¬ xd = zeroS → gdS s xss i = false) := fun h1 h2 => gdS_no3 Hx.out h1 h2
                have HGo : Hid (xl = p.l + 1 → (usr s i = true ∨ xd = zeroS) → gdS s xss i = true) := fun hlp h => gdS_yes Hx.out HV.out (.inr ⟨j, p, hij, hp, hlp⟩) h
                have HG2 : Hid (¬ xl = p.l + 1 → gdS s xss i = false) := fun hlp => gdS_no2 Hx.out hij hp hlp
                generalize p.l = pl at *
                clear HP hpr hij hp hi0
                have hS := And.intro x0 (And.intro x1 (And.intro x2 (And.intro x3 (And.intro x4 (And.intro x5 (And.intro x6 (And.intro xp (And.intro HOW.out hbel))))))))
                clear x0 x1 x2 x3 x4 x5 x6 xp
                refine wp_region_noPanic ?_
                refine wp_region_held_drew (S := (fun w' => w'.cell? ⟨g, o + i * 7, none⟩ = some (.int .i64 xl) ∧ w'.cell? ⟨g, o + i * 7 + 1, none⟩ = some (.int .i64 0) ∧ w'.cell? ⟨g, o + i * 7 + 2, none⟩ = some (.int .i64 0) ∧ w'.cell? ⟨g, o + i * 7 + 3, none⟩ = some (.int .i64 0) ∧ w'.cell? ⟨g, o + i * 7 + 4, none⟩ = some (.int .i64 0) ∧ w'.cell? ⟨g, o + i * 7 + 5, none⟩ = some (.int .i64 0) ∧ w'.cell? ⟨g, o + i * 7 + 6, none⟩ = some (.string xd) ∧ w'.cell? ⟨g, o + j * 7, none⟩ = some (.int .i64 pl) ∧ w'.ownsRow w.heap.size 9 1 u6 (colX s xss i).length (strV (colX s xss i)) ∧ Below w.heap.size w w')) (by kernel_rfl) (cx_keep hS (bdrew (Below.refl _ _))) (fun hHeld => ?_)
                refine wpAnyH_take (i := 0) (oi := { dst := some 38, op := Op.move (Operand.tmp 1), type := 38, pos := "ref.go:153", after := #[], guard := none }) (v := ?_) rfl (by kernel_rfl) (by kernel_rfl) (by kernel_rfl) (fun _ _ _ h => h) (Or.inl ⟨by rfl, ?_⟩) hHeld ?_
                rotate_left
                · intro w hSw
                  try dsimp only at hSw
                  go_simp
                  with_reducible rfl
                try simp only [Act.put, List.setIfInBounds_toArray, List.set_cons_zero, List.set_cons_succ]
                refine wpAnyH_take (i := 1) (oi := { dst := some 39, op := Op.move (Operand.tmp 7), type := 3, pos := "ref.go:153", after := #[], guard := none }) (v := ?_) rfl (by kernel_rfl) (by kernel_rfl) (by kernel_rfl) (fun _ _ _ h => h) (Or.inl ⟨by rfl, ?_⟩) hHeld ?_
                rotate_left
                · intro w hSw
                  try dsimp only at hSw
                  go_simp
                  with_reducible rfl
                try simp only [Act.put, List.setIfInBounds_toArray, List.set_cons_zero, List.set_cons_succ]
                refine wpAnyH_take (i := 2) (oi := { dst := some 40, op := Op.indexAddr 38 (Operand.tmp 38) (Operand.tmp 39), type := 0, pos := "ref.go:153", after := #[{ on := 0, ground := Ground.data }, { on := 1, ground := Ground.data }], guard := none }) (v := ?_) rfl (by kernel_rfl) (by kernel_rfl) (by kernel_rfl) (fun _ _ _ h => h) (Or.inl ⟨by rfl, ?_⟩) hHeld ?_
                rotate_left
                · intro w hSw
                  try dsimp only at hSw
                  go_simp
                  with_reducible rfl
                try simp only [Act.put, List.setIfInBounds_toArray, List.set_cons_zero, List.set_cons_succ]
                refine wpAnyH_take (i := 3) (oi := { dst := some 41, op := Op.load 53 (Operand.tmp 40), type := 53, pos := "ref.go:153", after := #[{ on := 2, ground := Ground.data }], guard := none }) (v := ?_) rfl (by kernel_rfl) (by kernel_rfl) (by kernel_rfl) (fun _ _ _ h => h) (Or.inl ⟨by rfl, ?_⟩) hHeld ?_
                rotate_left
                · intro w hSw
                  try dsimp only at hSw
                  go_simp
                  with_reducible rfl
                try simp only [Act.put, List.setIfInBounds_toArray, List.set_cons_zero, List.set_cons_succ]
                refine wpAnyH_ready (rs := [4]) (by kernel_rfl) (by simp) ?_
                refine AllReadyH.cons (o := { dst := some 42, op := Op.call { callee := Callee.value (Operand.func 39), args := #[Operand.tmp 41], argTypes := #[53] }, type := 4, pos := "ref.go:153", after := #[{ on := 3, ground := Ground.data }], guard := none }) rfl (fun K hK => ?_) AllReadyH.nil
                go_simp
                go_at_call 39
                refine (hVd.out _).mono ?_
                rintro e w2 ⟨rfl, hb⟩
                go_wp2_with fail
                refine hK.out _ _ (cx_keep hHeld hb) (fun hHeld => ?_)
                clear hK K hb
                try simp only [Act.put, List.setIfInBounds_toArray, List.set_cons_zero, List.set_cons_succ]
                refine wpAnyH_take (i := 5) (oi := { dst := some 43, op := Op.unOp UnOp.not 4 (Operand.tmp 42), type := 4, pos := "ref.go:153", after := #[{ on := 4, ground := Ground.data }], guard := none }) (v := ?_) rfl (by kernel_rfl) (by kernel_rfl) (by kernel_rfl) (fun _ _ _ h => h) (Or.inl ⟨by rfl, ?_⟩) hHeld ?_
                rotate_left
                · intro w hSw
                  try dsimp only at hSw
                  go_simp
                  with_reducible rfl
                try simp only [Act.put, List.setIfInBounds_toArray, List.set_cons_zero, List.set_cons_succ]
                refine wpAnyH_take (i := 6) (oi := { dst := some 44, op := Op.move (Operand.tmp 43), type := 4, pos := "ref.go:153", after := #[{ on := 5, ground := Ground.data }, { on := 4, ground := Ground.chain }], guard := none }) (v := ?_) rfl (by kernel_rfl) (by kernel_rfl) (by kernel_rfl) (fun _ _ _ h => h) (Or.inl ⟨by rfl, ?_⟩) hHeld ?_
                rotate_left
                · intro w hSw
                  try dsimp only at hSw
                  go_simp
                  with_reducible rfl
                try simp only [Act.put, List.setIfInBounds_toArray, List.set_cons_zero, List.set_cons_succ]
                refine wpAnyH_take (i := 7) (oi := { dst := some 45, op := Op.move (Operand.tmp 1), type := 38, pos := "ref.go:153", after := #[{ on := 6, ground := Ground.guard }], guard := some (6, false) }) (v := ?_) rfl (by kernel_rfl) (by kernel_rfl) (by kernel_rfl) (fun _ _ _ h => h) (Or.inl ⟨by rfl, ?_⟩) hHeld ?_
                rotate_left
                · intro w hSw
                  try dsimp only at hSw
                  go_simp
                  with_reducible rfl
                try simp only [Act.put, List.setIfInBounds_toArray, List.set_cons_zero, List.set_cons_succ]
                refine wpAnyH_take (i := 8) (oi := { dst := some 46, op := Op.move (Operand.tmp 7), type := 3, pos := "ref.go:153", after := #[{ on := 6, ground := Ground.guard }], guard := some (6, false) }) (v := ?_) rfl (by kernel_rfl) (by kernel_rfl) (by kernel_rfl) (fun _ _ _ h => h) (Or.inl ⟨by rfl, ?_⟩) hHeld ?_
                rotate_left
                · intro w hSw
                  try dsimp only at hSw
                  go_simp
                  with_reducible rfl
                try simp only [Act.put, List.setIfInBounds_toArray, List.set_cons_zero, List.set_cons_succ]
                refine wpAnyH_take (i := 9) (oi := { dst := some 47, op := Op.indexAddr 38 (Operand.tmp 45) (Operand.tmp 46), type := 0, pos := "ref.go:153", after := #[{ on := 7, ground := Ground.data }, { on := 8, ground := Ground.data }, { on := 6, ground := Ground.guard }], guard := some (6, false) }) (v := ?_) rfl (by kernel_rfl) (by kernel_rfl) (by kernel_rfl) (fun _ _ _ h => h) (Or.inl ⟨by rfl, ?_⟩) hHeld ?_
                rotate_left
                · intro w hSw
                  try dsimp only at hSw
                  go_simp
                  with_reducible rfl
                try simp only [Act.put, List.setIfInBounds_toArray, List.set_cons_zero, List.set_cons_succ]
                refine wpAnyH_take (i := 10) (oi := { dst := some 48, op := Op.fieldAddr 53 (Operand.tmp 47) 1, type := 0, pos := "ref.go:153", after := #[{ on := 9, ground := Ground.data }, { on := 6, ground := Ground.guard }], guard := some (6, false) }) (v := ?_) rfl (by kernel_rfl) (by kernel_rfl) (by kernel_rfl) (fun _ _ _ h => h) (Or.inl ⟨by rfl, ?_⟩) hHeld ?_
                rotate_left
                · intro w hSw
                  try dsimp only at hSw
                  go_simp
                  with_reducible rfl
                try simp only [Act.put, List.setIfInBounds_toArray, List.set_cons_zero, List.set_cons_succ]
                refine wpAnyH_take (i := 11) (oi := { dst := some 49, op := Op.load 3 (Operand.tmp 48), type := 3, pos := "ref.go:153", after := #[{ on := 10, ground := Ground.data }, { on := 6, ground := Ground.guard }], guard := some (6, false) }) (v := ?_) rfl (by kernel_rfl) (by kernel_rfl) (by kernel_rfl) (fun _ _ _ h => h) (Or.inl ⟨by rfl, ?_⟩) hHeld ?_
                rotate_left
                · intro w hSw
                  try dsimp only at hSw
                  go_simp
                  with_reducible rfl
                try simp only [Act.put, List.setIfInBounds_toArray, List.set_cons_zero, List.set_cons_succ]
                refine wpAnyH_take (i := 12) (oi := { dst := some 50, op := Op.binOp BinOp.neq 3 (Operand.tmp 49) (Operand.const (Value.int IntKind.i64 0)) 3, type := 4, pos := "ref.go:153", after := #[{ on := 11, ground := Ground.data }, { on := 6, ground := Ground.guard }], guard := some (6, false) }) (v := ?_) rfl (by kernel_rfl) (by kernel_rfl) (by kernel_rfl) (fun _ _ _ h => h) (Or.inl ⟨by rfl, ?_⟩) hHeld ?_
                rotate_left
                · intro w hSw
                  try dsimp only at hSw
                  go_simp
                  with_reducible rfl
                try simp only [Act.put, List.setIfInBounds_toArray, List.set_cons_zero, List.set_cons_succ]
                refine wpAnyH_take (i := 13) (oi := { dst := some 51, op := Op.pick (Operand.tmp 44) (Operand.const (Value.bool true)) (Operand.tmp 50), type := 4, pos := "ref.go:153", after := #[{ on := 6, ground := Ground.data }, { on := 12, ground := Ground.data }], guard := none }) (v := ?_) rfl (by kernel_rfl) (by kernel_rfl) (by kernel_rfl) (fun _ _ _ h => h) (Or.inl ⟨by rfl, ?_⟩) hHeld ?_
                rotate_left
                · intro w hSw
                  try dsimp only at hSw
                  go_simp
                  with_reducible rfl
                try simp only [Act.put, List.setIfInBounds_toArray, List.set_cons_zero, List.set_cons_succ]
                refine wpAnyH_take (i := 14) (oi := { dst := some 52, op := Op.move (Operand.tmp 51), type := 4, pos := "ref.go:153", after := #[{ on := 13, ground := Ground.data }, { on := 6, ground := Ground.chain }], guard := none }) (v := ?_) rfl (by kernel_rfl) (by kernel_rfl) (by kernel_rfl) (fun _ _ _ h => h) (Or.inl ⟨by rfl, ?_⟩) hHeld ?_
                rotate_left
                · intro w hSw
                  try dsimp only at hSw
                  go_simp
                  with_reducible rfl
                try simp only [Act.put, List.setIfInBounds_toArray, List.set_cons_zero, List.set_cons_succ]
                refine wpAnyH_take (i := 15) (oi := { dst := some 53, op := Op.move (Operand.tmp 7), type := 3, pos := "ref.go:153", after := #[{ on := 14, ground := Ground.guard }], guard := some (14, false) }) (v := ?_) rfl (by kernel_rfl) (by kernel_rfl) (by kernel_rfl) (fun _ _ _ h => h) (Or.inl ⟨by rfl, ?_⟩) hHeld ?_
                rotate_left
                · intro w hSw
                  try dsimp only at hSw
                  go_simp
                  with_reducible rfl
                try simp only [Act.put, List.setIfInBounds_toArray, List.set_cons_zero, List.set_cons_succ]
                refine wpAnyH_take (i := 16) (oi := { dst := some 54, op := Op.binOp BinOp.gtr 3 (Operand.tmp 53) (Operand.const (Value.int IntKind.i64 0)) 3, type := 4, pos := "ref.go:153", after := #[{ on := 15, ground := Ground.data }, { on := 14, ground := Ground.guard }], guard := some (14, false) }) (v := ?_) rfl (by kernel_rfl) (by kernel_rfl) (by kernel_rfl) (fun _ _ _ h => h) (Or.inl ⟨by rfl, ?_⟩) hHeld ?_
                rotate_left
                · intro w hSw
                  try dsimp only at hSw
                  go_simp
                  with_reducible rfl
                try simp only [Act.put, List.setIfInBounds_toArray, List.set_cons_zero, List.set_cons_succ]
                refine wpAnyH_take (i := 17) (oi := { dst := some 55, op := Op.move (Operand.tmp 54), type := 4, pos := "ref.go:153", after := #[{ on := 16, ground := Ground.data }, { on := 14, ground := Ground.chain }, { on := 14, ground := Ground.guard }], guard := some (14, false) }) (v := ?_) rfl (by kernel_rfl) (by kernel_rfl) (by kernel_rfl) (fun _ _ _ h => h) (Or.inl ⟨by rfl, ?_⟩) hHeld ?_
                rotate_left
                · intro w hSw
                  try dsimp only at hSw
                  go_simp
                  with_reducible rfl
                try simp only [Act.put, List.setIfInBounds_toArray, List.set_cons_zero, List.set_cons_succ]
                refine wpAnyH_take (i := 18) (oi := { dst := some 56, op := Op.move (Operand.tmp 1), type := 38, pos := "ref.go:153", after := #[{ on := 17, ground := Ground.guard }], guard := some (17, true) }) (v := ?_) rfl (by kernel_rfl) (by kernel_rfl) (by kernel_rfl) (fun _ _ _ h => h) (Or.inl ⟨by rfl, ?_⟩) hHeld ?_
                rotate_left
                · intro w hSw
                  try dsimp only at hSw
                  go_simp
                  with_reducible rfl
                try simp only [Act.put, List.setIfInBounds_toArray, List.set_cons_zero, List.set_cons_succ]
                refine wpAnyH_take (i := 19) (oi := { dst := some 57, op := Op.move (Operand.tmp 7), type := 3, pos := "ref.go:153", after := #[{ on := 17, ground := Ground.guard }], guard := some (17, true) }) (v := ?_) rfl (by kernel_rfl) (by kernel_rfl) (by kernel_rfl) (fun _ _ _ h => h) (Or.inl ⟨by rfl, ?_⟩) hHeld ?_
                rotate_left
                · intro w hSw
                  try dsimp only at hSw
                  go_simp
                  with_reducible rfl
                try simp only [Act.put, List.setIfInBounds_toArray, List.set_cons_zero, List.set_cons_succ]
                refine wpAnyH_take (i := 20) (oi := { dst := some 58, op := Op.indexAddr 38 (Operand.tmp 56) (Operand.tmp 57), type := 0, pos := "ref.go:153", after := #[{ on := 18, ground := Ground.data }, { on := 19, ground := Ground.data }, { on := 17, ground := Ground.guard }], guard := some (17, true) }) (v := ?_) rfl (by kernel_rfl) (by kernel_rfl) (by kernel_rfl) (fun _ _ _ h => h) (Or.inl ⟨by rfl, ?_⟩) hHeld ?_
                rotate_left
                · intro w hSw
                  try dsimp only at hSw
                  go_simp
                  with_reducible rfl
                try simp only [Act.put, List.setIfInBounds_toArray, List.set_cons_zero, List.set_cons_succ]
                refine wpAnyH_take (i := 21) (oi := { dst := some 59, op := Op.fieldAddr 53 (Operand.tmp 58) 0, type := 0, pos := "ref.go:153", after := #[{ on := 20, ground := Ground.data }, { on := 17, ground := Ground.guard }], guard := some (17, true) }) (v := ?_) rfl (by kernel_rfl) (by kernel_rfl) (by kernel_rfl) (fun _ _ _ h => h) (Or.inl ⟨by rfl, ?_⟩) hHeld ?_
                rotate_left
                · intro w hSw
                  try dsimp only at hSw
                  go_simp
                  with_reducible rfl
                try simp only [Act.put, List.setIfInBounds_toArray, List.set_cons_zero, List.set_cons_succ]
                refine wpAnyH_take (i := 22) (oi := { dst := some 60, op := Op.load 3 (Operand.tmp 59), type := 3, pos := "ref.go:153", after := #[{ on := 21, ground := Ground.data }, { on := 17, ground := Ground.guard }], guard := some (17, true) }) (v := ?_) rfl (by kernel_rfl) (by kernel_rfl) (by kernel_rfl) (fun _ _ _ h => h) (Or.inl ⟨by rfl, ?_⟩) hHeld ?_
                rotate_left
                · intro w hSw
                  try dsimp only at hSw
                  go_simp
                  with_reducible rfl
                try simp only [Act.put, List.setIfInBounds_toArray, List.set_cons_zero, List.set_cons_succ]
                refine wpAnyH_take (i := 23) (oi := { dst := some 61, op := Op.move (Operand.tmp 1), type := 38, pos := "ref.go:153", after := #[{ on := 17, ground := Ground.guard }], guard := some (17, true) }) (v := ?_) rfl (by kernel_rfl) (by kernel_rfl) (by kernel_rfl) (fun _ _ _ h => h) (Or.inl ⟨by rfl, ?_⟩) hHeld ?_
                rotate_left
                · intro w hSw
                  try dsimp only at hSw
                  go_simp
                  with_reducible rfl
                try simp only [Act.put, List.setIfInBounds_toArray, List.set_cons_zero, List.set_cons_succ]
                refine wpAnyH_take (i := 24) (oi := { dst := some 62, op := Op.move (Operand.tmp 7), type := 3, pos := "ref.go:153", after := #[{ on := 17, ground := Ground.guard }], guard := some (17, true) }) (v := ?_) rfl (by kernel_rfl) (by kernel_rfl) (by kernel_rfl) (fun _ _ _ h => h) (Or.inl ⟨by rfl, ?_⟩) hHeld ?_
                rotate_left
                · intro w hSw
                  try dsimp only at hSw
                  go_simp
                  with_reducible rfl
                try simp only [Act.put, List.setIfInBounds_toArray, List.set_cons_zero, List.set_cons_succ]
                refine wpAnyH_take (i := 25) (oi := { dst := some 63, op := Op.binOp BinOp.sub 3 (Operand.tmp 62) (Operand.const (Value.int IntKind.i64 1)) 3, type := 3, pos := "ref.go:153", after := #[{ on := 24, ground := Ground.data }, { on := 17, ground := Ground.guard }], guard := some (17, true) }) (v := ?_) rfl (by kernel_rfl) (by kernel_rfl) (by kernel_rfl) (fun _ _ _ h => h) (Or.inl ⟨by rfl, ?_⟩) hHeld ?_
                rotate_left
                · intro w hSw
                  try dsimp only at hSw
                  go_simp
                  with_reducible rfl
                try simp only [Act.put, List.setIfInBounds_toArray, List.set_cons_zero, List.set_cons_succ]
                refine wpAnyH_take (i := 26) (oi := { dst := some 64, op := Op.indexAddr 38 (Operand.tmp 61) (Operand.tmp 63), type := 0, pos := "ref.go:153", after := #[{ on := 23, ground := Ground.data }, { on := 25, ground := Ground.data }, { on := 17, ground := Ground.guard }], guard := some (17, true) }) (v := ?_) rfl (by kernel_rfl) (by kernel_rfl) (by kernel_rfl) (fun _ _ _ h => h) (Or.inl ⟨by rfl, ?_⟩) hHeld ?_
                rotate_left
                · intro w hSw
                  try dsimp only at hSw
                  go_simp
                  with_reducible rfl
                try simp only [Act.put, List.setIfInBounds_toArray, List.set_cons_zero, List.set_cons_succ]
                refine wpAnyH_take (i := 27) (oi := { dst := some 65, op := Op.fieldAddr 53 (Operand.tmp 64) 0, type := 0, pos := "ref.go:153", after := #[{ on := 26, ground := Ground.data }, { on := 17, ground := Ground.guard }], guard := some (17, true) }) (v := ?_) rfl (by kernel_rfl) (by kernel_rfl) (by kernel_rfl) (fun _ _ _ h => h) (Or.inl ⟨by rfl, ?_⟩) hHeld ?_
                rotate_left
                · intro w hSw
                  try dsimp only at hSw
                  go_simp
                  with_reducible rfl
                try simp only [Act.put, List.setIfInBounds_toArray, List.set_cons_zero, List.set_cons_succ]
                refine wpAnyH_take (i := 28) (oi := { dst := some 66, op := Op.load 3 (Operand.tmp 65), type := 3, pos := "ref.go:153", after := #[{ on := 27, ground := Ground.data }, { on := 17, ground := Ground.guard }], guard := some (17, true) }) (v := ?_) rfl (by kernel_rfl) (by kernel_rfl) (by kernel_rfl) (fun _ _ _ h => h) (Or.inl ⟨by rfl, ?_⟩) hHeld ?_
                rotate_left
                · intro w hSw
                  try dsimp only at hSw
                  go_simp
                  with_reducible rfl
                try simp only [Act.put, List.setIfInBounds_toArray, List.set_cons_zero, List.set_cons_succ]
                refine wpAnyH_take (i := 29) (oi := { dst := some 67, op := Op.binOp BinOp.add 3 (Operand.tmp 66) (Operand.const (Value.int IntKind.i64 1)) 3, type := 3, pos := "ref.go:153", after := #[{ on := 28, ground := Ground.data }, { on := 17, ground := Ground.guard }], guard := some (17, true) }) (v := ?_) rfl (by kernel_rfl) (by kernel_rfl) (by kernel_rfl) (fun _ _ _ h => h) (Or.inl ⟨by rfl, ?_⟩) hHeld ?_
                rotate_left
                · intro w hSw
                  try dsimp only at hSw
                  go_simp
                  with_reducible rfl
                try simp only [Act.put, List.setIfInBounds_toArray, List.set_cons_zero, List.set_cons_succ]
                by_cases hlp : xl = pl + 1
                · have q6 : (xl != pl + 1) = false := by rw [hlp]; exact bne_self_eq_false _
                  have HGo := hid (HGo.out hlp)
                  clear hlp HG2
                  refine wpAnyH_take (i := 30) (oi := { dst := some 68, op := Op.binOp BinOp.neq 3 (Operand.tmp 60) (Operand.tmp 67) 3, type := 4, pos := "ref.go:153", after := #[{ on := 22, ground := Ground.data }, { on := 29, ground := Ground.data }, { on := 17, ground := Ground.guard }], guard := some (17, true) }) (v := ?_) rfl (by kernel_rfl) (by kernel_rfl) (by kernel_rfl) (fun _ _ _ h => h) (Or.inl ⟨by rfl, ?_⟩) hHeld ?_
                  rotate_left
                  · intro w hSw
                    try dsimp only at hSw
                    go_simp
                    with_reducible rfl
                  try simp only [Act.put, List.setIfInBounds_toArray, List.set_cons_zero, List.set_cons_succ]
                  refine wpAnyH_take (i := 31) (oi := { dst := some 69, op := Op.pick (Operand.tmp 55) (Operand.tmp 68) (Operand.const (Value.bool false)), type := 4, pos := "ref.go:153", after := #[{ on := 17, ground := Ground.data }, { on := 30, ground := Ground.data }, { on := 14, ground := Ground.guard }], guard := some (14, false) }) (v := ?_) rfl (by kernel_rfl) (by kernel_rfl) (by kernel_rfl) (fun _ _ _ h => h) (Or.inl ⟨by rfl, ?_⟩) hHeld ?_
                  rotate_left
                  · intro w hSw
                    try dsimp only at hSw
                    go_simp
                    with_reducible rfl
                  try simp only [Act.put, List.setIfInBounds_toArray, List.set_cons_zero, List.set_cons_succ]
                  refine wpAnyH_take (i := 32) (oi := { dst := some 70, op := Op.pick (Operand.tmp 52) (Operand.const (Value.bool true)) (Operand.tmp 69), type := 4, pos := "ref.go:153", after := #[{ on := 14, ground := Ground.data }, { on := 31, ground := Ground.data }], guard := none }) (v := ?_) rfl (by kernel_rfl) (by kernel_rfl) (by kernel_rfl) (fun _ _ _ h => h) (Or.inl ⟨by rfl, ?_⟩) hHeld ?_
                  rotate_left
                  · intro w hSw
                    try dsimp only at hSw
                    go_simp
                    with_reducible rfl
                  try simp only [Act.put, List.setIfInBounds_toArray, List.set_cons_zero, List.set_cons_succ]
                  refine wpAnyH_take (i := 33) (oi := { dst := some 71, op := Op.move (Operand.tmp 70), type := 4, pos := "ref.go:153", after := #[{ on := 32, ground := Ground.data }, { on := 17, ground := Ground.chain }], guard := none }) (v := ?_) rfl (by kernel_rfl) (by kernel_rfl) (by kernel_rfl) (fun _ _ _ h => h) (Or.inl ⟨by rfl, ?_⟩) hHeld ?_
                  rotate_left
                  · intro w hSw
                    try dsimp only at hSw
                    go_simp
                    with_reducible rfl
                  try simp only [Act.put, List.setIfInBounds_toArray, List.set_cons_zero, List.set_cons_succ]
                  cases U
                  · have HNU := hid (show ¬ usr s i = true by rw [← HU.out]; decide)
                    refine wpAnyH_take (i := 34) (oi := { dst := some 72, op := Op.move (Operand.tmp 9), type := 4, pos := "ref.go:153", after := #[{ on := 33, ground := Ground.guard }], guard := some (33, false) }) (v := ?_) rfl (by kernel_rfl) (by kernel_rfl) (by kernel_rfl) (fun _ _ _ h => h) (Or.inl ⟨by rfl, ?_⟩) hHeld ?_
                    rotate_left
                    · intro w hSw
                      try dsimp only at hSw
                      go_simp
                      with_reducible rfl
                    try simp only [Act.put, List.setIfInBounds_toArray, List.set_cons_zero, List.set_cons_succ]
                    refine wpAnyH_take (i := 35) (oi := { dst := some 73, op := Op.unOp UnOp.not 4 (Operand.tmp 72), type := 4, pos := "ref.go:153", after := #[{ on := 34, ground := Ground.data }, { on := 33, ground := Ground.guard }], guard := some (33, false) }) (v := ?_) rfl (by kernel_rfl) (by kernel_rfl) (by kernel_rfl) (fun _ _ _ h => h) (Or.inl ⟨by rfl, ?_⟩) hHeld ?_
                    rotate_left
                    · intro w hSw
                      try dsimp only at hSw
                      go_simp
                      with_reducible rfl
                    try simp only [Act.put, List.setIfInBounds_toArray, List.set_cons_zero, List.set_cons_succ]
                    refine wpAnyH_take (i := 36) (oi := { dst := some 74, op := Op.move (Operand.tmp 73), type := 4, pos := "ref.go:153", after := #[{ on := 35, ground := Ground.data }, { on := 33, ground := Ground.chain }, { on := 33, ground := Ground.guard }], guard := some (33, false) }) (v := ?_) rfl (by kernel_rfl) (by kernel_rfl) (by kernel_rfl) (fun _ _ _ h => h) (Or.inl ⟨by rfl, ?_⟩) hHeld ?_
                    rotate_left
                    · intro w hSw
                      try dsimp only at hSw
                      go_simp
                      with_reducible rfl
                    try simp only [Act.put, List.setIfInBounds_toArray, List.set_cons_zero, List.set_cons_succ]
                    refine wpAnyH_take (i := 37) (oi := { dst := some 75, op := Op.move (Operand.tmp 1), type := 38, pos := "ref.go:153", after := #[{ on := 36, ground := Ground.guard }], guard := some (36, true) }) (v := ?_) rfl (by kernel_rfl) (by kernel_rfl) (by kernel_rfl) (fun _ _ _ h => h) (Or.inl ⟨by rfl, ?_⟩) hHeld ?_
                    rotate_left
                    · intro w hSw
                      try dsimp only at hSw
                      go_simp
                      with_reducible rfl
                    try simp only [Act.put, List.setIfInBounds_toArray, List.set_cons_zero, List.set_cons_succ]
                    refine wpAnyH_take (i := 38) (oi := { dst := some 76, op := Op.move (Operand.tmp 7), type := 3, pos := "ref.go:153", after := #[{ on := 36, ground := Ground.guard }], guard := some (36, true) }) (v := ?_) rfl (by kernel_rfl) (by kernel_rfl) (by kernel_rfl) (fun _ _ _ h => h) (Or.inl ⟨by rfl, ?_⟩) hHeld ?_
                    rotate_left
                    · intro w hSw
                      try dsimp only at hSw
                      go_simp
                      with_reducible rfl
                    try simp only [Act.put, List.setIfInBounds_toArray, List.set_cons_zero, List.set_cons_succ]
                    refine wpAnyH_take (i := 39) (oi := { dst := some 77, op := Op.indexAddr 38 (Operand.tmp 75) (Operand.tmp 76), type := 0, pos := "ref.go:153", after := #[{ on := 37, ground := Ground.data }, { on := 38, ground := Ground.data }, { on := 36, ground := Ground.guard }], guard := some (36, true) }) (v := ?_) rfl (by kernel_rfl) (by kernel_rfl) (by kernel_rfl) (fun _ _ _ h => h) (Or.inl ⟨by rfl, ?_⟩) hHeld ?_
                    rotate_left
                    · intro w hSw
                      try dsimp only at hSw
                      go_simp
                      with_reducible rfl
                    try simp only [Act.put, List.setIfInBounds_toArray, List.set_cons_zero, List.set_cons_succ]
                    refine wpAnyH_take (i := 40) (oi := { dst := some 78, op := Op.fieldAddr 53 (Operand.tmp 77) 3, type := 0, pos := "ref.go:153", after := #[{ on := 39, ground := Ground.data }, { on := 36, ground := Ground.guard }], guard := some (36, true) }) (v := ?_) rfl (by kernel_rfl) (by kernel_rfl) (by kernel_rfl) (fun _ _ _ h => h) (Or.inl ⟨by rfl, ?_⟩) hHeld ?_
                    rotate_left
                    · intro w hSw
                      try dsimp only at hSw
                      go_simp
                      with_reducible rfl
                    try simp only [Act.put, List.setIfInBounds_toArray, List.set_cons_zero, List.set_cons_succ]
                    refine wpAnyH_take (i := 41) (oi := { dst := some 79, op := Op.load 9 (Operand.tmp 78), type := 9, pos := "ref.go:153", after := #[{ on := 40, ground := Ground.data }, { on := 36, ground := Ground.guard }], guard := some (36, true) }) (v := ?_) rfl (by kernel_rfl) (by kernel_rfl) (by kernel_rfl) (fun _ _ _ h => h) (Or.inl ⟨by rfl, ?_⟩) hHeld ?_
                    rotate_left
                    · intro w hSw
                      try dsimp only at hSw
                      go_simp
                      with_reducible rfl
                    try simp only [Act.put, List.setIfInBounds_toArray, List.set_cons_zero, List.set_cons_succ]
                    refine wpAnyH_ready (rs := [42]) (by kernel_rfl) (by simp) ?_
                    refine AllReadyH.cons (o := { dst := some 80, op := Op.call { callee := Callee.value (Operand.func 28), args := #[], argTypes := #[] }, type := 9, pos := "ref.go:153", after := #[{ on := 36, ground := Ground.chain }, { on := 36, ground := Ground.guard }], guard := some (36, true) }) rfl (fun K hK => ?_) AllReadyH.nil
                    go_simp
                    go_at_call 28
                    refine (HZ.out _).mono ?_
                    rintro e w2 ⟨rfl, hb⟩
                    go_wp2_with fail
                    refine hK.out _ _ (cx_keep hHeld hb) (fun hHeld => ?_)
                    clear hK K hb
                    try simp only [Act.put, List.setIfInBounds_toArray, List.set_cons_zero, List.set_cons_succ]
                    by_cases hdz : xd = zeroS
                    · have q9 : (xd.toList == zeroS.toList) = true := by rw [hdz]; exact beq_self_eq_true _
                      have q8 : (xd.toList != zeroS.toList) = false := by rw [hdz]; exact bne_self_eq_false _
                      have HR := hid (HGo.out (.inr hdz))
                      clear hdz
                      generalize zeroS = Zz at *
                      refine wpAnyH_take (i := 43) (oi := { dst := some 81, op := Op.binOp BinOp.neq 9 (Operand.tmp 79) (Operand.tmp 80) 9, type := 4, pos := "ref.go:153", after := #[{ on := 41, ground := Ground.data }, { on := 42, ground := Ground.data }, { on := 36, ground := Ground.guard }], guard := some (36, true) }) (v := ?_) rfl (by kernel_rfl) (by kernel_rfl) (by kernel_rfl) (fun _ _ _ h => h) (Or.inl ⟨by rfl, ?_⟩) hHeld ?_
                      rotate_left
                      · intro w hSw
                        try dsimp only at hSw
                        go_simp
                        with_reducible rfl
                      try simp only [Act.put, List.setIfInBounds_toArray, List.set_cons_zero, List.set_cons_succ]
                      refine wpAnyH_take (i := 44) (oi := { dst := some 82, op := Op.pick (Operand.tmp 74) (Operand.tmp 81) (Operand.const (Value.bool false)), type := 4, pos := "ref.go:153", after := #[{ on := 36, ground := Ground.data }, { on := 43, ground := Ground.data }, { on := 33, ground := Ground.guard }], guard := some (33, false) }) (v := ?_) rfl (by kernel_rfl) (by kernel_rfl) (by kernel_rfl) (fun _ _ _ h => h) (Or.inl ⟨by rfl, ?_⟩) hHeld ?_
                      rotate_left
                      · intro w hSw
                        try dsimp only at hSw
                        go_simp
                        with_reducible rfl
                      try simp only [Act.put, List.setIfInBounds_toArray, List.set_cons_zero, List.set_cons_succ]
                      refine wpAnyH_take (i := 45) (oi := { dst := some 83, op := Op.pick (Operand.tmp 71) (Operand.const (Value.bool true)) (Operand.tmp 82), type := 4, pos := "ref.go:153", after := #[{ on := 33, ground := Ground.data }, { on := 44, ground := Ground.data }], guard := none }) (v := ?_) rfl (by kernel_rfl) (by kernel_rfl) (by kernel_rfl) (fun _ _ _ h => h) (Or.inl ⟨by rfl, ?_⟩) hHeld ?_
                      rotate_left
                      · intro w hSw
                        try dsimp only at hSw
                        go_simp
                        with_reducible rfl
                      try simp only [Act.put, List.setIfInBounds_toArray, List.set_cons_zero, List.set_cons_succ]
                      refine wpAnyH_done (by kernel_rfl) ?_ _
                      refine NoPanic.normal ?_
                      obtain ⟨-, -, -, -, -, -, -, -, HO2, L⟩ := hHeld
                      go_wp2_with fail
                      go_meet
                      exact ⟨by rw [HR.out]; rfl, HO2, L⟩
                    · have q9 : (xd.toList == zeroS.toList) = false := beq_eq_false_iff_ne.2 (fun h => hdz (ba_inj h))
                      have q8 : (xd.toList != zeroS.toList) = true := bne_iff_ne.2 (fun h => hdz (ba_inj h))
                      have HR := hid (HGn.out HNU.out hdz)
                      clear hdz
                      generalize zeroS = Zz at *
                      refine wpAnyH_take (i := 43) (oi := { dst := some 81, op := Op.binOp BinOp.neq 9 (Operand.tmp 79) (Operand.tmp 80) 9, type := 4, pos := "ref.go:153", after := #[{ on := 41, ground := Ground.data }, { on := 42, ground := Ground.data }, { on := 36, ground := Ground.guard }], guard := some (36, true) }) (v := ?_) rfl (by kernel_rfl) (by kernel_rfl) (by kernel_rfl) (fun _ _ _ h => h) (Or.inl ⟨by rfl, ?_⟩) hHeld ?_
                      rotate_left
                      · intro w hSw
                        try dsimp only at hSw
                        go_simp
                        with_reducible rfl
                      try simp only [Act.put, List.setIfInBounds_toArray, List.set_cons_zero, List.set_cons_succ]
                      refine wpAnyH_take (i := 44) (oi := { dst := some 82, op := Op.pick (Operand.tmp 74) (Operand.tmp 81) (Operand.const (Value.bool false)), type := 4, pos := "ref.go:153", after := #[{ on := 36, ground := Ground.data }, { on := 43, ground := Ground.data }, { on := 33, ground := Ground.guard }], guard := some (33, false) }) (v := ?_) rfl (by kernel_rfl) (by kernel_rfl) (by kernel_rfl) (fun _ _ _ h => h) (Or.inl ⟨by rfl, ?_⟩) hHeld ?_
                      rotate_left
                      · intro w hSw
                        try dsimp only at hSw
                        go_simp
                        with_reducible rfl
                      try simp only [Act.put, List.setIfInBounds_toArray, List.set_cons_zero, List.set_cons_succ]
                      refine wpAnyH_take (i := 45) (oi := { dst := some 83, op := Op.pick (Operand.tmp 71) (Operand.const (Value.bool true)) (Operand.tmp 82), type := 4, pos := "ref.go:153", after := #[{ on := 33, ground := Ground.data }, { on := 44, ground := Ground.data }], guard := none }) (v := ?_) rfl (by kernel_rfl) (by kernel_rfl) (by kernel_rfl) (fun _ _ _ h => h) (Or.inl ⟨by rfl, ?_⟩) hHeld ?_
                      rotate_left
                      · intro w hSw
                        try dsimp only at hSw
                        go_simp
                        with_reducible rfl
                      try simp only [Act.put, List.setIfInBounds_toArray, List.set_cons_zero, List.set_cons_succ]
                      refine wpAnyH_done (by kernel_rfl) ?_ _
                      refine NoPanic.normal ?_
                      obtain ⟨-, -, -, -, -, -, -, -, HO2, L⟩ := hHeld
                      go_wp2_with fail
                      go_meet
                      exact ⟨by rw [HR.out]; rfl, HO2, L⟩
                  · have HR := hid (HGo.out (.inl (by rw [← HU.out])))
                    refine wpAnyH_take (i := 34) (oi := { dst := some 72, op := Op.move (Operand.tmp 9), type := 4, pos := "ref.go:153", after := #[{ on := 33, ground := Ground.guard }], guard := some (33, false) }) (v := ?_) rfl (by kernel_rfl) (by kernel_rfl) (by kernel_rfl) (fun _ _ _ h => h) (Or.inl ⟨by rfl, ?_⟩) hHeld ?_
                    rotate_left
                    · intro w hSw
                      try dsimp only at hSw
                      go_simp
                      with_reducible rfl
                    try simp only [Act.put, List.setIfInBounds_toArray, List.set_cons_zero, List.set_cons_succ]
                    refine wpAnyH_take (i := 35) (oi := { dst := some 73, op := Op.unOp UnOp.not 4 (Operand.tmp 72), type := 4, pos := "ref.go:153", after := #[{ on := 34, ground := Ground.data }, { on := 33, ground := Ground.guard }], guard := some (33, false) }) (v := ?_) rfl (by kernel_rfl) (by kernel_rfl) (by kernel_rfl) (fun _ _ _ h => h) (Or.inl ⟨by rfl, ?_⟩) hHeld ?_
                    rotate_left
                    · intro w hSw
                      try dsimp only at hSw
                      go_simp
                      with_reducible rfl
                    try simp only [Act.put, List.setIfInBounds_toArray, List.set_cons_zero, List.set_cons_succ]
                    refine wpAnyH_take (i := 36) (oi := { dst := some 74, op := Op.move (Operand.tmp 73), type := 4, pos := "ref.go:153", after := #[{ on := 35, ground := Ground.data }, { on := 33, ground := Ground.chain }, { on := 33, ground := Ground.guard }], guard := some (33, false) }) (v := ?_) rfl (by kernel_rfl) (by kernel_rfl) (by kernel_rfl) (fun _ _ _ h => h) (Or.inl ⟨by rfl, ?_⟩) hHeld ?_
                    rotate_left
                    · intro w hSw
                      try dsimp only at hSw
                      go_simp
                      with_reducible rfl
                    try simp only [Act.put, List.setIfInBounds_toArray, List.set_cons_zero, List.set_cons_succ]
                    refine wpAnyH_take (i := 37) (oi := { dst := some 75, op := Op.move (Operand.tmp 1), type := 38, pos := "ref.go:153", after := #[{ on := 36, ground := Ground.guard }], guard := some (36, true) }) (v := undef) rfl (by kernel_rfl) (by kernel_rfl) (by kernel_rfl) (fun _ _ _ h => h) (Or.inr ⟨by rfl, rfl⟩) hHeld ?_
                    try simp only [Act.put, List.setIfInBounds_toArray, List.set_cons_zero, List.set_cons_succ]
                    refine wpAnyH_take (i := 38) (oi := { dst := some 76, op := Op.move (Operand.tmp 7), type := 3, pos := "ref.go:153", after := #[{ on := 36, ground := Ground.guard }], guard := some (36, true) }) (v := undef) rfl (by kernel_rfl) (by kernel_rfl) (by kernel_rfl) (fun _ _ _ h => h) (Or.inr ⟨by rfl, rfl⟩) hHeld ?_
                    try simp only [Act.put, List.setIfInBounds_toArray, List.set_cons_zero, List.set_cons_succ]
                    refine wpAnyH_take (i := 39) (oi := { dst := some 77, op := Op.indexAddr 38 (Operand.tmp 75) (Operand.tmp 76), type := 0, pos := "ref.go:153", after := #[{ on := 37, ground := Ground.data }, { on := 38, ground := Ground.data }, { on := 36, ground := Ground.guard }], guard := some (36, true) }) (v := undef) rfl (by kernel_rfl) (by kernel_rfl) (by kernel_rfl) (fun _ _ _ h => h) (Or.inr ⟨by rfl, rfl⟩) hHeld ?_
                    try simp only [Act.put, List.setIfInBounds_toArray, List.set_cons_zero, List.set_cons_succ]
                    refine wpAnyH_take (i := 40) (oi := { dst := some 78, op := Op.fieldAddr 53 (Operand.tmp 77) 3, type := 0, pos := "ref.go:153", after := #[{ on := 39, ground := Ground.data }, { on := 36, ground := Ground.guard }], guard := some (36, true) }) (v := undef) rfl (by kernel_rfl) (by kernel_rfl) (by kernel_rfl) (fun _ _ _ h => h) (Or.inr ⟨by rfl, rfl⟩) hHeld ?_
                    try simp only [Act.put, List.setIfInBounds_toArray, List.set_cons_zero, List.set_cons_succ]
                    refine wpAnyH_take (i := 41) (oi := { dst := some 79, op := Op.load 9 (Operand.tmp 78), type := 9, pos := "ref.go:153", after := #[{ on := 40, ground := Ground.data }, { on := 36, ground := Ground.guard }], guard := some (36, true) }) (v := undef) rfl (by kernel_rfl) (by kernel_rfl) (by kernel_rfl) (fun _ _ _ h => h) (Or.inr ⟨by rfl, rfl⟩) hHeld ?_
                    try simp only [Act.put, List.setIfInBounds_toArray, List.set_cons_zero, List.set_cons_succ]
                    refine wpAnyH_take (i := 42) (oi := { dst := some 80, op := Op.call { callee := Callee.value (Operand.func 28), args := #[], argTypes := #[] }, type := 9, pos := "ref.go:153", after := #[{ on := 36, ground := Ground.chain }, { on := 36, ground := Ground.guard }], guard := some (36, true) }) (v := undef) rfl (by kernel_rfl) (by kernel_rfl) (by kernel_rfl) (fun _ _ _ h => h) (Or.inr ⟨by rfl, rfl⟩) hHeld ?_
                    try simp only [Act.put, List.setIfInBounds_toArray, List.set_cons_zero, List.set_cons_succ]
                    refine wpAnyH_take (i := 43) (oi := { dst := some 81, op := Op.binOp BinOp.neq 9 (Operand.tmp 79) (Operand.tmp 80) 9, type := 4, pos := "ref.go:153", after := #[{ on := 41, ground := Ground.data }, { on := 42, ground := Ground.data }, { on := 36, ground := Ground.guard }], guard := some (36, true) }) (v := undef) rfl (by kernel_rfl) (by kernel_rfl) (by kernel_rfl) (fun _ _ _ h => h) (Or.inr ⟨by rfl, rfl⟩) hHeld ?_
                    try simp only [Act.put, List.setIfInBounds_toArray, List.set_cons_zero, List.set_cons_succ]
                    refine wpAnyH_take (i := 44) (oi := { dst := some 82, op := Op.pick (Operand.tmp 74) (Operand.tmp 81) (Operand.const (Value.bool false)), type := 4, pos := "ref.go:153", after := #[{ on := 36, ground := Ground.data }, { on := 43, ground := Ground.data }, { on := 33, ground := Ground.guard }], guard := some (33, false) }) (v := ?_) rfl (by kernel_rfl) (by kernel_rfl) (by kernel_rfl) (fun _ _ _ h => h) (Or.inl ⟨by rfl, ?_⟩) hHeld ?_
                    rotate_left
                    · intro w hSw
                      try dsimp only at hSw
                      go_simp
                      with_reducible rfl
                    try simp only [Act.put, List.setIfInBounds_toArray, List.set_cons_zero, List.set_cons_succ]
                    refine wpAnyH_take (i := 45) (oi := { dst := some 83, op := Op.pick (Operand.tmp 71) (Operand.const (Value.bool true)) (Operand.tmp 82), type := 4, pos := "ref.go:153", after := #[{ on := 33, ground := Ground.data }, { on := 44, ground := Ground.data }], guard := none }) (v := ?_) rfl (by kernel_rfl) (by kernel_rfl) (by kernel_rfl) (fun _ _ _ h => h) (Or.inl ⟨by rfl, ?_⟩) hHeld ?_
                    rotate_left
                    · intro w hSw
                      try dsimp only at hSw
                      go_simp
                      with_reducible rfl
                    try simp only [Act.put, List.setIfInBounds_toArray, List.set_cons_zero, List.set_cons_succ]
                    refine wpAnyH_done (by kernel_rfl) ?_ _
                    refine NoPanic.normal ?_
                    obtain ⟨-, -, -, -, -, -, -, -, HO2, L⟩ := hHeld
                    go_wp2_with fail
                    go_meet
                    exact ⟨by rw [HR.out]; rfl, HO2, L⟩
                · have q6 : (xl != pl + 1) = true := bne_iff_ne.2 hlp
                  have HR := hid (HG2.out hlp)
                  clear hlp HG2
                  refine wpAnyH_take (i := 30) (oi := { dst := some 68, op := Op.binOp BinOp.neq 3 (Operand.tmp 60) (Operand.tmp 67) 3, type := 4, pos := "ref.go:153", after := #[{ on := 22, ground := Ground.data }, { on := 29, ground := Ground.data }, { on := 17, ground := Ground.guard }], guard := some (17, true) }) (v := ?_) rfl (by kernel_rfl) (by kernel_rfl) (by kernel_rfl) (fun _ _ _ h => h) (Or.inl ⟨by rfl, ?_⟩) hHeld ?_
                  rotate_left
                  · intro w hSw
                    try dsimp only at hSw
                    go_simp
                    with_reducible rfl
                  try simp only [Act.put, List.setIfInBounds_toArray, List.set_cons_zero, List.set_cons_succ]
                  refine wpAnyH_take (i := 31) (oi := { dst := some 69, op := Op.pick (Operand.tmp 55) (Operand.tmp 68) (Operand.const (Value.bool false)), type := 4, pos := "ref.go:153", after := #[{ on := 17, ground := Ground.data }, { on := 30, ground := Ground.data }, { on := 14, ground := Ground.guard }], guard := some (14, false) }) (v := ?_) rfl (by kernel_rfl) (by kernel_rfl) (by kernel_rfl) (fun _ _ _ h => h) (Or.inl ⟨by rfl, ?_⟩) hHeld ?_
                  rotate_left
                  · intro w hSw
                    try dsimp only at hSw
                    go_simp
                    with_reducible rfl
                  try simp only [Act.put, List.setIfInBounds_toArray, List.set_cons_zero, List.set_cons_succ]
                  refine wpAnyH_take (i := 32) (oi := { dst := some 70, op := Op.pick (Operand.tmp 52) (Operand.const (Value.bool true)) (Operand.tmp 69), type := 4, pos := "ref.go:153", after := #[{ on := 14, ground := Ground.data }, { on := 31, ground := Ground.data }], guard := none }) (v := ?_) rfl (by kernel_rfl) (by kernel_rfl) (by kernel_rfl) (fun _ _ _ h => h) (Or.inl ⟨by rfl, ?_⟩) hHeld ?_
                  rotate_left
                  · intro w hSw
                    try dsimp only at hSw
                    go_simp
                    with_reducible rfl
                  try simp only [Act.put, List.setIfInBounds_toArray, List.set_cons_zero, List.set_cons_succ]
                  refine wpAnyH_take (i := 33) (oi := { dst := some 71, op := Op.move (Operand.tmp 70), type := 4, pos := "ref.go:153", after := #[{ on := 32, ground := Ground.data }, { on := 17, ground := Ground.chain }], guard := none }) (v := ?_) rfl (by kernel_rfl) (by kernel_rfl) (by kernel_rfl) (fun _ _ _ h => h) (Or.inl ⟨by rfl, ?_⟩) hHeld ?_
                  rotate_left
                  · intro w hSw
                    try dsimp only at hSw
                    go_simp
                    with_reducible rfl
                  try simp only [Act.put, List.setIfInBounds_toArray, List.set_cons_zero, List.set_cons_succ]
                  refine wpAnyH_take (i := 34) (oi := { dst := some 72, op := Op.move (Operand.tmp 9), type := 4, pos := "ref.go:153", after := #[{ on := 33, ground := Ground.guard }], guard := some (33, false) }) (v := undef) rfl (by kernel_rfl) (by kernel_rfl) (by kernel_rfl) (fun _ _ _ h => h) (Or.inr ⟨by rfl, rfl⟩) hHeld ?_
                  try simp only [Act.put, List.setIfInBounds_toArray, List.set_cons_zero, List.set_cons_succ]
                  refine wpAnyH_take (i := 35) (oi := { dst := some 73, op := Op.unOp UnOp.not 4 (Operand.tmp 72), type := 4, pos := "ref.go:153", after := #[{ on := 34, ground := Ground.data }, { on := 33, ground := Ground.guard }], guard := some (33, false) }) (v := undef) rfl (by kernel_rfl) (by kernel_rfl) (by kernel_rfl) (fun _ _ _ h => h) (Or.inr ⟨by rfl, rfl⟩) hHeld ?_
                  try simp only [Act.put, List.setIfInBounds_toArray, List.set_cons_zero, List.set_cons_succ]
                  refine wpAnyH_take (i := 36) (oi := { dst := some 74, op := Op.move (Operand.tmp 73), type := 4, pos := "ref.go:153", after := #[{ on := 35, ground := Ground.data }, { on := 33, ground := Ground.chain }, { on := 33, ground := Ground.guard }], guard := some (33, false) }) (v := undef) rfl (by kernel_rfl) (by kernel_rfl) (by kernel_rfl) (fun _ _ _ h => h) (Or.inr ⟨by rfl, rfl⟩) hHeld ?_
                  try simp only [Act.put, List.setIfInBounds_toArray, List.set_cons_zero, List.set_cons_succ]
                  refine wpAnyH_take (i := 37) (oi := { dst := some 75, op := Op.move (Operand.tmp 1), type := 38, pos := "ref.go:153", after := #[{ on := 36, ground := Ground.guard }], guard := some (36, true) }) (v := undef) rfl (by kernel_rfl) (by kernel_rfl) (by kernel_rfl) (fun _ _ _ h => h) (Or.inr ⟨by rfl, rfl⟩) hHeld ?_
                  try simp only [Act.put, List.setIfInBounds_toArray, List.set_cons_zero, List.set_cons_succ]
                  refine wpAnyH_take (i := 38) (oi := { dst := some 76, op := Op.move (Operand.tmp 7), type := 3, pos := "ref.go:153", after := #[{ on := 36, ground := Ground.guard }], guard := some (36, true) }) (v := undef) rfl (by kernel_rfl) (by kernel_rfl) (by kernel_rfl) (fun _ _ _ h => h) (Or.inr ⟨by rfl, rfl⟩) hHeld ?_
                  try simp only [Act.put, List.setIfInBounds_toArray, List.set_cons_zero, List.set_cons_succ]
                  refine wpAnyH_take (i := 39) (oi := { dst := some 77, op := Op.indexAddr 38 (Operand.tmp 75) (Operand.tmp 76), type := 0, pos := "ref.go:153", after := #[{ on := 37, ground := Ground.data }, { on := 38, ground := Ground.data }, { on := 36, ground := Ground.guard }], guard := some (36, true) }) (v := undef) rfl (by kernel_rfl) (by kernel_rfl) (by kernel_rfl) (fun _ _ _ h => h) (Or.inr ⟨by rfl, rfl⟩) hHeld ?_
                  try simp only [Act.put, List.setIfInBounds_toArray, List.set_cons_zero, List.set_cons_succ]
                  refine wpAnyH_take (i := 40) (oi := { dst := some 78, op := Op.fieldAddr 53 (Operand.tmp 77) 3, type := 0, pos := "ref.go:153", after := #[{ on := 39, ground := Ground.data }, { on := 36, ground := Ground.guard }], guard := some (36, true) }) (v := undef) rfl (by kernel_rfl) (by kernel_rfl) (by kernel_rfl) (fun _ _ _ h => h) (Or.inr ⟨by rfl, rfl⟩) hHeld ?_
                  try simp only [Act.put, List.setIfInBounds_toArray, List.set_cons_zero, List.set_cons_succ]
                  refine wpAnyH_take (i := 41) (oi := { dst := some 79, op := Op.load 9 (Operand.tmp 78), type := 9, pos := "ref.go:153", after := #[{ on := 40, ground := Ground.data }, { on := 36, ground := Ground.guard }], guard := some (36, true) }) (v := undef) rfl (by kernel_rfl) (by kernel_rfl) (by kernel_rfl) (fun _ _ _ h => h) (Or.inr ⟨by rfl, rfl⟩) hHeld ?_
                  try simp only [Act.put, List.setIfInBounds_toArray, List.set_cons_zero, List.set_cons_succ]
                  refine wpAnyH_take (i := 42) (oi := { dst := some 80, op := Op.call { callee := Callee.value (Operand.func 28), args := #[], argTypes := #[] }, type := 9, pos := "ref.go:153", after := #[{ on := 36, ground := Ground.chain }, { on := 36, ground := Ground.guard }], guard := some (36, true) }) (v := undef) rfl (by kernel_rfl) (by kernel_rfl) (by kernel_rfl) (fun _ _ _ h => h) (Or.inr ⟨by rfl, rfl⟩) hHeld ?_
                  try simp only [Act.put, List.setIfInBounds_toArray, List.set_cons_zero, List.set_cons_succ]
                  refine wpAnyH_take (i := 43) (oi := { dst := some 81, op := Op.binOp BinOp.neq 9 (Operand.tmp 79) (Operand.tmp 80) 9, type := 4, pos := "ref.go:153", after := #[{ on := 41, ground := Ground.data }, { on := 42, ground := Ground.data }, { on := 36, ground := Ground.guard }], guard := some (36, true) }) (v := undef) rfl (by kernel_rfl) (by kernel_rfl) (by kernel_rfl) (fun _ _ _ h => h) (Or.inr ⟨by rfl, rfl⟩) hHeld ?_
                  try simp only [Act.put, List.setIfInBounds_toArray, List.set_cons_zero, List.set_cons_succ]
                  refine wpAnyH_take (i := 44) (oi := { dst := some 82, op := Op.pick (Operand.tmp 74) (Operand.tmp 81) (Operand.const (Value.bool false)), type := 4, pos := "ref.go:153", after := #[{ on := 36, ground := Ground.data }, { on := 43, ground := Ground.data }, { on := 33, ground := Ground.guard }], guard := some (33, false) }) (v := undef) rfl (by kernel_rfl) (by kernel_rfl) (by kernel_rfl) (fun _ _ _ h => h) (Or.inr ⟨by rfl, rfl⟩) hHeld ?_
                  try simp only [Act.put, List.setIfInBounds_toArray, List.set_cons_zero, List.set_cons_succ]
                  refine wpAnyH_take (i := 45) (oi := { dst := some 83, op := Op.pick (Operand.tmp 71) (Operand.const (Value.bool true)) (Operand.tmp 82), type := 4, pos := "ref.go:153", after := #[{ on := 33, ground := Ground.data }, { on := 44, ground := Ground.data }], guard := none }) (v := ?_) rfl (by kernel_rfl) (by kernel_rfl) (by kernel_rfl) (fun _ _ _ h => h) (Or.inl ⟨by rfl, ?_⟩) hHeld ?_
                  rotate_left
                  · intro w hSw
                    try dsimp only at hSw
                    go_simp
                    with_reducible rfl
                  try simp only [Act.put, List.setIfInBounds_toArray, List.set_cons_zero, List.set_cons_succ]
                  refine wpAnyH_done (by kernel_rfl) ?_ _
                  refine NoPanic.normal ?_
                  obtain ⟨-, -, -, -, -, -, -, -, HO2, L⟩ := hHeld
                  go_wp2_with fail
                  go_meet
                  exact ⟨by rw [HR.out]; rfl, HO2, L⟩
            · have qm : (xm != 0) = true := bne_iff_ne.2 hm0
              have HR := hid (gdS_no1 (s := s) Hx.out (vldB_not (.inr hm0)))
              clear hm0 hv HVa HP
              have hS := And.intro x0 (And.intro x1 (And.intro x2 (And.intro x3 (And.intro x4 (And.intro x5 (And.intro x6 (And.intro x0 (And.intro HOW.out hbel))))))))
              clear x0 x1 x2 x3 x4 x5 x6 
              refine wp_region_noPanic ?_
              refine wp_region_held_drew (S := (fun w' => w'.cell? ⟨g, o + i * 7, none⟩ = some (.int .i64 xl) ∧ w'.cell? ⟨g, o + i * 7 + 1, none⟩ = some (.int .i64 xm) ∧ w'.cell? ⟨g, o + i * 7 + 2, none⟩ = some (.int .i64 xf) ∧ w'.cell? ⟨g, o + i * 7 + 3, none⟩ = some (.int .i64 xc) ∧ w'.cell? ⟨g, o + i * 7 + 4, none⟩ = some (.int .i64 xs) ∧ w'.cell? ⟨g, o + i * 7 + 5, none⟩ = some (.int .i64 xk) ∧ w'.cell? ⟨g, o + i * 7 + 6, none⟩ = some (.string xd) ∧ w'.cell? ⟨g, o + i * 7, none⟩ = some (.int .i64 xl) ∧ w'.ownsRow w.heap.size 9 1 u6 (colX s xss i).length (strV (colX s xss i)) ∧ Below w.heap.size w w')) (by kernel_rfl) (cx_keep hS (bdrew (Below.refl _ _))) (fun hHeld => ?_)
              refine wpAnyH_take (i := 0) (oi := { dst := some 38, op := Op.move (Operand.tmp 1), type := 38, pos := "ref.go:153", after := #[], guard := none }) (v := ?_) rfl (by kernel_rfl) (by kernel_rfl) (by kernel_rfl) (fun _ _ _ h => h) (Or.inl ⟨by rfl, ?_⟩) hHeld ?_
              rotate_left
              · intro w hSw
                try dsimp only at hSw
                go_simp
                with_reducible rfl
              try simp only [Act.put, List.setIfInBounds_toArray, List.set_cons_zero, List.set_cons_succ]
              refine wpAnyH_take (i := 1) (oi := { dst := some 39, op := Op.move (Operand.tmp 7), type := 3, pos := "ref.go:153", after := #[], guard := none }) (v := ?_) rfl (by kernel_rfl) (by kernel_rfl) (by kernel_rfl) (fun _ _ _ h => h) (Or.inl ⟨by rfl, ?_⟩) hHeld ?_
              rotate_left
              · intro w hSw
                try dsimp only at hSw
                go_simp
                with_reducible rfl
              try simp only [Act.put, List.setIfInBounds_toArray, List.set_cons_zero, List.set_cons_succ]
              refine wpAnyH_take (i := 2) (oi := { dst := some 40, op := Op.indexAddr 38 (Operand.tmp 38) (Operand.tmp 39), type := 0, pos := "ref.go:153", after := #[{ on := 0, ground := Ground.data }, { on := 1, ground := Ground.data }], guard := none }) (v := ?_) rfl (by kernel_rfl) (by kernel_rfl) (by kernel_rfl) (fun _ _ _ h => h) (Or.inl ⟨by rfl, ?_⟩) hHeld ?_
              rotate_left
              · intro w hSw
                try dsimp only at hSw
                go_simp
                with_reducible rfl
              try simp only [Act.put, List.setIfInBounds_toArray, List.set_cons_zero, List.set_cons_succ]
              refine wpAnyH_take (i := 3) (oi := { dst := some 41, op := Op.load 53 (Operand.tmp 40), type := 53, pos := "ref.go:153", after := #[{ on := 2, ground := Ground.data }], guard := none }) (v := ?_) rfl (by kernel_rfl) (by kernel_rfl) (by kernel_rfl) (fun _ _ _ h => h) (Or.inl ⟨by rfl, ?_⟩) hHeld ?_
              rotate_left
              · intro w hSw
                try dsimp only at hSw
                go_simp
                with_reducible rfl
              try simp only [Act.put, List.setIfInBounds_toArray, List.set_cons_zero, List.set_cons_succ]
              refine wpAnyH_ready (rs := [4]) (by kernel_rfl) (by simp) ?_
              refine AllReadyH.cons (o := { dst := some 42, op := Op.call { callee := Callee.value (Operand.func 39), args := #[Operand.tmp 41], argTypes := #[53] }, type := 4, pos := "ref.go:153", after := #[{ on := 3, ground := Ground.data }], guard := none }) rfl (fun K hK => ?_) AllReadyH.nil
              go_simp
              go_at_call 39
              refine (hVd.out _).mono ?_
              rintro e w2 ⟨rfl, hb⟩
              go_wp2_with fail
              refine hK.out _ _ (cx_keep hHeld hb) (fun hHeld => ?_)
              clear hK K hb
              try simp only [Act.put, List.setIfInBounds_toArray, List.set_cons_zero, List.set_cons_succ]
              refine wpAnyH_take (i := 5) (oi := { dst := some 43, op := Op.unOp UnOp.not 4 (Operand.tmp 42), type := 4, pos := "ref.go:153", after := #[{ on := 4, ground := Ground.data }], guard := none }) (v := ?_) rfl (by kernel_rfl) (by kernel_rfl) (by kernel_rfl) (fun _ _ _ h => h) (Or.inl ⟨by rfl, ?_⟩) hHeld ?_
              rotate_left
              · intro w hSw
                try dsimp only at hSw
                go_simp
                with_reducible rfl
              try simp only [Act.put, List.setIfInBounds_toArray, List.set_cons_zero, List.set_cons_succ]
              refine wpAnyH_take (i := 6) (oi := { dst := some 44, op := Op.move (Operand.tmp 43), type := 4, pos := "ref.go:153", after := #[{ on := 5, ground := Ground.data }, { on := 4, ground := Ground.chain }], guard := none }) (v := ?_) rfl (by kernel_rfl) (by kernel_rfl) (by kernel_rfl) (fun _ _ _ h => h) (Or.inl ⟨by rfl, ?_⟩) hHeld ?_
              rotate_left
              · intro w hSw
                try dsimp only at hSw
                go_simp
                with_reducible rfl
              try simp only [Act.put, List.setIfInBounds_toArray, List.set_cons_zero, List.set_cons_succ]
              refine wpAnyH_take (i := 7) (oi := { dst := some 45, op := Op.move (Operand.tmp 1), type := 38, pos := "ref.go:153", after := #[{ on := 6, ground := Ground.guard }], guard := some (6, false) }) (v := ?_) rfl (by kernel_rfl) (by kernel_rfl) (by kernel_rfl) (fun _ _ _ h => h) (Or.inl ⟨by rfl, ?_⟩) hHeld ?_
              rotate_left
              · intro w hSw
                try dsimp only at hSw
                go_simp
                with_reducible rfl
              try simp only [Act.put, List.setIfInBounds_toArray, List.set_cons_zero, List.set_cons_succ]
              refine wpAnyH_take (i := 8) (oi := { dst := some 46, op := Op.move (Operand.tmp 7), type := 3, pos := "ref.go:153", after := #[{ on := 6, ground := Ground.guard }], guard := some (6, false) }) (v := ?_) rfl (by kernel_rfl) (by kernel_rfl) (by kernel_rfl) (fun _ _ _ h => h) (Or.inl ⟨by rfl, ?_⟩) hHeld ?_
              rotate_left
              · intro w hSw
                try dsimp only at hSw
                go_simp
                with_reducible rfl
              try simp only [Act.put, List.setIfInBounds_toArray, List.set_cons_zero, List.set_cons_succ]
              refine wpAnyH_take (i := 9) (oi := { dst := some 47, op := Op.indexAddr 38 (Operand.tmp 45) (Operand.tmp 46), type := 0, pos := "ref.go:153", after := #[{ on := 7, ground := Ground.data }, { on := 8, ground := Ground.data }, { on := 6, ground := Ground.guard }], guard := some (6, false) }) (v := ?_) rfl (by kernel_rfl) (by kernel_rfl) (by kernel_rfl) (fun _ _ _ h => h) (Or.inl ⟨by rfl, ?_⟩) hHeld ?_
              rotate_left
              · intro w hSw
                try dsimp only at hSw
                go_simp
                with_reducible rfl
              try simp only [Act.put, List.setIfInBounds_toArray, List.set_cons_zero, List.set_cons_succ]
              refine wpAnyH_take (i := 10) (oi := { dst := some 48, op := Op.fieldAddr 53 (Operand.tmp 47) 1, type := 0, pos := "ref.go:153", after := #[{ on := 9, ground := Ground.data }, { on := 6, ground := Ground.guard }], guard := some (6, false) }) (v := ?_) rfl (by kernel_rfl) (by kernel_rfl) (by kernel_rfl) (fun _ _ _ h => h) (Or.inl ⟨by rfl, ?_⟩) hHeld ?_
              rotate_left
              · intro w hSw
                try dsimp only at hSw
                go_simp
                with_reducible rfl
              try simp only [Act.put, List.setIfInBounds_toArray, List.set_cons_zero, List.set_cons_succ]
              refine wpAnyH_take (i := 11) (oi := { dst := some 49, op := Op.load 3 (Operand.tmp 48), type := 3, pos := "ref.go:153", after := #[{ on := 10, ground := Ground.data }, { on := 6, ground := Ground.guard }], guard := some (6, false) }) (v := ?_) rfl (by kernel_rfl) (by kernel_rfl) (by kernel_rfl) (fun _ _ _ h => h) (Or.inl ⟨by rfl, ?_⟩) hHeld ?_
              rotate_left
              · intro w hSw
                try dsimp only at hSw
                go_simp
                with_reducible rfl
              try simp only [Act.put, List.setIfInBounds_toArray, List.set_cons_zero, List.set_cons_succ]
              refine wpAnyH_take (i := 12) (oi := { dst := some 50, op := Op.binOp BinOp.neq 3 (Operand.tmp 49) (Operand.const (Value.int IntKind.i64 0)) 3, type := 4, pos := "ref.go:153", after := #[{ on := 11, ground := Ground.data }, { on := 6, ground := Ground.guard }], guard := some (6, false) }) (v := ?_) rfl (by kernel_rfl) (by kernel_rfl) (by kernel_rfl) (fun _ _ _ h => h) (Or.inl ⟨by rfl, ?_⟩) hHeld ?_
              rotate_left
              · intro w hSw
                try dsimp only at hSw
                go_simp
                with_reducible rfl
              try simp only [Act.put, List.setIfInBounds_toArray, List.set_cons_zero, List.set_cons_succ]
              refine wpAnyH_take (i := 13) (oi := { dst := some 51, op := Op.pick (Operand.tmp 44) (Operand.const (Value.bool true)) (Operand.tmp 50), type := 4, pos := "ref.go:153", after := #[{ on := 6, ground := Ground.data }, { on := 12, ground := Ground.data }], guard := none }) (v := ?_) rfl (by kernel_rfl) (by kernel_rfl) (by kernel_rfl) (fun _ _ _ h => h) (Or.inl ⟨by rfl, ?_⟩) hHeld ?_
              rotate_left
              · intro w hSw
                try dsimp only at hSw
                go_simp
                with_reducible rfl
              try simp only [Act.put, List.setIfInBounds_toArray, List.set_cons_zero, List.set_cons_succ]
              refine wpAnyH_take (i := 14) (oi := { dst := some 52, op := Op.move (Operand.tmp 51), type := 4, pos := "ref.go:153", after := #[{ on := 13, ground := Ground.data }, { on := 6, ground := Ground.chain }], guard := none }) (v := ?_) rfl (by kernel_rfl) (by kernel_rfl) (by kernel_rfl) (fun _ _ _ h => h) (Or.inl ⟨by rfl, ?_⟩) hHeld ?_
              rotate_left
              · intro w hSw
                try dsimp only at hSw
                go_simp
                with_reducible rfl
              try simp only [Act.put, List.setIfInBounds_toArray, List.set_cons_zero, List.set_cons_succ]
              refine wpAnyH_take (i := 15) (oi := { dst := some 53, op := Op.move (Operand.tmp 7), type := 3, pos := "ref.go:153", after := #[{ on := 14, ground := Ground.guard }], guard := some (14, false) }) (v := undef) rfl (by kernel_rfl) (by kernel_rfl) (by kernel_rfl) (fun _ _ _ h => h) (Or.inr ⟨by rfl, rfl⟩) hHeld ?_
              try simp only [Act.put, List.setIfInBounds_toArray, List.set_cons_zero, List.set_cons_succ]
              refine wpAnyH_take (i := 16) (oi := { dst := some 54, op := Op.binOp BinOp.gtr 3 (Operand.tmp 53) (Operand.const (Value.int IntKind.i64 0)) 3, type := 4, pos := "ref.go:153", after := #[{ on := 15, ground := Ground.data }, { on := 14, ground := Ground.guard }], guard := some (14, false) }) (v := undef) rfl (by kernel_rfl) (by kernel_rfl) (by kernel_rfl) (fun _ _ _ h => h) (Or.inr ⟨by rfl, rfl⟩) hHeld ?_
              try simp only [Act.put, List.setIfInBounds_toArray, List.set_cons_zero, List.set_cons_succ]
              refine wpAnyH_take (i := 17) (oi := { dst := some 55, op := Op.move (Operand.tmp 54), type := 4, pos := "ref.go:153", after := #[{ on := 16, ground := Ground.data }, { on := 14, ground := Ground.chain }, { on := 14, ground := Ground.guard }], guard := some (14, false) }) (v := undef) rfl (by kernel_rfl) (by kernel_rfl) (by kernel_rfl) (fun _ _ _ h => h) (Or.inr ⟨by rfl, rfl⟩) hHeld ?_
              try simp only [Act.put, List.setIfInBounds_toArray, List.set_cons_zero, List.set_cons_succ]
              refine wpAnyH_take (i := 18) (oi := { dst := some 56, op := Op.move (Operand.tmp 1), type := 38, pos := "ref.go:153", after := #[{ on := 17, ground := Ground.guard }], guard := some (17, true) }) (v := undef) rfl (by kernel_rfl) (by kernel_rfl) (by kernel_rfl) (fun _ _ _ h => h) (Or.inr ⟨by rfl, rfl⟩) hHeld ?_
              try simp only [Act.put, List.setIfInBounds_toArray, List.set_cons_zero, List.set_cons_succ]
              refine wpAnyH_take (i := 19) (oi := { dst := some 57, op := Op.move (Operand.tmp 7), type := 3, pos := "ref.go:153", after := #[{ on := 17, ground := Ground.guard }], guard := some (17, true) }) (v := undef) rfl (by kernel_rfl) (by kernel_rfl) (by kernel_rfl) (fun _ _ _ h => h) (Or.inr ⟨by rfl, rfl⟩) hHeld ?_
              try simp only [Act.put, List.setIfInBounds_toArray, List.set_cons_zero, List.set_cons_succ]
              refine wpAnyH_take (i := 20) (oi := { dst := some 58, op := Op.indexAddr 38 (Operand.tmp 56) (Operand.tmp 57), type := 0, pos := "ref.go:153", after := #[{ on := 18, ground := Ground.data }, { on := 19, ground := Ground.data }, { on := 17, ground := Ground.guard }], guard := some (17, true) }) (v := undef) rfl (by kernel_rfl) (by kernel_rfl) (by kernel_rfl) (fun _ _ _ h => h) (Or.inr ⟨by rfl, rfl⟩) hHeld ?_
              try simp only [Act.put, List.setIfInBounds_toArray, List.set_cons_zero, List.set_cons_succ]
              refine wpAnyH_take (i := 21) (oi := { dst := some 59, op := Op.fieldAddr 53 (Operand.tmp 58) 0, type := 0, pos := "ref.go:153", after := #[{ on := 20, ground := Ground.data }, { on := 17, ground := Ground.guard }], guard := some (17, true) }) (v := undef) rfl (by kernel_rfl) (by kernel_rfl) (by kernel_rfl) (fun _ _ _ h => h) (Or.inr ⟨by rfl, rfl⟩) hHeld ?_
              try simp only [Act.put, List.setIfInBounds_toArray, List.set_cons_zero, List.set_cons_succ]
              refine wpAnyH_take (i := 22) (oi := { dst := some 60, op := Op.load 3 (Operand.tmp 59), type := 3, pos := "ref.go:153", after := #[{ on := 21, ground := Ground.data }, { on := 17, ground := Ground.guard }], guard := some (17, true) }) (v := undef) rfl (by kernel_rfl) (by kernel_rfl) (by kernel_rfl) (fun _ _ _ h => h) (Or.inr ⟨by rfl, rfl⟩) hHeld ?_
              try simp only [Act.put, List.setIfInBounds_toArray, List.set_cons_zero, List.set_cons_succ]
              refine wpAnyH_take (i := 23) (oi := { dst := some 61, op := Op.move (Operand.tmp 1), type := 38, pos := "ref.go:153", after := #[{ on := 17, ground := Ground.guard }], guard := some (17, true) }) (v := undef) rfl (by kernel_rfl) (by kernel_rfl) (by kernel_rfl) (fun _ _ _ h => h) (Or.inr ⟨by rfl, rfl⟩) hHeld ?_
              try simp only [Act.put, List.setIfInBounds_toArray, List.set_cons_zero, List.set_cons_succ]
              refine wpAnyH_take (i := 24) (oi := { dst := some 62, op := Op.move (Operand.tmp 7), type := 3, pos := "ref.go:153", after := #[{ on := 17, ground := Ground.guard }], guard := some (17, true) }) (v := undef) rfl (by kernel_rfl) (by kernel_rfl) (by kernel_rfl) (fun _ _ _ h => h) (Or.inr ⟨by rfl, rfl⟩) hHeld ?_
              try simp only [Act.put, List.setIfInBounds_toArray, List.set_cons_zero, List.set_cons_succ]
              refine wpAnyH_take (i := 25) (oi := { dst := some 63, op := Op.binOp BinOp.sub 3 (Operand.tmp 62) (Operand.const (Value.int IntKind.i64 1)) 3, type := 3, pos := "ref.go:153", after := #[{ on := 24, ground := Ground.data }, { on := 17, ground := Ground.guard }], guard := some (17, true) }) (v := undef) rfl (by kernel_rfl) (by kernel_rfl) (by kernel_rfl) (fun _ _ _ h => h) (Or.inr ⟨by rfl, rfl⟩) hHeld ?_
              try simp only [Act.put, List.setIfInBounds_toArray, List.set_cons_zero, List.set_cons_succ]
              refine wpAnyH_take (i := 26) (oi := { dst := some 64, op := Op.indexAddr 38 (Operand.tmp 61) (Operand.tmp 63), type := 0, pos := "ref.go:153", after := #[{ on := 23, ground := Ground.data }, { on := 25, ground := Ground.data }, { on := 17, ground := Ground.guard }], guard := some (17, true) }) (v := undef) rfl (by kernel_rfl) (by kernel_rfl) (by kernel_rfl) (fun _ _ _ h => h) (Or.inr ⟨by rfl, rfl⟩) hHeld ?_
              try simp only [Act.put, List.setIfInBounds_toArray, List.set_cons_zero, List.set_cons_succ]
              refine wpAnyH_take (i := 27) (oi := { dst := some 65, op := Op.fieldAddr 53 (Operand.tmp 64) 0, type := 0, pos := "ref.go:153", after := #[{ on := 26, ground := Ground.data }, { on := 17, ground := Ground.guard }], guard := some (17, true) }) (v := undef) rfl (by kernel_rfl) (by kernel_rfl) (by kernel_rfl) (fun _ _ _ h => h) (Or.inr ⟨by rfl, rfl⟩) hHeld ?_
              try simp only [Act.put, List.setIfInBounds_toArray, List.set_cons_zero, List.set_cons_succ]
              refine wpAnyH_take (i := 28) (oi := { dst := some 66, op := Op.load 3 (Operand.tmp 65), type := 3, pos := "ref.go:153", after := #[{ on := 27, ground := Ground.data }, { on := 17, ground := Ground.guard }], guard := some (17, true) }) (v := undef) rfl (by kernel_rfl) (by kernel_rfl) (by kernel_rfl) (fun _ _ _ h => h) (Or.inr ⟨by rfl, rfl⟩) hHeld ?_
              try simp only [Act.put, List.setIfInBounds_toArray, List.set_cons_zero, List.set_cons_succ]
              refine wpAnyH_take (i := 29) (oi := { dst := some 67, op := Op.binOp BinOp.add 3 (Operand.tmp 66) (Operand.const (Value.int IntKind.i64 1)) 3, type := 3, pos := "ref.go:153", after := #[{ on := 28, ground := Ground.data }, { on := 17, ground := Ground.guard }], guard := some (17, true) }) (v := undef) rfl (by kernel_rfl) (by kernel_rfl) (by kernel_rfl) (fun _ _ _ h => h) (Or.inr ⟨by rfl, rfl⟩) hHeld ?_
              try simp only [Act.put, List.setIfInBounds_toArray, List.set_cons_zero, List.set_cons_succ]
              refine wpAnyH_take (i := 30) (oi := { dst := some 68, op := Op.binOp BinOp.neq 3 (Operand.tmp 60) (Operand.tmp 67) 3, type := 4, pos := "ref.go:153", after := #[{ on := 22, ground := Ground.data }, { on := 29, ground := Ground.data }, { on := 17, ground := Ground.guard }], guard := some (17, true) }) (v := undef) rfl (by kernel_rfl) (by kernel_rfl) (by kernel_rfl) (fun _ _ _ h => h) (Or.inr ⟨by rfl, rfl⟩) hHeld ?_
              try simp only [Act.put, List.setIfInBounds_toArray, List.set_cons_zero, List.set_cons_succ]
              refine wpAnyH_take (i := 31) (oi := { dst := some 69, op := Op.pick (Operand.tmp 55) (Operand.tmp 68) (Operand.const (Value.bool false)), type := 4, pos := "ref.go:153", after := #[{ on := 17, ground := Ground.data }, { on := 30, ground := Ground.data }, { on := 14, ground := Ground.guard }], guard := some (14, false) }) (v := undef) rfl (by kernel_rfl) (by kernel_rfl) (by kernel_rfl) (fun _ _ _ h => h) (Or.inr ⟨by rfl, rfl⟩) hHeld ?_
              try simp only [Act.put, List.setIfInBounds_toArray, List.set_cons_zero, List.set_cons_succ]
              refine wpAnyH_take (i := 32) (oi := { dst := some 70, op := Op.pick (Operand.tmp 52) (Operand.const (Value.bool true)) (Operand.tmp 69), type := 4, pos := "ref.go:153", after := #[{ on := 14, ground := Ground.data }, { on := 31, ground := Ground.data }], guard := none }) (v := ?_) rfl (by kernel_rfl) (by kernel_rfl) (by kernel_rfl) (fun _ _ _ h => h) (Or.inl ⟨by rfl, ?_⟩) hHeld ?_
              rotate_left
              · intro w hSw
                try dsimp only at hSw
                go_simp
                with_reducible rfl
              try simp only [Act.put, List.setIfInBounds_toArray, List.set_cons_zero, List.set_cons_succ]
              refine wpAnyH_take (i := 33) (oi := { dst := some 71, op := Op.move (Operand.tmp 70), type := 4, pos := "ref.go:153", after := #[{ on := 32, ground := Ground.data }, { on := 17, ground := Ground.chain }], guard := none }) (v := ?_) rfl (by kernel_rfl) (by kernel_rfl) (by kernel_rfl) (fun _ _ _ h => h) (Or.inl ⟨by rfl, ?_⟩) hHeld ?_
              rotate_left
              · intro w hSw
                try dsimp only at hSw
                go_simp
                with_reducible rfl
              try simp only [Act.put, List.setIfInBounds_toArray, List.set_cons_zero, List.set_cons_succ]
              refine wpAnyH_take (i := 34) (oi := { dst := some 72, op := Op.move (Operand.tmp 9), type := 4, pos := "ref.go:153", after := #[{ on := 33, ground := Ground.guard }], guard := some (33, false) }) (v := undef) rfl (by kernel_rfl) (by kernel_rfl) (by kernel_rfl) (fun _ _ _ h => h) (Or.inr ⟨by rfl, rfl⟩) hHeld ?_
              try simp only [Act.put, List.setIfInBounds_toArray, List.set_cons_zero, List.set_cons_succ]
              refine wpAnyH_take (i := 35) (oi := { dst := some 73, op := Op.unOp UnOp.not 4 (Operand.tmp 72), type := 4, pos := "ref.go:153", after := #[{ on := 34, ground := Ground.data }, { on := 33, ground := Ground.guard }], guard := some (33, false) }) (v := undef) rfl (by kernel_rfl) (by kernel_rfl) (by kernel_rfl) (fun _ _ _ h => h) (Or.inr ⟨by rfl, rfl⟩) hHeld ?_
              try simp only [Act.put, List.setIfInBounds_toArray, List.set_cons_zero, List.set_cons_succ]
              refine wpAnyH_take (i := 36) (oi := { dst := some 74, op := Op.move (Operand.tmp 73), type := 4, pos := "ref.go:153", after := #[{ on := 35, ground := Ground.data }, { on := 33, ground := Ground.chain }, { on := 33, ground := Ground.guard }], guard := some (33, false) }) (v := undef) rfl (by kernel_rfl) (by kernel_rfl) (by kernel_rfl) (fun _ _ _ h => h) (Or.inr ⟨by rfl, rfl⟩) hHeld ?_
              try simp only [Act.put, List.setIfInBounds_toArray, List.set_cons_zero, List.set_cons_succ]
              refine wpAnyH_take (i := 37) (oi := { dst := some 75, op := Op.move (Operand.tmp 1), type := 38, pos := "ref.go:153", after := #[{ on := 36, ground := Ground.guard }], guard := some (36, true) }) (v := undef) rfl (by kernel_rfl) (by kernel_rfl) (by kernel_rfl) (fun _ _ _ h => h) (Or.inr ⟨by rfl, rfl⟩) hHeld ?_
              try simp only [Act.put, List.setIfInBounds_toArray, List.set_cons_zero, List.set_cons_succ]
              refine wpAnyH_take (i := 38) (oi := { dst := some 76, op := Op.move (Operand.tmp 7), type := 3, pos := "ref.go:153", after := #[{ on := 36, ground := Ground.guard }], guard := some (36, true) }) (v := undef) rfl (by kernel_rfl) (by kernel_rfl) (by kernel_rfl) (fun _ _ _ h => h) (Or.inr ⟨by rfl, rfl⟩) hHeld ?_
              try simp only [Act.put, List.setIfInBounds_toArray, List.set_cons_zero, List.set_cons_succ]
              refine wpAnyH_take (i := 39) (oi := { dst := some 77, op := Op.indexAddr 38 (Operand.tmp 75) (Operand.tmp 76), type := 0, pos := "ref.go:153", after := #[{ on := 37, ground := Ground.data }, { on := 38, ground := Ground.data }, { on := 36, ground := Ground.guard }], guard := some (36, true) }) (v := undef) rfl (by kernel_rfl) (by kernel_rfl) (by kernel_rfl) (fun _ _ _ h => h) (Or.inr ⟨by rfl, rfl⟩) hHeld ?_
              try simp only [Act.put, List.setIfInBounds_toArray, List.set_cons_zero, List.set_cons_succ]
              refine wpAnyH_take (i := 40) (oi := { dst := some 78, op := Op.fieldAddr 53 (Operand.tmp 77) 3, type := 0, pos := "ref.go:153", after := #[{ on := 39, ground := Ground.data }, { on := 36, ground := Ground.guard }], guard := some (36, true) }) (v := undef) rfl (by kernel_rfl) (by kernel_rfl) (by kernel_rfl) (fun _ _ _ h => h) (Or.inr ⟨by rfl, rfl⟩) hHeld ?_
              try simp only [Act.put, List.setIfInBounds_toArray, List.set_cons_zero, List.set_cons_succ]
              refine wpAnyH_take (i := 41) (oi := { dst := some 79, op := Op.load 9 (Operand.tmp 78), type := 9, pos := "ref.go:153", after := #[{ on := 40, ground := Ground.data }, { on := 36, ground := Ground.guard }], guard := some (36, true) }) (v := undef) rfl (by kernel_rfl) (by kernel_rfl) (by kernel_rfl) (fun _ _ _ h => h) (Or.inr ⟨by rfl, rfl⟩) hHeld ?_
              try simp only [Act.put, List.setIfInBounds_toArray, List.set_cons_zero, List.set_cons_succ]
              refine wpAnyH_take (i := 42) (oi := { dst := some 80, op := Op.call { callee := Callee.value (Operand.func 28), args := #[], argTypes := #[] }, type := 9, pos := "ref.go:153", after := #[{ on := 36, ground := Ground.chain }, { on := 36, ground := Ground.guard }], guard := some (36, true) }) (v := undef) rfl (by kernel_rfl) (by kernel_rfl) (by kernel_rfl) (fun _ _ _ h => h) (Or.inr ⟨by rfl, rfl⟩) hHeld ?_
              try simp only [Act.put, List.setIfInBounds_toArray, List.set_cons_zero, List.set_cons_succ]
              refine wpAnyH_take (i := 43) (oi := { dst := some 81, op := Op.binOp BinOp.neq 9 (Operand.tmp 79) (Operand.tmp 80) 9, type := 4, pos := "ref.go:153", after := #[{ on := 41, ground := Ground.data }, { on := 42, ground := Ground.data }, { on := 36, ground := Ground.guard }], guard := some (36, true) }) (v := undef) rfl (by kernel_rfl) (by kernel_rfl) (by kernel_rfl) (fun _ _ _ h => h) (Or.inr ⟨by rfl, rfl⟩) hHeld ?_
              try simp only [Act.put, List.setIfInBounds_toArray, List.set_cons_zero, List.set_cons_succ]
              refine wpAnyH_take (i := 44) (oi := { dst := some 82, op := Op.pick (Operand.tmp 74) (Operand.tmp 81) (Operand.const (Value.bool false)), type := 4, pos := "ref.go:153", after := #[{ on := 36, ground := Ground.data }, { on := 43, ground := Ground.data }, { on := 33, ground := Ground.guard }], guard := some (33, false) }) (v := undef) rfl (by kernel_rfl) (by kernel_rfl) (by kernel_rfl) (fun _ _ _ h => h) (Or.inr ⟨by rfl, rfl⟩) hHeld ?_
              try simp only [Act.put, List.setIfInBounds_toArray, List.set_cons_zero, List.set_cons_succ]
              refine wpAnyH_take (i := 45) (oi := { dst := some 83, op := Op.pick (Operand.tmp 71) (Operand.const (Value.bool true)) (Operand.tmp 82), type := 4, pos := "ref.go:153", after := #[{ on := 33, ground := Ground.data }, { on := 44, ground := Ground.data }], guard := none }) (v := ?_) rfl (by kernel_rfl) (by kernel_rfl) (by kernel_rfl) (fun _ _ _ h => h) (Or.inl ⟨by rfl, ?_⟩) hHeld ?_
              rotate_left
              · intro w hSw
                try dsimp only at hSw
                go_simp
                with_reducible rfl
              try simp only [Act.put, List.setIfInBounds_toArray, List.set_cons_zero, List.set_cons_succ]
              refine wpAnyH_done (by kernel_rfl) ?_ _
              refine NoPanic.normal ?_
              obtain ⟨-, -, -, -, -, -, -, -, HO2, L⟩ := hHeld
              go_wp2_with fail
              go_meet
              exact ⟨by rw [HR.out]; rfl, HO2, L⟩
          · have hvf : vB xl xm xf xc xs xk xd.size = false := by simpa using hv
            have hVd : Hid (∀ w : World, Calls Try.prog 39 #[.agg #[.int .i64 xl, .int .i64 xm, .int .i64 xf, .int .i64 xc, .int .i64 xs, .int .i64 xk, .string xd]] w fun e w' => e = .returned (.bool false) ∧ Below w.heap.size w w') := fun w => by
              have := HVa.out w
              rwa [hvf] at this
            have HR := hid (gdS_no1 (s := s) Hx.out (vldB_not (.inl hvf)))
            clear hv hvf HVa HP
            have hS := And.intro x0 (And.intro x1 (And.intro x2 (And.intro x3 (And.intro x4 (And.intro x5 (And.intro x6 (And.intro x0 (And.intro HOW.out hbel))))))))
            clear x0 x1 x2 x3 x4 x5 x6 
            refine wp_region_noPanic ?_
            refine wp_region_held_drew (S := (fun w' => w'.cell? ⟨g, o + i * 7, none⟩ = some (.int .i64 xl) ∧ w'.cell? ⟨g, o + i * 7 + 1, none⟩ = some (.int .i64 xm) ∧ w'.cell? ⟨g, o + i * 7 + 2, none⟩ = some (.int .i64 xf) ∧ w'.cell? ⟨g, o + i * 7 + 3, none⟩ = some (.int .i64 xc) ∧ w'.cell? ⟨g, o + i * 7 + 4, none⟩ = some (.int .i64 xs) ∧ w'.cell? ⟨g, o + i * 7 + 5, none⟩ = some (.int .i64 xk) ∧ w'.cell? ⟨g, o + i * 7 + 6, none⟩ = some (.string xd) ∧ w'.cell? ⟨g, o + i * 7, none⟩ = some (.int .i64 xl) ∧ w'.ownsRow w.heap.size 9 1 u6 (colX s xss i).length (strV (colX s xss i)) ∧ Below w.heap.size w w')) (by kernel_rfl) (cx_keep hS (bdrew (Below.refl _ _))) (fun hHeld => ?_)
            refine wpAnyH_take (i := 0) (oi := { dst := some 38, op := Op.move (Operand.tmp 1), type := 38, pos := "ref.go:153", after := #[], guard := none }) (v := ?_) rfl (by kernel_rfl) (by kernel_rfl) (by kernel_rfl) (fun _ _ _ h => h) (Or.inl ⟨by rfl, ?_⟩) hHeld ?_
            rotate_left
            · intro w hSw
              try dsimp only at hSw
              go_simp
              with_reducible rfl
            try simp only [Act.put, List.setIfInBounds_toArray, List.set_cons_zero, List.set_cons_succ]
            refine wpAnyH_take (i := 1) (oi := { dst := some 39, op := Op.move (Operand.tmp 7), type := 3, pos := "ref.go:153", after := #[], guard := none }) (v := ?_) rfl (by kernel_rfl) (by kernel_rfl) (by kernel_rfl) (fun _ _ _ h => h) (Or.inl ⟨by rfl, ?_⟩) hHeld ?_
            rotate_left
            · intro w hSw
              try dsimp only at hSw
              go_simp
              with_reducible rfl
            try simp only [Act.put, List.setIfInBounds_toArray, List.set_cons_zero, List.set_cons_succ]
            refine wpAnyH_take (i := 2) (oi := { dst := some 40, op := Op.indexAddr 38 (Operand.tmp 38) (Operand.tmp 39), type := 0, pos := "ref.go:153", after := #[{ on := 0, ground := Ground.data }, { on := 1, ground := Ground.data }], guard := none }) (v := ?_) rfl (by kernel_rfl) (by kernel_rfl) (by kernel_rfl) (fun _ _ _ h => h) (Or.inl ⟨by rfl, ?_⟩) hHeld ?_
            rotate_left
            · intro w hSw
              try dsimp only at hSw
              go_simp
              with_reducible rfl
            try simp only [Act.put, List.setIfInBounds_toArray, List.set_cons_zero, List.set_cons_succ]
            refine wpAnyH_take (i := 3) (oi := { dst := some 41, op := Op.load 53 (Operand.tmp 40), type := 53, pos := "ref.go:153", after := #[{ on := 2, ground := Ground.data }], guard := none }) (v := ?_) rfl (by kernel_rfl) (by kernel_rfl) (by kernel_rfl) (fun _ _ _ h => h) (Or.inl ⟨by rfl, ?_⟩) hHeld ?_
            rotate_left
            · intro w hSw
              try dsimp only at hSw
              go_simp
              with_reducible rfl
            try simp only [Act.put, List.setIfInBounds_toArray, List.set_cons_zero, List.set_cons_succ]
            refine wpAnyH_ready (rs := [4]) (by kernel_rfl) (by simp) ?_
            refine AllReadyH.cons (o := { dst := some 42, op := Op.call { callee := Callee.value (Operand.func 39), args := #[Operand.tmp 41], argTypes := #[53] }, type := 4, pos := "ref.go:153", after := #[{ on := 3, ground := Ground.data }], guard := none }) rfl (fun K hK => ?_) AllReadyH.nil
            go_simp
            go_at_call 39
            refine (hVd.out _).mono ?_
            rintro e w2 ⟨rfl, hb⟩
            go_wp2_with fail
            refine hK.out _ _ (cx_keep hHeld hb) (fun hHeld => ?_)
            clear hK K hb
            try simp only [Act.put, List.setIfInBounds_toArray, List.set_cons_zero, List.set_cons_succ]
            refine wpAnyH_take (i := 5) (oi := { dst := some 43, op := Op.unOp UnOp.not 4 (Operand.tmp 42), type := 4, pos := "ref.go:153", after := #[{ on := 4, ground := Ground.data }], guard := none }) (v := ?_) rfl (by kernel_rfl) (by kernel_rfl) (by kernel_rfl) (fun _ _ _ h => h) (Or.inl ⟨by rfl, ?_⟩) hHeld ?_
            rotate_left
            · intro w hSw
              try dsimp only at hSw
              go_simp
              with_reducible rfl
            try simp only [Act.put, List.setIfInBounds_toArray, List.set_cons_zero, List.set_cons_succ]
            refine wpAnyH_take (i := 6) (oi := { dst := some 44, op := Op.move (Operand.tmp 43), type := 4, pos := "ref.go:153", after := #[{ on := 5, ground := Ground.data }, { on := 4, ground := Ground.chain }], guard := none }) (v := ?_) rfl (by kernel_rfl) (by kernel_rfl) (by kernel_rfl) (fun _ _ _ h => h) (Or.inl ⟨by rfl, ?_⟩) hHeld ?_
            rotate_left
            · intro w hSw
              try dsimp only at hSw
              go_simp
              with_reducible rfl
            try simp only [Act.put, List.setIfInBounds_toArray, List.set_cons_zero, List.set_cons_succ]
            refine wpAnyH_take (i := 7) (oi := { dst := some 45, op := Op.move (Operand.tmp 1), type := 38, pos := "ref.go:153", after := #[{ on := 6, ground := Ground.guard }], guard := some (6, false) }) (v := undef) rfl (by kernel_rfl) (by kernel_rfl) (by kernel_rfl) (fun _ _ _ h => h) (Or.inr ⟨by rfl, rfl⟩) hHeld ?_
            try simp only [Act.put, List.setIfInBounds_toArray, List.set_cons_zero, List.set_cons_succ]
            refine wpAnyH_take (i := 8) (oi := { dst := some 46, op := Op.move (Operand.tmp 7), type := 3, pos := "ref.go:153", after := #[{ on := 6, ground := Ground.guard }], guard := some (6, false) }) (v := undef) rfl (by kernel_rfl) (by kernel_rfl) (by kernel_rfl) (fun _ _ _ h => h) (Or.inr ⟨by rfl, rfl⟩) hHeld ?_
            try simp only [Act.put, List.setIfInBounds_toArray, List.set_cons_zero, List.set_cons_succ]
            refine wpAnyH_take (i := 9) (oi := { dst := some 47, op := Op.indexAddr 38 (Operand.tmp 45) (Operand.tmp 46), type := 0, pos := "ref.go:153", after := #[{ on := 7, ground := Ground.data }, { on := 8, ground := Ground.data }, { on := 6, ground := Ground.guard }], guard := some (6, false) }) (v := undef) rfl (by kernel_rfl) (by kernel_rfl) (by kernel_rfl) (fun _ _ _ h => h) (Or.inr ⟨by rfl, rfl⟩) hHeld ?_
            try simp only [Act.put, List.setIfInBounds_toArray, List.set_cons_zero, List.set_cons_succ]
            refine wpAnyH_take (i := 10) (oi := { dst := some 48, op := Op.fieldAddr 53 (Operand.tmp 47) 1, type := 0, pos := "ref.go:153", after := #[{ on := 9, ground := Ground.data }, { on := 6, ground := Ground.guard }], guard := some (6, false) }) (v := undef) rfl (by kernel_rfl) (by kernel_rfl) (by kernel_rfl) (fun _ _ _ h => h) (Or.inr ⟨by rfl, rfl⟩) hHeld ?_
            try simp only [Act.put, List.setIfInBounds_toArray, List.set_cons_zero, List.set_cons_succ]
            refine wpAnyH_take (i := 11) (oi := { dst := some 49, op := Op.load 3 (Operand.tmp 48), type := 3, pos := "ref.go:153", after := #[{ on := 10, ground := Ground.data }, { on := 6, ground := Ground.guard }], guard := some (6, false) }) (v := undef) rfl (by kernel_rfl) (by kernel_rfl) (by kernel_rfl) (fun _ _ _ h => h) (Or.inr ⟨by rfl, rfl⟩) hHeld ?_
            try simp only [Act.put, List.setIfInBounds_toArray, List.set_cons_zero, List.set_cons_succ]
            refine wpAnyH_take (i := 12) (oi := { dst := some 50, op := Op.binOp BinOp.neq 3 (Operand.tmp 49) (Operand.const (Value.int IntKind.i64 0)) 3, type := 4, pos := "ref.go:153", after := #[{ on := 11, ground := Ground.data }, { on := 6, ground := Ground.guard }], guard := some (6, false) }) (v := undef) rfl (by kernel_rfl) (by kernel_rfl) (by kernel_rfl) (fun _ _ _ h => h) (Or.inr ⟨by rfl, rfl⟩) hHeld ?_
            try simp only [Act.put, List.setIfInBounds_toArray, List.set_cons_zero, List.set_cons_succ]
            refine wpAnyH_take (i := 13) (oi := { dst := some 51, op := Op.pick (Operand.tmp 44) (Operand.const (Value.bool true)) (Operand.tmp 50), type := 4, pos := "ref.go:153", after := #[{ on := 6, ground := Ground.data }, { on := 12, ground := Ground.data }], guard := none }) (v := ?_) rfl (by kernel_rfl) (by kernel_rfl) (by kernel_rfl) (fun _ _ _ h => h) (Or.inl ⟨by rfl, ?_⟩) hHeld ?_
            rotate_left
            · intro w hSw
              try dsimp only at hSw
              go_simp
              with_reducible rfl
            try simp only [Act.put, List.setIfInBounds_toArray, List.set_cons_zero, List.set_cons_succ]
            refine wpAnyH_take (i := 14) (oi := { dst := some 52, op := Op.move (Operand.tmp 51), type := 4, pos := "ref.go:153", after := #[{ on := 13, ground := Ground.data }, { on := 6, ground := Ground.chain }], guard := none }) (v := ?_) rfl (by kernel_rfl) (by kernel_rfl) (by kernel_rfl) (fun _ _ _ h => h) (Or.inl ⟨by rfl, ?_⟩) hHeld ?_
            rotate_left
            · intro w hSw
              try dsimp only at hSw
              go_simp
              with_reducible rfl
            try simp only [Act.put, List.setIfInBounds_toArray, List.set_cons_zero, List.set_cons_succ]
            refine wpAnyH_take (i := 15) (oi := { dst := some 53, op := Op.move (Operand.tmp 7), type := 3, pos := "ref.go:153", after := #[{ on := 14, ground := Ground.guard }], guard := some (14, false) }) (v := undef) rfl (by kernel_rfl) (by kernel_rfl) (by kernel_rfl) (fun _ _ _ h => h) (Or.inr ⟨by rfl, rfl⟩) hHeld ?_
            try simp only [Act.put, List.setIfInBounds_toArray, List.set_cons_zero, List.set_cons_succ]
            refine wpAnyH_take (i := 16) (oi := { dst := some 54, op := Op.binOp BinOp.gtr 3 (Operand.tmp 53) (Operand.const (Value.int IntKind.i64 0)) 3, type := 4, pos := "ref.go:153", after := #[{ on := 15, ground := Ground.data }, { on := 14, ground := Ground.guard }], guard := some (14, false) }) (v := undef) rfl (by kernel_rfl) (by kernel_rfl) (by kernel_rfl) (fun _ _ _ h => h) (Or.inr ⟨by rfl, rfl⟩) hHeld ?_
            try simp only [Act.put, List.setIfInBounds_toArray, List.set_cons_zero, List.set_cons_succ]
            refine wpAnyH_take (i := 17) (oi := { dst := some 55, op := Op.move (Operand.tmp 54), type := 4, pos := "ref.go:153", after := #[{ on := 16, ground := Ground.data }, { on := 14, ground := Ground.chain }, { on := 14, ground := Ground.guard }], guard := some (14, false) }) (v := undef) rfl (by kernel_rfl) (by kernel_rfl) (by kernel_rfl) (fun _ _ _ h => h) (Or.inr ⟨by rfl, rfl⟩) hHeld ?_
            try simp only [Act.put, List.setIfInBounds_toArray, List.set_cons_zero, List.set_cons_succ]
            refine wpAnyH_take (i := 18) (oi := { dst := some 56, op := Op.move (Operand.tmp 1), type := 38, pos := "ref.go:153", after := #[{ on := 17, ground := Ground.guard }], guard := some (17, true) }) (v := undef) rfl (by kernel_rfl) (by kernel_rfl) (by kernel_rfl) (fun _ _ _ h => h) (Or.inr ⟨by rfl, rfl⟩) hHeld ?_
            try simp only [Act.put, List.setIfInBounds_toArray, List.set_cons_zero, List.set_cons_succ]
            refine wpAnyH_take (i := 19) (oi := { dst := some 57, op := Op.move (Operand.tmp 7), type := 3, pos := "ref.go:153", after := #[{ on := 17, ground := Ground.guard }], guard := some (17, true) }) (v := undef) rfl (by kernel_rfl) (by kernel_rfl) (by kernel_rfl) (fun _ _ _ h => h) (Or.inr ⟨by rfl, rfl⟩) hHeld ?_
            try simp only [Act.put, List.setIfInBounds_toArray, List.set_cons_zero, List.set_cons_succ]
            refine wpAnyH_take (i := 20) (oi := { dst := some 58, op := Op.indexAddr 38 (Operand.tmp 56) (Operand.tmp 57), type := 0, pos := "ref.go:153", after := #[{ on := 18, ground := Ground.data }, { on := 19, ground := Ground.data }, { on := 17, ground := Ground.guard }], guard := some (17, true) }) (v := undef) rfl (by kernel_rfl) (by kernel_rfl) (by kernel_rfl) (fun _ _ _ h => h) (Or.inr ⟨by rfl, rfl⟩) hHeld ?_
            try simp only [Act.put, List.setIfInBounds_toArray, List.set_cons_zero, List.set_cons_succ]
            refine wpAnyH_take (i := 21) (oi := { dst := some 59, op := Op.fieldAddr 53 (Operand.tmp 58) 0, type := 0, pos := "ref.go:153", after := #[{ on := 20, ground := Ground.data }, { on := 17, ground := Ground.guard }], guard := some (17, true) }) (v := undef) rfl (by kernel_rfl) (by kernel_rfl) (by kernel_rfl) (fun _ _ _ h => h) (Or.inr ⟨by rfl, rfl⟩) hHeld ?_
            try simp only [Act.put, List.setIfInBounds_toArray, List.set_cons_zero, List.set_cons_succ]
            refine wpAnyH_take (i := 22) (oi := { dst := some 60, op := Op.load 3 (Operand.tmp 59), type := 3, pos := "ref.go:153", after := #[{ on := 21, ground := Ground.data }, { on := 17, ground := Ground.guard }], guard := some (17, true) }) (v := undef) rfl (by kernel_rfl) (by kernel_rfl) (by kernel_rfl) (fun _ _ _ h => h) (Or.inr ⟨by rfl, rfl⟩) hHeld ?_
            try simp only [Act.put, List.setIfInBounds_toArray, List.set_cons_zero, List.set_cons_succ]
            refine wpAnyH_take (i := 23) (oi := { dst := some 61, op := Op.move (Operand.tmp 1), type := 38, pos := "ref.go:153", after := #[{ on := 17, ground := Ground.guard }], guard := some (17, true) }) (v := undef) rfl (by kernel_rfl) (by kernel_rfl) (by kernel_rfl) (fun _ _ _ h => h) (Or.inr ⟨by rfl, rfl⟩) hHeld ?_
            try simp only [Act.put, List.setIfInBounds_toArray, List.set_cons_zero, List.set_cons_succ]
            refine wpAnyH_take (i := 24) (oi := { dst := some 62, op := Op.move (Operand.tmp 7), type := 3, pos := "ref.go:153", after := #[{ on := 17, ground := Ground.guard }], guard := some (17, true) }) (v := undef) rfl (by kernel_rfl) (by kernel_rfl) (by kernel_rfl) (fun _ _ _ h => h) (Or.inr ⟨by rfl, rfl⟩) hHeld ?_
            try simp only [Act.put, List.setIfInBounds_toArray, List.set_cons_zero, List.set_cons_succ]
            refine wpAnyH_take (i := 25) (oi := { dst := some 63, op := Op.binOp BinOp.sub 3 (Operand.tmp 62) (Operand.const (Value.int IntKind.i64 1)) 3, type := 3, pos := "ref.go:153", after := #[{ on := 24, ground := Ground.data }, { on := 17, ground := Ground.guard }], guard := some (17, true) }) (v := undef) rfl (by kernel_rfl) (by kernel_rfl) (by kernel_rfl) (fun _ _ _ h => h) (Or.inr ⟨by rfl, rfl⟩) hHeld ?_
            try simp only [Act.put, List.setIfInBounds_toArray, List.set_cons_zero, List.set_cons_succ]
            refine wpAnyH_take (i := 26) (oi := { dst := some 64, op := Op.indexAddr 38 (Operand.tmp 61) (Operand.tmp 63), type := 0, pos := "ref.go:153", after := #[{ on := 23, ground := Ground.data }, { on := 25, ground := Ground.data }, { on := 17, ground := Ground.guard }], guard := some (17, true) }) (v := undef) rfl (by kernel_rfl) (by kernel_rfl) (by kernel_rfl) (fun _ _ _ h => h) (Or.inr ⟨by rfl, rfl⟩) hHeld ?_
            try simp only [Act.put, List.setIfInBounds_toArray, List.set_cons_zero, List.set_cons_succ]
            refine wpAnyH_take (i := 27) (oi := { dst := some 65, op := Op.fieldAddr 53 (Operand.tmp 64) 0, type := 0, pos := "ref.go:153", after := #[{ on := 26, ground := Ground.data }, { on := 17, ground := Ground.guard }], guard := some (17, true) }) (v := undef) rfl (by kernel_rfl) (by kernel_rfl) (by kernel_rfl) (fun _ _ _ h => h) (Or.inr ⟨by rfl, rfl⟩) hHeld ?_
            try simp only [Act.put, List.setIfInBounds_toArray, List.set_cons_zero, List.set_cons_succ]
            refine wpAnyH_take (i := 28) (oi := { dst := some 66, op := Op.load 3 (Operand.tmp 65), type := 3, pos := "ref.go:153", after := #[{ on := 27, ground := Ground.data }, { on := 17, ground := Ground.guard }], guard := some (17, true) }) (v := undef) rfl (by kernel_rfl) (by kernel_rfl) (by kernel_rfl) (fun _ _ _ h => h) (Or.inr ⟨by rfl, rfl⟩) hHeld ?_
            try simp only [Act.put, List.setIfInBounds_toArray, List.set_cons_zero, List.set_cons_succ]
            refine wpAnyH_take (i := 29) (oi := { dst := some 67, op := Op.binOp BinOp.add 3 (Operand.tmp 66) (Operand.const (Value.int IntKind.i64 1)) 3, type := 3, pos := "ref.go:153", after := #[{ on := 28, ground := Ground.data }, { on := 17, ground := Ground.guard }], guard := some (17, true) }) (v := undef) rfl (by kernel_rfl) (by kernel_rfl) (by kernel_rfl) (fun _ _ _ h => h) (Or.inr ⟨by rfl, rfl⟩) hHeld ?_
            try simp only [Act.put, List.setIfInBounds_toArray, List.set_cons_zero, List.set_cons_succ]
            refine wpAnyH_take (i := 30) (oi := { dst := some 68, op := Op.binOp BinOp.neq 3 (Operand.tmp 60) (Operand.tmp 67) 3, type := 4, pos := "ref.go:153", after := #[{ on := 22, ground := Ground.data }, { on := 29, ground := Ground.data }, { on := 17, ground := Ground.guard }], guard := some (17, true) }) (v := undef) rfl (by kernel_rfl) (by kernel_rfl) (by kernel_rfl) (fun _ _ _ h => h) (Or.inr ⟨by rfl, rfl⟩) hHeld ?_
            try simp only [Act.put, List.setIfInBounds_toArray, List.set_cons_zero, List.set_cons_succ]
            refine wpAnyH_take (i := 31) (oi := { dst := some 69, op := Op.pick (Operand.tmp 55) (Operand.tmp 68) (Operand.const (Value.bool false)), type := 4, pos := "ref.go:153", after := #[{ on := 17, ground := Ground.data }, { on := 30, ground := Ground.data }, { on := 14, ground := Ground.guard }], guard := some (14, false) }) (v := undef) rfl (by kernel_rfl) (by kernel_rfl) (by kernel_rfl) (fun _ _ _ h => h) (Or.inr ⟨by rfl, rfl⟩) hHeld ?_
            try simp only [Act.put, List.setIfInBounds_toArray, List.set_cons_zero, List.set_cons_succ]
            refine wpAnyH_take (i := 32) (oi := { dst := some 70, op := Op.pick (Operand.tmp 52) (Operand.const (Value.bool true)) (Operand.tmp 69), type := 4, pos := "ref.go:153", after := #[{ on := 14, ground := Ground.data }, { on := 31, ground := Ground.data }], guard := none }) (v := ?_) rfl (by kernel_rfl) (by kernel_rfl) (by kernel_rfl) (fun _ _ _ h => h) (Or.inl ⟨by rfl, ?_⟩) hHeld ?_
            rotate_left
            · intro w hSw
              try dsimp only at hSw
              go_simp
              with_reducible rfl
            try simp only [Act.put, List.setIfInBounds_toArray, List.set_cons_zero, List.set_cons_succ]
            refine wpAnyH_take (i := 33) (oi := { dst := some 71, op := Op.move (Operand.tmp 70), type := 4, pos := "ref.go:153", after := #[{ on := 32, ground := Ground.data }, { on := 17, ground := Ground.chain }], guard := none }) (v := ?_) rfl (by kernel_rfl) (by kernel_rfl) (by kernel_rfl) (fun _ _ _ h => h) (Or.inl ⟨by rfl, ?_⟩) hHeld ?_
            rotate_left
            · intro w hSw
              try dsimp only at hSw
              go_simp
              with_reducible rfl
            try simp only [Act.put, List.setIfInBounds_toArray, List.set_cons_zero, List.set_cons_succ]
            refine wpAnyH_take (i := 34) (oi := { dst := some 72, op := Op.move (Operand.tmp 9), type := 4, pos := "ref.go:153", after := #[{ on := 33, ground := Ground.guard }], guard := some (33, false) }) (v := undef) rfl (by kernel_rfl) (by kernel_rfl) (by kernel_rfl) (fun _ _ _ h => h) (Or.inr ⟨by rfl, rfl⟩) hHeld ?_
            try simp only [Act.put, List.setIfInBounds_toArray, List.set_cons_zero, List.set_cons_succ]
            refine wpAnyH_take (i := 35) (oi := { dst := some 73, op := Op.unOp UnOp.not 4 (Operand.tmp 72), type := 4, pos := "ref.go:153", after := #[{ on := 34, ground := Ground.data }, { on := 33, ground := Ground.guard }], guard := some (33, false) }) (v := undef) rfl (by kernel_rfl) (by kernel_rfl) (by kernel_rfl) (fun _ _ _ h => h) (Or.inr ⟨by rfl, rfl⟩) hHeld ?_
            try simp only [Act.put, List.setIfInBounds_toArray, List.set_cons_zero, List.set_cons_succ]
            refine wpAnyH_take (i := 36) (oi := { dst := some 74, op := Op.move (Operand.tmp 73), type := 4, pos := "ref.go:153", after := #[{ on := 35, ground := Ground.data }, { on := 33, ground := Ground.chain }, { on := 33, ground := Ground.guard }], guard := some (33, false) }) (v := undef) rfl (by kernel_rfl) (by kernel_rfl) (by kernel_rfl) (fun _ _ _ h => h) (Or.inr ⟨by rfl, rfl⟩) hHeld ?_
            try simp only [Act.put, List.setIfInBounds_toArray, List.set_cons_zero, List.set_cons_succ]
            refine wpAnyH_take (i := 37) (oi := { dst := some 75, op := Op.move (Operand.tmp 1), type := 38, pos := "ref.go:153", after := #[{ on := 36, ground := Ground.guard }], guard := some (36, true) }) (v := undef) rfl (by kernel_rfl) (by kernel_rfl) (by kernel_rfl) (fun _ _ _ h => h) (Or.inr ⟨by rfl, rfl⟩) hHeld ?_
            try simp only [Act.put, List.setIfInBounds_toArray, List.set_cons_zero, List.set_cons_succ]
            refine wpAnyH_take (i := 38) (oi := { dst := some 76, op := Op.move (Operand.tmp 7), type := 3, pos := "ref.go:153", after := #[{ on := 36, ground := Ground.guard }], guard := some (36, true) }) (v := undef) rfl (by kernel_rfl) (by kernel_rfl) (by kernel_rfl) (fun _ _ _ h => h) (Or.inr ⟨by rfl, rfl⟩) hHeld ?_
            try simp only [Act.put, List.setIfInBounds_toArray, List.set_cons_zero, List.set_cons_succ]
            refine wpAnyH_take (i := 39) (oi := { dst := some 77, op := Op.indexAddr 38 (Operand.tmp 75) (Operand.tmp 76), type := 0, pos := "ref.go:153", after := #[{ on := 37, ground := Ground.data }, { on := 38, ground := Ground.data }, { on := 36, ground := Ground.guard }], guard := some (36, true) }) (v := undef) rfl (by kernel_rfl) (by kernel_rfl) (by kernel_rfl) (fun _ _ _ h => h) (Or.inr ⟨by rfl, rfl⟩) hHeld ?_
            try simp only [Act.put, List.setIfInBounds_toArray, List.set_cons_zero, List.set_cons_succ]
            refine wpAnyH_take (i := 40) (oi := { dst := some 78, op := Op.fieldAddr 53 (Operand.tmp 77) 3, type := 0, pos := "ref.go:153", after := #[{ on := 39, ground := Ground.data }, { on := 36, ground := Ground.guard }], guard := some (36, true) }) (v := undef) rfl (by kernel_rfl) (by kernel_rfl) (by kernel_rfl) (fun _ _ _ h => h) (Or.inr ⟨by rfl, rfl⟩) hHeld ?_
            try simp only [Act.put, List.setIfInBounds_toArray, List.set_cons_zero, List.set_cons_succ]
            refine wpAnyH_take (i := 41) (oi := { dst := some 79, op := Op.load 9 (Operand.tmp 78), type := 9, pos := "ref.go:153", after := #[{ on := 40, ground := Ground.data }, { on := 36, ground := Ground.guard }], guard := some (36, true) }) (v := undef) rfl (by kernel_rfl) (by kernel_rfl) (by kernel_rfl) (fun _ _ _ h => h) (Or.inr ⟨by rfl, rfl⟩) hHeld ?_
            try simp only [Act.put, List.setIfInBounds_toArray, List.set_cons_zero, List.set_cons_succ]
            refine wpAnyH_take (i := 42) (oi := { dst := some 80, op := Op.call { callee := Callee.value (Operand.func 28), args := #[], argTypes := #[] }, type := 9, pos := "ref.go:153", after := #[{ on := 36, ground := Ground.chain }, { on := 36, ground := Ground.guard }], guard := some (36, true) }) (v := undef) rfl (by kernel_rfl) (by kernel_rfl) (by kernel_rfl) (fun _ _ _ h => h) (Or.inr ⟨by rfl, rfl⟩) hHeld ?_
            try simp only [Act.put, List.setIfInBounds_toArray, List.set_cons_zero, List.set_cons_succ]
            refine wpAnyH_take (i := 43) (oi := { dst := some 81, op := Op.binOp BinOp.neq 9 (Operand.tmp 79) (Operand.tmp 80) 9, type := 4, pos := "ref.go:153", after := #[{ on := 41, ground := Ground.data }, { on := 42, ground := Ground.data }, { on := 36, ground := Ground.guard }], guard := some (36, true) }) (v := undef) rfl (by kernel_rfl) (by kernel_rfl) (by kernel_rfl) (fun _ _ _ h => h) (Or.inr ⟨by rfl, rfl⟩) hHeld ?_
            try simp only [Act.put, List.setIfInBounds_toArray, List.set_cons_zero, List.set_cons_succ]
            refine wpAnyH_take (i := 44) (oi := { dst := some 82, op := Op.pick (Operand.tmp 74) (Operand.tmp 81) (Operand.const (Value.bool false)), type := 4, pos := "ref.go:153", after := #[{ on := 36, ground := Ground.data }, { on := 43, ground := Ground.data }, { on := 33, ground := Ground.guard }], guard := some (33, false) }) (v := undef) rfl (by kernel_rfl) (by kernel_rfl) (by kernel_rfl) (fun _ _ _ h => h) (Or.inr ⟨by rfl, rfl⟩) hHeld ?_
            try simp only [Act.put, List.setIfInBounds_toArray, List.set_cons_zero, List.set_cons_succ]
            refine wpAnyH_take (i := 45) (oi := { dst := some 83, op := Op.pick (Operand.tmp 71) (Operand.const (Value.bool true)) (Operand.tmp 82), type := 4, pos := "ref.go:153", after := #[{ on := 33, ground := Ground.data }, { on := 44, ground := Ground.data }], guard := none }) (v := ?_) rfl (by kernel_rfl) (by kernel_rfl) (by kernel_rfl) (fun _ _ _ h => h) (Or.inl ⟨by rfl, ?_⟩) hHeld ?_
            rotate_left
            · intro w hSw
              try dsimp only at hSw
              go_simp
              with_reducible rfl
            try simp only [Act.put, List.setIfInBounds_toArray, List.set_cons_zero, List.set_cons_succ]
            refine wpAnyH_done (by kernel_rfl) ?_ _
            refine NoPanic.normal ?_
            obtain ⟨-, -, -, -, -, -, -, -, HO2, L⟩ := hHeld
            go_wp2_with fail
            go_meet
            exact ⟨by rw [HR.out]; rfl, HO2, L⟩
        case rest =>
          obtain ⟨rfl, HOw, L⟩ := hcut
          have HO3 := hid HOw
          have y6 := below_cell L H6.out
          have hLz := L.size
          clear HOw HVa HP x0 x1 x2 x3 x4 x5 x6 HOW hbel hbz
          obtain ⟨w3, hw3⟩ : ∃ W : World, W = wc := ⟨_, rfl⟩
          subst hw3
          by_cases hg : gdS s xss i = true
          · have HG2 := hid (HG.out.snoc hg)
            rw [hg]
            clear hg
            cases U
            · have HO5 : Hid (w3.ownsRow w.heap.size 9 1 u6 (colX s xss (i + 1)).length (strV (colX s xss (i + 1)))) := by
                unfold Hid
                rw [HC.out, if_neg (by rw [← HU.out]; decide), List.append_nil]; exact HO3.out
              go_wp2_with fail
              go_roundw
              case rel => exact ⟨i + 1, by omega, by go_num, HG2.out, HO5.out, L⟩
              case measure => simp [RowKit.intOf]; omega
            · go_wp2_with (at_builtin; refine wpList_append_own _ rfl _ _ 37 rfl w.heap.size 9 i0 (.string { data := #[] }) 1 16 Try.underlying37 hi hz0 hz1 hz2 rfl (by decide) _ _ _ rfl (HO3.out.alloc _) ⟨w3.heap.size, 0, none⟩ 1 1 [.string xd] rfl rfl ?c1 ?c2 ?c3 ?c4 ?c5 ?_)
              case c2 => first | rfl | (intro u hu; simp at hu; subst hu; rfl)
              case c3 => unfold maxLen; omega
              case c4 => omega
              case c5 => first | omega | (simp; omega)
              intro v5 w5 hown5 hgrow5 _
              have hb5 : Below w.heap.size w w5 := (balloc L _).grown hgrow5 (by simp; omega) (fun r hr => (HO3.out.lt r hr).1)
              have HO5 : Hid (w5.ownsRow w.heap.size 9 1 v5 (colX s xss (i + 1)).length (strV (colX s xss (i + 1)))) := by
                unfold Hid
                rw [HC.out, if_pos HU.out.symm, List.length_append]
                have := hown5
                unfold strV at this ⊢
                rw [List.map_append]; exact this
              clear hown5 hgrow5
              go_wp2_with fail
              go_roundw
              case rel => exact ⟨i + 1, by omega, by go_num, HG2.out, HO5.out, hb5⟩
              case measure => simp [RowKit.intOf]; omega
          · have hNG := hid (notG (s := s) (show gdS s xss i = false by simpa using hg) hlt)
            rw [show gdS s xss i = false by simpa using hg]
            clear hg
            go_wp2_with fail
            go_ret2
            exact ⟨.inr ⟨rfl, by rw [HN.out]; exact hNG.out⟩, L⟩
    · have hie : i = n := by omega
      have d1 : decide ((i : Int) < (n : Int)) = false := decide_eq_false (by omega)
      rw [hie] at hown hG
      have HO2 := hid hown
      have HG := hid hG
      clear hown hG
      go_wp2_with fail
      go_ret2
      exact ⟨.inl ⟨u6, rfl, by rw [HN.out]; exact HO2.out, by rw [HN.out]; exact HG.out⟩, hbel⟩
end Go.Proofs.Ytpcfjlfdjkifgaa

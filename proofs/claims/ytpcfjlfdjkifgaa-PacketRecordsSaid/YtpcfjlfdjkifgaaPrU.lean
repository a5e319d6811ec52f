/-
  For PacketRecords: the contract of Collect at any sectors. (The body is printed by wip/tools/gencol.py.)
-/
import Derived.Test.YtpcfjlfdjkifgaaPrS
import Derived.Test.YtpcfjlfdjkifgaaPrT
import Derived.OpenShut
namespace Go.Proofs.Ytpcfjlfdjkifgaa
open Go.RowKit Go.Lib
set_option linter.unusedVariables false
set_option linter.unusedSimpArgs false

theorem ba_inj {x y : ByteArray} (h : x.toList = y.toList) : x = y := by
  rw [ByteArray.toList_eq, ByteArray.toList_eq] at h
  exact ByteArray.ext (Array.toList_inj.1 h)
theorem valid_any (x : Sec7) (hw : x.wf) (w : World) :
    Calls Try.prog 38 #[.agg #[.int .i64 x.l, .int .i64 x.m, .int .i64 x.f, .int .i64 x.c, .int .i64 x.s, .int .i64 x.k, .string x.d]] w fun e w' => e = .returned (.bool (vldB x.l x.m x.f x.c x.s x.k x.d.size)) ∧ Below w.heap.size w w' := by
  have hb := bounds_i64 hw.1
  by_cases hl : -150 ≤ x.l ∧ x.l ≤ 449849
  · have := vld_near x.l x.m x.f x.c x.s x.k x.d hl w
    unfold vldB
    rw [decide_eq_true hl, Bool.true_and]; exact this
  · have := vld_far x.l x.m x.f x.c x.s x.k x.d (by omega) hb w
    unfold vldB
    rw [decide_eq_false hl, Bool.false_and]; exact this
theorem vldB_true {l m f c s k n : Int} (h : vldB l m f c s k n = true) : (-150 ≤ l ∧ l ≤ 449849) ∧ m = 0 ∧ f = 0 ∧ c = 0 ∧ s = 0 ∧ k = 0 ∧ n = 2048 := by
  unfold vldB at h
  rw [Bool.and_eq_true, Bool.and_eq_true] at h
  obtain ⟨h1, h2, h3⟩ := h
  obtain ⟨a, b, c, d, e⟩ := of_decide_eq_true h2
  exact ⟨of_decide_eq_true h1, a, b, c, d, e, of_decide_eq_true h3⟩
/-- Is sector i one that Collect takes? -/
def gdS (s : Nat) (xs : List Sec7) (i : Nat) : Bool :=
  match xs[i]? with
  | none => false
  | some x => vldB x.l x.m x.f x.c x.s x.k x.d.size && (match i with
      | 0 => true
      | j + 1 => match xs[j]? with
        | none => false
        | some p => decide (x.l = p.l + 1)) && (usr s i || decide (x.d = zeroS))
def allG (s : Nat) (xs : List Sec7) (n : Nat) : Prop := ∀ j, j < n → gdS s xs j = true
theorem allG.snoc {s : Nat} {xs : List Sec7} {i : Nat} (h : allG s xs i) (h2 : gdS s xs i = true) : allG s xs (i + 1) := fun j hj => by
  by_cases e : j = i
  · rw [e]; exact h2
  · exact h j (by omega)
theorem notG {s : Nat} {xs : List Sec7} {i n : Nat} (h : gdS s xs i = false) (hi : i < n) : ¬ allG s xs n := fun g => by
  have := g i hi
  rw [h] at this; exact absurd this (by decide)
theorem gdS_yes {s : Nat} {xs : List Sec7} {i : Nat} {x : Sec7} (hx : xs[i]? = some x) (hv : vldB x.l x.m x.f x.c x.s x.k x.d.size = true) (hp : i = 0 ∨ ∃ j p, i = j + 1 ∧ xs[j]? = some p ∧ x.l = p.l + 1) (hu : usr s i = true ∨ x.d = zeroS) : gdS s xs i = true := by
  have h3 : (usr s i || decide (x.d = zeroS)) = true := by
    rcases hu with h | h
    · rw [h]; rfl
    · rw [decide_eq_true h, Bool.or_true]
  unfold gdS
  rw [hx]
  dsimp only
  rw [hv, h3]
  rcases hp with rfl | ⟨j, p, rfl, h1, h2⟩
  · rfl
  · dsimp only
    rw [h1]
    dsimp only
    rw [decide_eq_true h2]; rfl
theorem gdS_no1 {s : Nat} {xs : List Sec7} {i : Nat} {x : Sec7} (hx : xs[i]? = some x) (hv : vldB x.l x.m x.f x.c x.s x.k x.d.size = false) : gdS s xs i = false := by
  unfold gdS
  rw [hx]
  dsimp only
  rw [hv, Bool.false_and, Bool.false_and]
theorem gdS_no2 {s : Nat} {xs : List Sec7} {i j : Nat} {x p : Sec7} (hx : xs[i]? = some x) (hij : i = j + 1) (hp : xs[j]? = some p) (hl : ¬ x.l = p.l + 1) : gdS s xs i = false := by
  subst hij
  unfold gdS
  rw [hx]
  dsimp only
  rw [hp]
  dsimp only
  rw [decide_eq_false hl, Bool.and_false, Bool.false_and]
theorem gdS_no3 {s : Nat} {xs : List Sec7} {i : Nat} {x : Sec7} (hx : xs[i]? = some x) (h1 : ¬ usr s i = true) (h2 : ¬ x.d = zeroS) : gdS s xs i = false := by
  unfold gdS
  rw [hx]
  dsimp only
  rw [show usr s i = false by simpa using h1, decide_eq_false h2, Bool.or_false, Bool.and_false]
theorem gdS_range {s : Nat} {xs : List Sec7} {i : Nat} {x : Sec7} (hx : xs[i]? = some x) (h : gdS s xs i = true) : -150 ≤ x.l ∧ x.l ≤ 449849 := by
  cases hv : vldB x.l x.m x.f x.c x.s x.k x.d.size with
  | false => rw [gdS_no1 hx hv] at h; exact absurd h (by decide)
  | true => exact (vldB_true hv).1
/-- What the first sectors give. -/
def colX (s : Nat) (xs : List Sec7) (i : Nat) : List ByteArray := colL s (xs.map Sec7.d) i
theorem colX_succ (s : Nat) (xs : List Sec7) (i : Nat) (x : Sec7) (hx : xs[i]? = some x) : colX s xs (i + 1) = colX s xs i ++ (if usr s i = true then [x.d] else []) := by
  unfold colX
  rw [colL_succ, List.getD_eq_getElem?_getD, List.getElem?_map, hx]; rfl
theorem colX_le (s : Nat) (xs : List Sec7) (i : Nat) : (colX s xs i).length ≤ i := colL_le _ _ _
theorem SecR.form {w : World} {v : Value} {xs : List Sec7} (h : SecR w v xs) (h0 : 0 < xs.length) : ∃ (g o cap : Nat), v = .slice (some ⟨g, o, none⟩) xs.length cap ∧ xs.length ≤ cap ∧ cap ≤ maxLen ∧ ∀ (i : Nat) (x : Sec7), xs[i]? = some x → ∀ (j : Nat) (u : Value), x.cells[j]? = some u → w.cell? ⟨g, o + (i * 7 + j), none⟩ = some u := by
  rcases h.is with ⟨rfl, _⟩ | h
  · simp at h0
  · exact h
theorem SecR.len {w : World} {v : Value} {xs : List Sec7} (h : SecR w v xs) : ∃ p cap, v = .slice p xs.length cap := by
  rcases h.is with ⟨rfl, p, cap, rfl⟩ | ⟨g, o, cap, h1, _⟩
  · exact ⟨p, cap, rfl⟩
  · exact ⟨_, cap, h1⟩

set_option maxRecDepth 20000 in
set_option maxHeartbeats 6000000 in
theorem Collect_any (s : Nat) (hs : 1 ≤ s ∧ s ≤ 1024) (xss : List Sec7) (hT : xss.length % (s + 7) = 0) (hT2 : xss.length ≤ 4096) (v : Value) (w : World) (ho : SecR w v xss) :
    Calls Try.prog 23 #[.int .i64 (s : Int), v] w fun e w' => ((∃ vo, e = .returned (.tuple #[vo, .int .i64 0]) ∧ w'.ownsRow w.heap.size 9 1 vo (colX s xss xss.length).length (strV (colX s xss xss.length)) ∧ allG s xss xss.length) ∨ (e = .returned (.tuple #[.slice none 0 0, .int .i64 10]) ∧ ¬ allG s xss xss.length)) ∧ Below w.heap.size w w' := by
  have HS : Hid (∀ w : World, Calls Try.prog 34 #[.int .i64 (s : Int)] w fun e w' => e = .returned (.bool true) ∧ w = w') := fun w => by
    have := sized_any (s : Int) w
    rwa [show szB (s : Int) = true from decide_eq_true (by omega)] at this
  have HZ := hid (fun w => zeros_any w)
  obtain ⟨i0, hi, hz0, hz1, hz2⟩ := info_S
  have HO := hid ho
  obtain ⟨p, cap, rfl⟩ := ho.len
  have hm : (xss.length : Int) % ((s : Int) + 7) = 0 := by rw [show (s : Int) + 7 = ((s + 7 : Nat) : Int) by omega, ← Int.natCast_emod, hT]; rfl
  have hs7 : ((s : Int) + 7 == 0) = false := by rw [beq_eq_false_iff_ne]; omega
  clear ho
  generalize hN : xss.length = n at *
  go_enter Try.func23, Try.ntmps23
  go_wp2_with fail
  refine (HS.out _).mono ?_
  rintro e w1 ⟨rfl, rfl⟩
  go_wp2_with fail
  clear hm hs7 hT
  go_loopw [6, 22] (fun vo c wr => ∃ i : Nat, i ≤ n ∧ c = .int .i64 i ∧ allG s xss i ∧ wr.ownsRow w.heap.size 9 1 vo (colX s xss i).length (strV (colX s xss i)) ∧ Below w.heap.size w wr) (fun _ c _ => n - (RowKit.intOf c).toNat)
  case atStart => exact ⟨0, Nat.zero_le _, rfl, fun j hj => absurd hj (Nat.not_lt_zero _), World.ownsRow_nil _ _ _ _, Below.refl _ _⟩
  case round =>
    obtain ⟨i, hin, rfl, hG, hown, hbel⟩ := hrel
    by_cases hlt : i < n
    · have d1 : decide ((i : Int) < (n : Int)) = true := decide_eq_true (by omega)
      have l1 : (i : Int) < (n : Int) := by omega
      obtain ⟨g, o, cap2, he, hg2, hg3, hcl⟩ := HO.out.form (by omega)
      injection he with he1 he2 he3
      subst he1 he3
      clear he2
      obtain ⟨x, hx⟩ : ∃ x, xss[i]? = some x := ⟨xss[i]'(by omega), List.getElem?_eq_getElem _⟩
      have hwf := HO.out.wf x (List.mem_of_getElem? hx)
      have hcx : ∀ (j : Nat) (u : Value), x.cells[j]? = some u → wr.cell? ⟨g, o + i * 7 + j, none⟩ = some u := fun j u hu => by
        rw [Nat.add_assoc]; exact below_cell hbel (hcl i x hx j u hu)
      have hp0 := fun (j : Nat) (y : Sec7) (h1 : xss[j]? = some y) => below_cell hbel (hcl j y h1 0 _ rfl)
      have hcs2 := colX_succ s xss i x hx
      have hcll := colX_le s xss i
      have hVa := hid (valid_any x hwf)
      obtain ⟨xl, xm, xf, xc, xs, xk, xd⟩ := x
      have x0 : wr.cell? ⟨g, o + i * 7, none⟩ = some (.int .i64 xl) := hcx 0 _ rfl
      have x1 : wr.cell? ⟨g, o + i * 7 + 1, none⟩ = some (.int .i64 xm) := hcx 1 _ rfl
      have x2 : wr.cell? ⟨g, o + i * 7 + 2, none⟩ = some (.int .i64 xf) := hcx 2 _ rfl
      have x3 : wr.cell? ⟨g, o + i * 7 + 3, none⟩ = some (.int .i64 xc) := hcx 3 _ rfl
      have x4 : wr.cell? ⟨g, o + i * 7 + 4, none⟩ = some (.int .i64 xs) := hcx 4 _ rfl
      have x5 : wr.cell? ⟨g, o + i * 7 + 5, none⟩ = some (.int .i64 xk) := hcx 5 _ rfl
      have x6 : wr.cell? ⟨g, o + i * 7 + 6, none⟩ = some (.string xd) := hcx 6 _ rfl
      have HOW := hid hown
      have Hx := hid hx
      have HG := hid hG
      obtain ⟨kL, kK⟩ := loc_kind s i hs (by omega)
      have HLo := hid (fun w => Locate_tup (s : Int) (i : Int) w)
      generalize (locP (s : Int) (i : Int)).1 = L0 at *
      generalize (locP (s : Int) (i : Int)).2.1 = L1 at *
      generalize (locP (s : Int) (i : Int)).2.2.1 = L2 at *
      generalize (locP (s : Int) (i : Int)).2.2.2 = L3 at *
      have hbz : w.heap.size ≤ wr.heap.size := hbel.size
      clear hown hx hG hwf hcl hcx
      go_wp2_with fail
      have X := Blk.made wr [.int .i64 xl, .int .i64 xm, .int .i64 xf, .int .i64 xc, .int .i64 xs, .int .i64 xk, .string xd] 53
      have L := balloc hbel (Obj.cells #[Value.int IntKind.i64 xl, Value.int IntKind.i64 xm, Value.int IntKind.i64 xf, Value.int IntKind.i64 xc, Value.int IntKind.i64 xs, Value.int IntKind.i64 xk, Value.string xd] 53)
      have HO2 := hid (HOW.out.alloc (Obj.cells #[Value.int IntKind.i64 xl, Value.int IntKind.i64 xm, Value.int IntKind.i64 xf, Value.int IntKind.i64 xc, Value.int IntKind.i64 xs, Value.int IntKind.i64 xk, Value.string xd] 53))
      have HP := hid (fun (j : Nat) (y : Sec7) (h1 : xss[j]? = some y) => alloc_cell (o := (Obj.cells #[Value.int IntKind.i64 xl, Value.int IntKind.i64 xm, Value.int IntKind.i64 xf, Value.int IntKind.i64 xc, Value.int IntKind.i64 xs, Value.int IntKind.i64 xk, Value.string xd] 53)) (hp0 j y h1))
      clear hp0 HOW x0 x1 x2 x3 x4 x5 x6 hbel
      generalize wr.alloc (Obj.cells #[Value.int IntKind.i64 xl, Value.int IntKind.i64 xm, Value.int IntKind.i64 xf, Value.int IntKind.i64 xc, Value.int IntKind.i64 xs, Value.int IntKind.i64 xk, Value.string xd] 53) = W at *
      generalize wr.heap.size = gx at *
      have x0 := X.cell 0 _ rfl; have x1 := X.cell 1 _ rfl; have x2 := X.cell 2 _ rfl; have x3 := X.cell 3 _ rfl; have x4 := X.cell 4 _ rfl; have x5 := X.cell 5 _ rfl; have x6 := X.cell 6 _ rfl
      by_cases hv : vldB xl xm xf xc xs xk xd.size = true
      · obtain ⟨hlr, rfl, rfl, rfl, rfl, rfl, hdz0⟩ := vldB_true hv
        have hVd : Hid (∀ w : World, Calls Try.prog 38 #[.agg #[.int .i64 xl, .int .i64 0, .int .i64 0, .int .i64 0, .int .i64 0, .int .i64 0, .string xd]] w fun e w' => e = .returned (.bool true) ∧ Below w.heap.size w w') := fun w => by
          have := hVa.out w
          rwa [hv] at this
        have HV := hid hv
        clear hv hVa
        by_cases hi0 : i = 0
        · have d5 : decide ((0 : Int) < (i : Int)) = false := decide_eq_false (by omega)
          have d5n : decide (0 < i) = false := decide_eq_false (by omega)
          have HGo : Hid ((usr s i = true ∨ xd = zeroS) → gdS s xss i = true) := fun h => gdS_yes Hx.out HV.out (.inl hi0) h
          have HGn : Hid (¬ usr s i = true → ¬ xd = zeroS → gdS s xss i = false) := fun h1 h2 => gdS_no3 Hx.out h1 h2
          clear hi0 HP
          have HO2' := HO2.out
          have hS := And.intro x0 (And.intro x1 (And.intro x2 (And.intro x3 (And.intro x4 (And.intro x5 (And.intro x6 (And.intro x0 (And.intro X (And.intro HO2' L)))))))))
          clear x0 x1 x2 x3 x4 x5 x6 X HO2 HO2' L
          refine wp_region_noPanic ?_
          refine wp_region_held_drew (S := (fun w' => w'.cell? ⟨gx, 0, none⟩ = some (.int .i64 xl) ∧ w'.cell? ⟨gx, 1, none⟩ = some (.int .i64 0) ∧ w'.cell? ⟨gx, 2, none⟩ = some (.int .i64 0) ∧ w'.cell? ⟨gx, 3, none⟩ = some (.int .i64 0) ∧ w'.cell? ⟨gx, 4, none⟩ = some (.int .i64 0) ∧ w'.cell? ⟨gx, 5, none⟩ = some (.int .i64 0) ∧ w'.cell? ⟨gx, 6, none⟩ = some (.string xd) ∧ w'.cell? ⟨gx, 0, none⟩ = some (.int .i64 xl) ∧ Blk w' gx [.int .i64 xl, .int .i64 0, .int .i64 0, .int .i64 0, .int .i64 0, .int .i64 0, .string xd] ∧ w'.ownsRow w.heap.size 9 1 u6 (colX s xss i).length (strV (colX s xss i)) ∧ Below w.heap.size w w')) (by kernel_rfl) (col_keep hS (bdrew (Below.refl _ _))) (fun hHeld => ?_)
          refine wpAnyH_take (i := 0) (oi := { dst := some 27, op := Op.load 53 (Operand.tmp 8), type := 53, pos := "packet.go:181", after := #[], guard := none }) (v := ?_) rfl (by kernel_rfl) (by kernel_rfl) (by kernel_rfl) (fun _ _ _ h => h) (Or.inl ⟨by rfl, ?_⟩) hHeld ?_
          rotate_left
          · intro w hSw
            try dsimp only at hSw
            go_simp
            with_reducible rfl
          try simp only [Act.put, List.setIfInBounds_toArray, List.set_cons_zero, List.set_cons_succ]
          refine wpAnyH_ready (rs := [1]) (by kernel_rfl) (by simp) ?_
          refine AllReadyH.cons (o := { dst := some 28, op := Op.call { callee := Callee.value (Operand.func 38), args := #[Operand.tmp 27], argTypes := #[53] }, type := 4, pos := "packet.go:181", after := #[{ on := 0, ground := Ground.data }], guard := none }) rfl (fun K hK => ?_) AllReadyH.nil
          go_simp
          go_at_call 38
          refine (hVd.out _).mono ?_
          rintro e w2 ⟨rfl, hb⟩
          have hbW := bthen (bdrew (Below.refl W.heap.size W)) hb
          go_wp2_with fail
          refine hK.out _ _ (col_keep hS hbW) (fun hHeld => ?_)
          clear hK K
          try simp only [Act.put, List.setIfInBounds_toArray, List.set_cons_zero, List.set_cons_succ]
          refine wpAnyH_take (i := 2) (oi := { dst := some 29, op := Op.unOp UnOp.not 4 (Operand.tmp 28), type := 4, pos := "packet.go:181", after := #[{ on := 1, ground := Ground.data }], guard := none }) (v := ?_) rfl (by kernel_rfl) (by kernel_rfl) (by kernel_rfl) (fun _ _ _ h => h) (Or.inl ⟨by rfl, ?_⟩) hHeld ?_
          rotate_left
          · intro w hSw
            try dsimp only at hSw
            go_simp
            with_reducible rfl
          try simp only [Act.put, List.setIfInBounds_toArray, List.set_cons_zero, List.set_cons_succ]
          refine wpAnyH_take (i := 3) (oi := { dst := some 30, op := Op.move (Operand.tmp 29), type := 4, pos := "packet.go:181", after := #[{ on := 2, ground := Ground.data }, { on := 1, ground := Ground.chain }], guard := none }) (v := ?_) rfl (by kernel_rfl) (by kernel_rfl) (by kernel_rfl) (fun _ _ _ h => h) (Or.inl ⟨by rfl, ?_⟩) hHeld ?_
          rotate_left
          · intro w hSw
            try dsimp only at hSw
            go_simp
            with_reducible rfl
          try simp only [Act.put, List.setIfInBounds_toArray, List.set_cons_zero, List.set_cons_succ]
          refine wpAnyH_take (i := 4) (oi := { dst := some 31, op := Op.move (Operand.tmp 7), type := 3, pos := "packet.go:181", after := #[{ on := 3, ground := Ground.guard }], guard := some (3, false) }) (v := ?_) rfl (by kernel_rfl) (by kernel_rfl) (by kernel_rfl) (fun _ _ _ h => h) (Or.inl ⟨by rfl, ?_⟩) hHeld ?_
          rotate_left
          · intro w hSw
            try dsimp only at hSw
            go_simp
            with_reducible rfl
          try simp only [Act.put, List.setIfInBounds_toArray, List.set_cons_zero, List.set_cons_succ]
          refine wpAnyH_take (i := 5) (oi := { dst := some 32, op := Op.binOp BinOp.gtr 3 (Operand.tmp 31) (Operand.const (Value.int IntKind.i64 0)) 3, type := 4, pos := "packet.go:181", after := #[{ on := 4, ground := Ground.data }, { on := 3, ground := Ground.guard }], guard := some (3, false) }) (v := ?_) rfl (by kernel_rfl) (by kernel_rfl) (by kernel_rfl) (fun _ _ _ h => h) (Or.inl ⟨by rfl, ?_⟩) hHeld ?_
          rotate_left
          · intro w hSw
            try dsimp only at hSw
            go_simp
            with_reducible rfl
          try simp only [Act.put, List.setIfInBounds_toArray, List.set_cons_zero, List.set_cons_succ]
          refine wpAnyH_take (i := 6) (oi := { dst := some 33, op := Op.move (Operand.tmp 32), type := 4, pos := "packet.go:181", after := #[{ on := 5, ground := Ground.data }, { on := 3, ground := Ground.chain }, { on := 3, ground := Ground.guard }], guard := some (3, false) }) (v := ?_) rfl (by kernel_rfl) (by kernel_rfl) (by kernel_rfl) (fun _ _ _ h => h) (Or.inl ⟨by rfl, ?_⟩) hHeld ?_
          rotate_left
          · intro w hSw
            try dsimp only at hSw
            go_simp
            with_reducible rfl
          try simp only [Act.put, List.setIfInBounds_toArray, List.set_cons_zero, List.set_cons_succ]
          refine wpAnyH_take (i := 7) (oi := { dst := some 34, op := Op.fieldAddr 53 (Operand.tmp 8) 0, type := 0, pos := "packet.go:181", after := #[{ on := 6, ground := Ground.guard }], guard := some (6, true) }) (v := undef) rfl (by kernel_rfl) (by kernel_rfl) (by kernel_rfl) (fun _ _ _ h => h) (Or.inr ⟨by rfl, rfl⟩) hHeld ?_
          try simp only [Act.put, List.setIfInBounds_toArray, List.set_cons_zero, List.set_cons_succ]
          refine wpAnyH_take (i := 8) (oi := { dst := some 35, op := Op.load 3 (Operand.tmp 34), type := 3, pos := "packet.go:181", after := #[{ on := 7, ground := Ground.data }, { on := 6, ground := Ground.guard }], guard := some (6, true) }) (v := undef) rfl (by kernel_rfl) (by kernel_rfl) (by kernel_rfl) (fun _ _ _ h => h) (Or.inr ⟨by rfl, rfl⟩) hHeld ?_
          try simp only [Act.put, List.setIfInBounds_toArray, List.set_cons_zero, List.set_cons_succ]
          refine wpAnyH_take (i := 9) (oi := { dst := some 36, op := Op.move (Operand.tmp 1), type := 38, pos := "packet.go:181", after := #[{ on := 6, ground := Ground.guard }], guard := some (6, true) }) (v := undef) rfl (by kernel_rfl) (by kernel_rfl) (by kernel_rfl) (fun _ _ _ h => h) (Or.inr ⟨by rfl, rfl⟩) hHeld ?_
          try simp only [Act.put, List.setIfInBounds_toArray, List.set_cons_zero, List.set_cons_succ]
          refine wpAnyH_take (i := 10) (oi := { dst := some 37, op := Op.move (Operand.tmp 7), type := 3, pos := "packet.go:181", after := #[{ on := 6, ground := Ground.guard }], guard := some (6, true) }) (v := undef) rfl (by kernel_rfl) (by kernel_rfl) (by kernel_rfl) (fun _ _ _ h => h) (Or.inr ⟨by rfl, rfl⟩) hHeld ?_
          try simp only [Act.put, List.setIfInBounds_toArray, List.set_cons_zero, List.set_cons_succ]
          refine wpAnyH_take (i := 11) (oi := { dst := some 38, op := Op.binOp BinOp.sub 3 (Operand.tmp 37) (Operand.const (Value.int IntKind.i64 1)) 3, type := 3, pos := "packet.go:181", after := #[{ on := 10, ground := Ground.data }, { on := 6, ground := Ground.guard }], guard := some (6, true) }) (v := undef) rfl (by kernel_rfl) (by kernel_rfl) (by kernel_rfl) (fun _ _ _ h => h) (Or.inr ⟨by rfl, rfl⟩) hHeld ?_
          try simp only [Act.put, List.setIfInBounds_toArray, List.set_cons_zero, List.set_cons_succ]
          refine wpAnyH_take (i := 12) (oi := { dst := some 39, op := Op.indexAddr 38 (Operand.tmp 36) (Operand.tmp 38), type := 0, pos := "packet.go:181", after := #[{ on := 9, ground := Ground.data }, { on := 11, ground := Ground.data }, { on := 6, ground := Ground.guard }], guard := some (6, true) }) (v := undef) rfl (by kernel_rfl) (by kernel_rfl) (by kernel_rfl) (fun _ _ _ h => h) (Or.inr ⟨by rfl, rfl⟩) hHeld ?_
          try simp only [Act.put, List.setIfInBounds_toArray, List.set_cons_zero, List.set_cons_succ]
          refine wpAnyH_take (i := 13) (oi := { dst := some 40, op := Op.fieldAddr 53 (Operand.tmp 39) 0, type := 0, pos := "packet.go:181", after := #[{ on := 12, ground := Ground.data }, { on := 6, ground := Ground.guard }], guard := some (6, true) }) (v := undef) rfl (by kernel_rfl) (by kernel_rfl) (by kernel_rfl) (fun _ _ _ h => h) (Or.inr ⟨by rfl, rfl⟩) hHeld ?_
          try simp only [Act.put, List.setIfInBounds_toArray, List.set_cons_zero, List.set_cons_succ]
          refine wpAnyH_take (i := 14) (oi := { dst := some 41, op := Op.load 3 (Operand.tmp 40), type := 3, pos := "packet.go:181", after := #[{ on := 13, ground := Ground.data }, { on := 6, ground := Ground.guard }], guard := some (6, true) }) (v := undef) rfl (by kernel_rfl) (by kernel_rfl) (by kernel_rfl) (fun _ _ _ h => h) (Or.inr ⟨by rfl, rfl⟩) hHeld ?_
          try simp only [Act.put, List.setIfInBounds_toArray, List.set_cons_zero, List.set_cons_succ]
          refine wpAnyH_take (i := 15) (oi := { dst := some 42, op := Op.binOp BinOp.add 3 (Operand.tmp 41) (Operand.const (Value.int IntKind.i64 1)) 3, type := 3, pos := "packet.go:181", after := #[{ on := 14, ground := Ground.data }, { on := 6, ground := Ground.guard }], guard := some (6, true) }) (v := undef) rfl (by kernel_rfl) (by kernel_rfl) (by kernel_rfl) (fun _ _ _ h => h) (Or.inr ⟨by rfl, rfl⟩) hHeld ?_
          try simp only [Act.put, List.setIfInBounds_toArray, List.set_cons_zero, List.set_cons_succ]
          refine wpAnyH_take (i := 16) (oi := { dst := some 43, op := Op.binOp BinOp.neq 3 (Operand.tmp 35) (Operand.tmp 42) 3, type := 4, pos := "packet.go:181", after := #[{ on := 8, ground := Ground.data }, { on := 15, ground := Ground.data }, { on := 6, ground := Ground.guard }], guard := some (6, true) }) (v := undef) rfl (by kernel_rfl) (by kernel_rfl) (by kernel_rfl) (fun _ _ _ h => h) (Or.inr ⟨by rfl, rfl⟩) hHeld ?_
          try simp only [Act.put, List.setIfInBounds_toArray, List.set_cons_zero, List.set_cons_succ]
          refine wpAnyH_take (i := 17) (oi := { dst := some 44, op := Op.pick (Operand.tmp 33) (Operand.tmp 43) (Operand.const (Value.bool false)), type := 4, pos := "packet.go:181", after := #[{ on := 6, ground := Ground.data }, { on := 16, ground := Ground.data }, { on := 3, ground := Ground.guard }], guard := some (3, false) }) (v := ?_) rfl (by kernel_rfl) (by kernel_rfl) (by kernel_rfl) (fun _ _ _ h => h) (Or.inl ⟨by rfl, ?_⟩) hHeld ?_
          rotate_left
          · intro w hSw
            try dsimp only at hSw
            go_simp
            with_reducible rfl
          try simp only [Act.put, List.setIfInBounds_toArray, List.set_cons_zero, List.set_cons_succ]
          refine wpAnyH_take (i := 18) (oi := { dst := some 45, op := Op.pick (Operand.tmp 30) (Operand.const (Value.bool true)) (Operand.tmp 44), type := 4, pos := "packet.go:181", after := #[{ on := 3, ground := Ground.data }, { on := 17, ground := Ground.data }], guard := none }) (v := ?_) rfl (by kernel_rfl) (by kernel_rfl) (by kernel_rfl) (fun _ _ _ h => h) (Or.inl ⟨by rfl, ?_⟩) hHeld ?_
          rotate_left
          · intro w hSw
            try dsimp only at hSw
            go_simp
            with_reducible rfl
          try simp only [Act.put, List.setIfInBounds_toArray, List.set_cons_zero, List.set_cons_succ]
          refine wpAnyH_done (by kernel_rfl) ?_ _
          refine NoPanic.normal ?_
          obtain ⟨-, -, -, -, -, -, -, -, X, HO2, L⟩ := hHeld
          clear d5 d5n
          go_wp2_with fail
          refine (HLo.out _).mono ?_
          rintro e w3 ⟨rfl, hb3⟩
          replace X := X.below hb3; replace L := bthen L hb3
          have HO3 := hid (own_below HO2 hb3)
          clear hb3 HO2
          have y0 := X.cell 0 _ rfl; have y1 := X.cell 1 _ rfl; have y2 := X.cell 2 _ rfl; have y3 := X.cell 3 _ rfl; have y4 := X.cell 4 _ rfl; have y5 := X.cell 5 _ rfl; have y6 := X.cell 6 _ rfl
          have xz := X.lt
          have hLz := L.size
          by_cases hu : usr s i = true
          · have d6 : (L1 == 2) = true := kK.trans hu
            rw [if_pos hu] at hcs2
            have hG2 := hid (HG.out.snoc (HGo.out (.inl hu)))
            clear hu kK
            go_wp2_with (at_builtin; refine wpList_append_own _ rfl _ _ 37 rfl w.heap.size 9 i0 (.string { data := #[] }) 1 16 Try.underlying37 hi hz0 hz1 hz2 rfl (by decide) _ _ _ rfl ((HO3.out.alloc _).alloc _) ⟨w3.heap.size + 1, 0, none⟩ 1 1 [.string xd] rfl rfl ?c1 ?c2 ?c3 ?c4 ?c5 ?_)
            case c1 =>
              intro j u hj
              match j, hj with
              | 0, hj => simp at hj; subst hj; simp [Addr.add]
            case c2 => intro u hu; simp at hu; subst hu; rfl
            case c3 => unfold maxLen; omega
            case c4 => omega
            case c5 => simp; omega
            intro v5 w5 hown5 hgrow5 _
            have hb5 : Below w.heap.size w w5 := (balloc (balloc L _) _).grown hgrow5 (by simp; omega) (fun r hr => (HO3.out.lt r hr).1)
            have HO5 : Hid (w5.ownsRow w.heap.size 9 1 v5 (colX s xss (i + 1)).length (strV (colX s xss (i + 1)))) := by
              unfold Hid
              rw [hcs2, List.length_append]
              have := hown5
              unfold strV at this ⊢
              rw [List.map_append]; exact this
            clear hown5 hgrow5 hcs2
            go_wp2_with fail
            go_roundw
            case rel => exact ⟨i + 1, by omega, by go_num, hG2.out, HO5.out, hb5⟩
            case measure => simp [RowKit.intOf]; omega
          · have d6 : (L1 == 2) = false := kK.trans (by simpa using hu)
            rw [if_neg hu, List.append_nil] at hcs2
            have HO5 : Hid (w3.ownsRow w.heap.size 9 1 u6 (colX s xss (i + 1)).length (strV (colX s xss (i + 1)))) := by
              unfold Hid; rw [hcs2]; exact HO3.out
            have HU := hid hu
            clear hu kK hcs2
            go_wp2_with fail
            have L4 := balloc L (.cells #[.int .i64 L0, .int .i64 L1, .int .i64 L2] 27)
            have HO6 := HO5.out.alloc (.cells #[.int .i64 L0, .int .i64 L1, .int .i64 L2] 27)
            have y9 := alloc_cell (o := .cells #[.int .i64 L0, .int .i64 L1, .int .i64 L2] 27) y6
            have hS2 := And.intro y9 (And.intro HO6 L4)
            clear y0 y1 y2 y3 y4 y5 y6 y9 HO3 HO5 HO6 L4 L X
            generalize w3.alloc (Obj.cells #[Value.int IntKind.i64 L0, Value.int IntKind.i64 L1, Value.int IntKind.i64 L2] 27) = W4 at *
            by_cases hdz : xd = zeroS
            · have q9 : (xd.toList == zeroS.toList) = true := by rw [hdz]; exact beq_self_eq_true _
              have hG2 := hid (HG.out.snoc (HGo.out (.inr hdz)))
              clear hdz
              generalize hZz : zeroS = Zz at *
              go_region_held3 (fun w' => w'.cell? ⟨gx, 6, none⟩ = some (.string xd) ∧ w'.ownsRow w.heap.size 9 1 u6 (colX s xss (i + 1)).length (strV (colX s xss (i + 1))) ∧ Below w.heap.size w w')
                (with_reducible first | exact zk_keep hS2 hbW | exact zk_keep hS2 (bdrew (Below.refl _ _)))
                (first | (go_at_call 35; refine (HZ.out _).mono ?_; rintro e w4 ⟨rfl, hb⟩; have hbW := bthen (bdrew (Below.refl W4.heap.size W4)) hb))
              rename_i hh
              obtain ⟨-, HO8, L8⟩ := hh
              have HO9 := hid HO8
              clear HO8
              go_wp2_with fail
              go_roundw
              case rel => exact ⟨i + 1, by omega, by go_num, hG2.out, HO9.out, L8⟩
              case measure => simp [RowKit.intOf]; omega
            · have q9 : (xd.toList == zeroS.toList) = false := beq_eq_false_iff_ne.2 (fun h => hdz (ba_inj h))
              have hNG := hid (notG (HGn.out HU.out hdz) hlt)
              clear hdz
              generalize hZz : zeroS = Zz at *
              go_region_held3 (fun w' => w'.cell? ⟨gx, 6, none⟩ = some (.string xd) ∧ w'.ownsRow w.heap.size 9 1 u6 (colX s xss (i + 1)).length (strV (colX s xss (i + 1))) ∧ Below w.heap.size w w')
                (with_reducible first | exact zk_keep hS2 hbW | exact zk_keep hS2 (bdrew (Below.refl _ _)))
                (first | (go_at_call 35; refine (HZ.out _).mono ?_; rintro e w4 ⟨rfl, hb⟩; have hbW := bthen (bdrew (Below.refl W4.heap.size W4)) hb))
              rename_i hh
              obtain ⟨-, -, L8⟩ := hh
              go_wp2_with fail
              go_ret2
              exact ⟨.inr ⟨rfl, hNG.out⟩, L8⟩
        · obtain ⟨j, hj⟩ : ∃ j : Nat, (i : Int) - 1 = (j : Int) := ⟨i - 1, by omega⟩
          have hij : i = j + 1 := by omega
          have d5 : decide ((0 : Int) < (i : Int)) = true := decide_eq_true (by omega)
          obtain ⟨p, hp⟩ : ∃ p, xss[j]? = some p := ⟨xss[j]'(by omega), List.getElem?_eq_getElem _⟩
          have hpr := gdS_range hp (HG.out j (by omega))
          have xp : W.cell? ⟨g, o + j * 7, none⟩ = some (.int .i64 p.l) := HP.out j p hp
          have l3 : (j : Int) < (n : Int) := by omega
          have l3n : j < n := by omega
          have hjw2 : IntKind.i64.wrap (j : Int) = (j : Int) := IntWalk.i64_in _ (by omega)
          have KI : ∀ w : World, (Instr.indexAt 38 (.slice (some ⟨g, o, none⟩) n cap) (.int .i64 (j : Int))).run Try.prog w = .ok (.pointer (some ⟨g, o + j * 7, none⟩)) w := fun w => by simp [go_sem, l3, Addr.add]
          have hjw : IntKind.i64.wrap ((i : Int) - 1) = (j : Int) := by rw [hj]; exact IntWalk.i64_in _ (by omega)
          have q7 : IntKind.i64.wrap (p.l + 1) = p.l + 1 := IntWalk.i64_in _ (by omega)
          have d5n : decide (0 < i) = true := decide_eq_true (by omega)
          have HGn : Hid (¬ usr s i = true → ¬ xd = zeroS → gdS s xss i = false) := fun h1 h2 => gdS_no3 Hx.out h1 h2
          have HO2' := HO2.out
          have hS := And.intro x0 (And.intro x1 (And.intro x2 (And.intro x3 (And.intro x4 (And.intro x5 (And.intro x6 (And.intro xp (And.intro X (And.intro HO2' L)))))))))
          clear x0 x1 x2 x3 x4 x5 x6 xp X HO2 HO2' L HP
          by_cases hlp : xl = p.l + 1
          · have q8 : (xl != p.l + 1) = false := by rw [hlp]; exact bne_self_eq_false _
            have HGo : Hid ((usr s i = true ∨ xd = zeroS) → gdS s xss i = true) := fun h => gdS_yes Hx.out HV.out (.inr ⟨j, p, hij, hp, hlp⟩) h
            generalize hpl : p.l = pl at *
            clear hlp hpr hij hp
            go_region_held3 (fun w' => w'.cell? ⟨gx, 0, none⟩ = some (.int .i64 xl) ∧ w'.cell? ⟨gx, 1, none⟩ = some (.int .i64 0) ∧ w'.cell? ⟨gx, 2, none⟩ = some (.int .i64 0) ∧ w'.cell? ⟨gx, 3, none⟩ = some (.int .i64 0) ∧ w'.cell? ⟨gx, 4, none⟩ = some (.int .i64 0) ∧ w'.cell? ⟨gx, 5, none⟩ = some (.int .i64 0) ∧ w'.cell? ⟨gx, 6, none⟩ = some (.string xd) ∧ w'.cell? ⟨g, o + j * 7, none⟩ = some (.int .i64 pl) ∧ Blk w' gx [.int .i64 xl, .int .i64 0, .int .i64 0, .int .i64 0, .int .i64 0, .int .i64 0, .string xd] ∧ w'.ownsRow w.heap.size 9 1 u6 (colX s xss i).length (strV (colX s xss i)) ∧ Below w.heap.size w w')
              (with_reducible first | exact col_keep hS hbW | exact col_keep hS (bdrew (Below.refl _ _)))
              (first | (go_at_call 38; refine (hVd.out _).mono ?_; rintro e w2 ⟨rfl, hb⟩; have hbW := bthen (bdrew (Below.refl W.heap.size W)) hb))
            rename_i hh
            obtain ⟨-, -, -, -, -, -, -, -, X, HO2, L⟩ := hh
            go_wp2_with fail
            refine (HLo.out _).mono ?_
            rintro e w3 ⟨rfl, hb3⟩
            replace X := X.below hb3; replace L := bthen L hb3
            have HO3 := hid (own_below HO2 hb3)
            clear hb3 HO2
            have y0 := X.cell 0 _ rfl; have y1 := X.cell 1 _ rfl; have y2 := X.cell 2 _ rfl; have y3 := X.cell 3 _ rfl; have y4 := X.cell 4 _ rfl; have y5 := X.cell 5 _ rfl; have y6 := X.cell 6 _ rfl
            have xz := X.lt
            have hLz := L.size
            by_cases hu : usr s i = true
            · have d6 : (L1 == 2) = true := kK.trans hu
              rw [if_pos hu] at hcs2
              have hG2 := hid (HG.out.snoc (HGo.out (.inl hu)))
              clear hu kK
              go_wp2_with (at_builtin; refine wpList_append_own _ rfl _ _ 37 rfl w.heap.size 9 i0 (.string { data := #[] }) 1 16 Try.underlying37 hi hz0 hz1 hz2 rfl (by decide) _ _ _ rfl ((HO3.out.alloc _).alloc _) ⟨w3.heap.size + 1, 0, none⟩ 1 1 [.string xd] rfl rfl ?c1 ?c2 ?c3 ?c4 ?c5 ?_)
              case c1 =>
                intro j u hj
                match j, hj with
                | 0, hj => simp at hj; subst hj; simp [Addr.add]
              case c2 => intro u hu; simp at hu; subst hu; rfl
              case c3 => unfold maxLen; omega
              case c4 => omega
              case c5 => simp; omega
              intro v5 w5 hown5 hgrow5 _
              have hb5 : Below w.heap.size w w5 := (balloc (balloc L _) _).grown hgrow5 (by simp; omega) (fun r hr => (HO3.out.lt r hr).1)
              have HO5 : Hid (w5.ownsRow w.heap.size 9 1 v5 (colX s xss (i + 1)).length (strV (colX s xss (i + 1)))) := by
                unfold Hid
                rw [hcs2, List.length_append]
                have := hown5
                unfold strV at this ⊢
                rw [List.map_append]; exact this
              clear hown5 hgrow5 hcs2
              go_wp2_with fail
              go_roundw
              case rel => exact ⟨i + 1, by omega, by go_num, hG2.out, HO5.out, hb5⟩
              case measure => simp [RowKit.intOf]; omega
            · have d6 : (L1 == 2) = false := kK.trans (by simpa using hu)
              rw [if_neg hu, List.append_nil] at hcs2
              have HO5 : Hid (w3.ownsRow w.heap.size 9 1 u6 (colX s xss (i + 1)).length (strV (colX s xss (i + 1)))) := by
                unfold Hid; rw [hcs2]; exact HO3.out
              have HU := hid hu
              clear hu kK hcs2
              go_wp2_with fail
              have L4 := balloc L (.cells #[.int .i64 L0, .int .i64 L1, .int .i64 L2] 27)
              have HO6 := HO5.out.alloc (.cells #[.int .i64 L0, .int .i64 L1, .int .i64 L2] 27)
              have y9 := alloc_cell (o := .cells #[.int .i64 L0, .int .i64 L1, .int .i64 L2] 27) y6
              have hS2 := And.intro y9 (And.intro HO6 L4)
              clear y0 y1 y2 y3 y4 y5 y6 y9 HO3 HO5 HO6 L4 L X
              generalize w3.alloc (Obj.cells #[Value.int IntKind.i64 L0, Value.int IntKind.i64 L1, Value.int IntKind.i64 L2] 27) = W4 at *
              by_cases hdz : xd = zeroS
              · have q9 : (xd.toList == zeroS.toList) = true := by rw [hdz]; exact beq_self_eq_true _
                have hG2 := hid (HG.out.snoc (HGo.out (.inr hdz)))
                clear hdz
                generalize hZz : zeroS = Zz at *
                go_region_held3 (fun w' => w'.cell? ⟨gx, 6, none⟩ = some (.string xd) ∧ w'.ownsRow w.heap.size 9 1 u6 (colX s xss (i + 1)).length (strV (colX s xss (i + 1))) ∧ Below w.heap.size w w')
                  (with_reducible first | exact zk_keep hS2 hbW | exact zk_keep hS2 (bdrew (Below.refl _ _)))
                  (first | (go_at_call 35; refine (HZ.out _).mono ?_; rintro e w4 ⟨rfl, hb⟩; have hbW := bthen (bdrew (Below.refl W4.heap.size W4)) hb))
                rename_i hh
                obtain ⟨-, HO8, L8⟩ := hh
                have HO9 := hid HO8
                clear HO8
                go_wp2_with fail
                go_roundw
                case rel => exact ⟨i + 1, by omega, by go_num, hG2.out, HO9.out, L8⟩
                case measure => simp [RowKit.intOf]; omega
              · have q9 : (xd.toList == zeroS.toList) = false := beq_eq_false_iff_ne.2 (fun h => hdz (ba_inj h))
                have hNG := hid (notG (HGn.out HU.out hdz) hlt)
                clear hdz
                generalize hZz : zeroS = Zz at *
                go_region_held3 (fun w' => w'.cell? ⟨gx, 6, none⟩ = some (.string xd) ∧ w'.ownsRow w.heap.size 9 1 u6 (colX s xss (i + 1)).length (strV (colX s xss (i + 1))) ∧ Below w.heap.size w w')
                  (with_reducible first | exact zk_keep hS2 hbW | exact zk_keep hS2 (bdrew (Below.refl _ _)))
                  (first | (go_at_call 35; refine (HZ.out _).mono ?_; rintro e w4 ⟨rfl, hb⟩; have hbW := bthen (bdrew (Below.refl W4.heap.size W4)) hb))
                rename_i hh
                obtain ⟨-, -, L8⟩ := hh
                go_wp2_with fail
                go_ret2
                exact ⟨.inr ⟨rfl, hNG.out⟩, L8⟩
          · have q8 : (xl != p.l + 1) = true := bne_iff_ne.2 hlp
            have hNG := hid (notG (s := s) (gdS_no2 Hx.out hij hp hlp) hlt)
            generalize hpl : p.l = pl at *
            clear hlp hpr hij hp
            go_region_held3 (fun w' => w'.cell? ⟨gx, 0, none⟩ = some (.int .i64 xl) ∧ w'.cell? ⟨gx, 1, none⟩ = some (.int .i64 0) ∧ w'.cell? ⟨gx, 2, none⟩ = some (.int .i64 0) ∧ w'.cell? ⟨gx, 3, none⟩ = some (.int .i64 0) ∧ w'.cell? ⟨gx, 4, none⟩ = some (.int .i64 0) ∧ w'.cell? ⟨gx, 5, none⟩ = some (.int .i64 0) ∧ w'.cell? ⟨gx, 6, none⟩ = some (.string xd) ∧ w'.cell? ⟨g, o + j * 7, none⟩ = some (.int .i64 pl) ∧ Blk w' gx [.int .i64 xl, .int .i64 0, .int .i64 0, .int .i64 0, .int .i64 0, .int .i64 0, .string xd] ∧ w'.ownsRow w.heap.size 9 1 u6 (colX s xss i).length (strV (colX s xss i)) ∧ Below w.heap.size w w')
              (with_reducible first | exact col_keep hS hbW | exact col_keep hS (bdrew (Below.refl _ _)))
              (first | (go_at_call 38; refine (hVd.out _).mono ?_; rintro e w2 ⟨rfl, hb⟩; have hbW := bthen (bdrew (Below.refl W.heap.size W)) hb))
            rename_i hh
            obtain ⟨-, -, -, -, -, -, -, -, X, HO2, L⟩ := hh
            go_wp2_with fail
            go_ret2
            exact ⟨.inr ⟨rfl, hNG.out⟩, L⟩
      · have hvf : vldB xl xm xf xc xs xk xd.size = false := by simpa using hv
        have hVd : Hid (∀ w : World, Calls Try.prog 38 #[.agg #[.int .i64 xl, .int .i64 xm, .int .i64 xf, .int .i64 xc, .int .i64 xs, .int .i64 xk, .string xd]] w fun e w' => e = .returned (.bool false) ∧ Below w.heap.size w w') := fun w => by
          have := hVa.out w
          rwa [hvf] at this
        have hNG := hid (notG (s := s) (gdS_no1 Hx.out hvf) hlt)
        clear hv hvf hVa HP
        have HO2' := HO2.out
        have hS := And.intro x0 (And.intro x1 (And.intro x2 (And.intro x3 (And.intro x4 (And.intro x5 (And.intro x6 (And.intro x0 (And.intro X (And.intro HO2' L)))))))))
        clear x0 x1 x2 x3 x4 x5 x6 X HO2 HO2' L
        refine wp_region_noPanic ?_
        refine wp_region_held_drew (S := (fun w' => w'.cell? ⟨gx, 0, none⟩ = some (.int .i64 xl) ∧ w'.cell? ⟨gx, 1, none⟩ = some (.int .i64 xm) ∧ w'.cell? ⟨gx, 2, none⟩ = some (.int .i64 xf) ∧ w'.cell? ⟨gx, 3, none⟩ = some (.int .i64 xc) ∧ w'.cell? ⟨gx, 4, none⟩ = some (.int .i64 xs) ∧ w'.cell? ⟨gx, 5, none⟩ = some (.int .i64 xk) ∧ w'.cell? ⟨gx, 6, none⟩ = some (.string xd) ∧ w'.cell? ⟨gx, 0, none⟩ = some (.int .i64 xl) ∧ Blk w' gx [.int .i64 xl, .int .i64 xm, .int .i64 xf, .int .i64 xc, .int .i64 xs, .int .i64 xk, .string xd] ∧ w'.ownsRow w.heap.size 9 1 u6 (colX s xss i).length (strV (colX s xss i)) ∧ Below w.heap.size w w')) (by kernel_rfl) (col_keep hS (bdrew (Below.refl _ _))) (fun hHeld => ?_)
        refine wpAnyH_take (i := 0) (oi := { dst := some 27, op := Op.load 53 (Operand.tmp 8), type := 53, pos := "packet.go:181", after := #[], guard := none }) (v := ?_) rfl (by kernel_rfl) (by kernel_rfl) (by kernel_rfl) (fun _ _ _ h => h) (Or.inl ⟨by rfl, ?_⟩) hHeld ?_
        rotate_left
        · intro w hSw
          try dsimp only at hSw
          go_simp
          with_reducible rfl
        try simp only [Act.put, List.setIfInBounds_toArray, List.set_cons_zero, List.set_cons_succ]
        refine wpAnyH_ready (rs := [1]) (by kernel_rfl) (by simp) ?_
        refine AllReadyH.cons (o := { dst := some 28, op := Op.call { callee := Callee.value (Operand.func 38), args := #[Operand.tmp 27], argTypes := #[53] }, type := 4, pos := "packet.go:181", after := #[{ on := 0, ground := Ground.data }], guard := none }) rfl (fun K hK => ?_) AllReadyH.nil
        go_simp
        go_at_call 38
        refine (hVd.out _).mono ?_
        rintro e w2 ⟨rfl, hb⟩
        have hbW := bthen (bdrew (Below.refl W.heap.size W)) hb
        go_wp2_with fail
        refine hK.out _ _ (col_keep hS hbW) (fun hHeld => ?_)
        clear hK K
        try simp only [Act.put, List.setIfInBounds_toArray, List.set_cons_zero, List.set_cons_succ]
        refine wpAnyH_take (i := 2) (oi := { dst := some 29, op := Op.unOp UnOp.not 4 (Operand.tmp 28), type := 4, pos := "packet.go:181", after := #[{ on := 1, ground := Ground.data }], guard := none }) (v := ?_) rfl (by kernel_rfl) (by kernel_rfl) (by kernel_rfl) (fun _ _ _ h => h) (Or.inl ⟨by rfl, ?_⟩) hHeld ?_
        rotate_left
        · intro w hSw
          try dsimp only at hSw
          go_simp
          with_reducible rfl
        try simp only [Act.put, List.setIfInBounds_toArray, List.set_cons_zero, List.set_cons_succ]
        refine wpAnyH_take (i := 3) (oi := { dst := some 30, op := Op.move (Operand.tmp 29), type := 4, pos := "packet.go:181", after := #[{ on := 2, ground := Ground.data }, { on := 1, ground := Ground.chain }], guard := none }) (v := ?_) rfl (by kernel_rfl) (by kernel_rfl) (by kernel_rfl) (fun _ _ _ h => h) (Or.inl ⟨by rfl, ?_⟩) hHeld ?_
        rotate_left
        · intro w hSw
          try dsimp only at hSw
          go_simp
          with_reducible rfl
        try simp only [Act.put, List.setIfInBounds_toArray, List.set_cons_zero, List.set_cons_succ]
        refine wpAnyH_take (i := 4) (oi := { dst := some 31, op := Op.move (Operand.tmp 7), type := 3, pos := "packet.go:181", after := #[{ on := 3, ground := Ground.guard }], guard := some (3, false) }) (v := undef) rfl (by kernel_rfl) (by kernel_rfl) (by kernel_rfl) (fun _ _ _ h => h) (Or.inr ⟨by rfl, rfl⟩) hHeld ?_
        try simp only [Act.put, List.setIfInBounds_toArray, List.set_cons_zero, List.set_cons_succ]
        refine wpAnyH_take (i := 5) (oi := { dst := some 32, op := Op.binOp BinOp.gtr 3 (Operand.tmp 31) (Operand.const (Value.int IntKind.i64 0)) 3, type := 4, pos := "packet.go:181", after := #[{ on := 4, ground := Ground.data }, { on := 3, ground := Ground.guard }], guard := some (3, false) }) (v := undef) rfl (by kernel_rfl) (by kernel_rfl) (by kernel_rfl) (fun _ _ _ h => h) (Or.inr ⟨by rfl, rfl⟩) hHeld ?_
        try simp only [Act.put, List.setIfInBounds_toArray, List.set_cons_zero, List.set_cons_succ]
        refine wpAnyH_take (i := 6) (oi := { dst := some 33, op := Op.move (Operand.tmp 32), type := 4, pos := "packet.go:181", after := #[{ on := 5, ground := Ground.data }, { on := 3, ground := Ground.chain }, { on := 3, ground := Ground.guard }], guard := some (3, false) }) (v := undef) rfl (by kernel_rfl) (by kernel_rfl) (by kernel_rfl) (fun _ _ _ h => h) (Or.inr ⟨by rfl, rfl⟩) hHeld ?_
        try simp only [Act.put, List.setIfInBounds_toArray, List.set_cons_zero, List.set_cons_succ]
        refine wpAnyH_take (i := 7) (oi := { dst := some 34, op := Op.fieldAddr 53 (Operand.tmp 8) 0, type := 0, pos := "packet.go:181", after := #[{ on := 6, ground := Ground.guard }], guard := some (6, true) }) (v := undef) rfl (by kernel_rfl) (by kernel_rfl) (by kernel_rfl) (fun _ _ _ h => h) (Or.inr ⟨by rfl, rfl⟩) hHeld ?_
        try simp only [Act.put, List.setIfInBounds_toArray, List.set_cons_zero, List.set_cons_succ]
        refine wpAnyH_take (i := 8) (oi := { dst := some 35, op := Op.load 3 (Operand.tmp 34), type := 3, pos := "packet.go:181", after := #[{ on := 7, ground := Ground.data }, { on := 6, ground := Ground.guard }], guard := some (6, true) }) (v := undef) rfl (by kernel_rfl) (by kernel_rfl) (by kernel_rfl) (fun _ _ _ h => h) (Or.inr ⟨by rfl, rfl⟩) hHeld ?_
        try simp only [Act.put, List.setIfInBounds_toArray, List.set_cons_zero, List.set_cons_succ]
        refine wpAnyH_take (i := 9) (oi := { dst := some 36, op := Op.move (Operand.tmp 1), type := 38, pos := "packet.go:181", after := #[{ on := 6, ground := Ground.guard }], guard := some (6, true) }) (v := undef) rfl (by kernel_rfl) (by kernel_rfl) (by kernel_rfl) (fun _ _ _ h => h) (Or.inr ⟨by rfl, rfl⟩) hHeld ?_
        try simp only [Act.put, List.setIfInBounds_toArray, List.set_cons_zero, List.set_cons_succ]
        refine wpAnyH_take (i := 10) (oi := { dst := some 37, op := Op.move (Operand.tmp 7), type := 3, pos := "packet.go:181", after := #[{ on := 6, ground := Ground.guard }], guard := some (6, true) }) (v := undef) rfl (by kernel_rfl) (by kernel_rfl) (by kernel_rfl) (fun _ _ _ h => h) (Or.inr ⟨by rfl, rfl⟩) hHeld ?_
        try simp only [Act.put, List.setIfInBounds_toArray, List.set_cons_zero, List.set_cons_succ]
        refine wpAnyH_take (i := 11) (oi := { dst := some 38, op := Op.binOp BinOp.sub 3 (Operand.tmp 37) (Operand.const (Value.int IntKind.i64 1)) 3, type := 3, pos := "packet.go:181", after := #[{ on := 10, ground := Ground.data }, { on := 6, ground := Ground.guard }], guard := some (6, true) }) (v := undef) rfl (by kernel_rfl) (by kernel_rfl) (by kernel_rfl) (fun _ _ _ h => h) (Or.inr ⟨by rfl, rfl⟩) hHeld ?_
        try simp only [Act.put, List.setIfInBounds_toArray, List.set_cons_zero, List.set_cons_succ]
        refine wpAnyH_take (i := 12) (oi := { dst := some 39, op := Op.indexAddr 38 (Operand.tmp 36) (Operand.tmp 38), type := 0, pos := "packet.go:181", after := #[{ on := 9, ground := Ground.data }, { on := 11, ground := Ground.data }, { on := 6, ground := Ground.guard }], guard := some (6, true) }) (v := undef) rfl (by kernel_rfl) (by kernel_rfl) (by kernel_rfl) (fun _ _ _ h => h) (Or.inr ⟨by rfl, rfl⟩) hHeld ?_
        try simp only [Act.put, List.setIfInBounds_toArray, List.set_cons_zero, List.set_cons_succ]
        refine wpAnyH_take (i := 13) (oi := { dst := some 40, op := Op.fieldAddr 53 (Operand.tmp 39) 0, type := 0, pos := "packet.go:181", after := #[{ on := 12, ground := Ground.data }, { on := 6, ground := Ground.guard }], guard := some (6, true) }) (v := undef) rfl (by kernel_rfl) (by kernel_rfl) (by kernel_rfl) (fun _ _ _ h => h) (Or.inr ⟨by rfl, rfl⟩) hHeld ?_
        try simp only [Act.put, List.setIfInBounds_toArray, List.set_cons_zero, List.set_cons_succ]
        refine wpAnyH_take (i := 14) (oi := { dst := some 41, op := Op.load 3 (Operand.tmp 40), type := 3, pos := "packet.go:181", after := #[{ on := 13, ground := Ground.data }, { on := 6, ground := Ground.guard }], guard := some (6, true) }) (v := undef) rfl (by kernel_rfl) (by kernel_rfl) (by kernel_rfl) (fun _ _ _ h => h) (Or.inr ⟨by rfl, rfl⟩) hHeld ?_
        try simp only [Act.put, List.setIfInBounds_toArray, List.set_cons_zero, List.set_cons_succ]
        refine wpAnyH_take (i := 15) (oi := { dst := some 42, op := Op.binOp BinOp.add 3 (Operand.tmp 41) (Operand.const (Value.int IntKind.i64 1)) 3, type := 3, pos := "packet.go:181", after := #[{ on := 14, ground := Ground.data }, { on := 6, ground := Ground.guard }], guard := some (6, true) }) (v := undef) rfl (by kernel_rfl) (by kernel_rfl) (by kernel_rfl) (fun _ _ _ h => h) (Or.inr ⟨by rfl, rfl⟩) hHeld ?_
        try simp only [Act.put, List.setIfInBounds_toArray, List.set_cons_zero, List.set_cons_succ]
        refine wpAnyH_take (i := 16) (oi := { dst := some 43, op := Op.binOp BinOp.neq 3 (Operand.tmp 35) (Operand.tmp 42) 3, type := 4, pos := "packet.go:181", after := #[{ on := 8, ground := Ground.data }, { on := 15, ground := Ground.data }, { on := 6, ground := Ground.guard }], guard := some (6, true) }) (v := undef) rfl (by kernel_rfl) (by kernel_rfl) (by kernel_rfl) (fun _ _ _ h => h) (Or.inr ⟨by rfl, rfl⟩) hHeld ?_
        try simp only [Act.put, List.setIfInBounds_toArray, List.set_cons_zero, List.set_cons_succ]
        refine wpAnyH_take (i := 17) (oi := { dst := some 44, op := Op.pick (Operand.tmp 33) (Operand.tmp 43) (Operand.const (Value.bool false)), type := 4, pos := "packet.go:181", after := #[{ on := 6, ground := Ground.data }, { on := 16, ground := Ground.data }, { on := 3, ground := Ground.guard }], guard := some (3, false) }) (v := undef) rfl (by kernel_rfl) (by kernel_rfl) (by kernel_rfl) (fun _ _ _ h => h) (Or.inr ⟨by rfl, rfl⟩) hHeld ?_
        try simp only [Act.put, List.setIfInBounds_toArray, List.set_cons_zero, List.set_cons_succ]
        refine wpAnyH_take (i := 18) (oi := { dst := some 45, op := Op.pick (Operand.tmp 30) (Operand.const (Value.bool true)) (Operand.tmp 44), type := 4, pos := "packet.go:181", after := #[{ on := 3, ground := Ground.data }, { on := 17, ground := Ground.data }], guard := none }) (v := ?_) rfl (by kernel_rfl) (by kernel_rfl) (by kernel_rfl) (fun _ _ _ h => h) (Or.inl ⟨by rfl, ?_⟩) hHeld ?_
        rotate_left
        · intro w hSw
          try dsimp only at hSw
          go_simp
          with_reducible rfl
        try simp only [Act.put, List.setIfInBounds_toArray, List.set_cons_zero, List.set_cons_succ]
        refine wpAnyH_done (by kernel_rfl) ?_ _
        refine NoPanic.normal ?_
        obtain ⟨-, -, -, -, -, -, -, -, X, HO2, L⟩ := hHeld
        go_wp2_with fail
        go_ret2
        exact ⟨.inr ⟨rfl, hNG.out⟩, L⟩
    · have hie : i = n := by omega
      have d1 : decide ((i : Int) < (n : Int)) = false := decide_eq_false (by omega)
      rw [hie] at hown hG
      have HO2 := hid hown
      have HG := hid hG
      clear hown hG
      go_wp2_with fail
      go_ret2
      exact ⟨.inl ⟨u6, rfl, HO2.out, HG.out⟩, hbel⟩
end Go.Proofs.Ytpcfjlfdjkifgaa

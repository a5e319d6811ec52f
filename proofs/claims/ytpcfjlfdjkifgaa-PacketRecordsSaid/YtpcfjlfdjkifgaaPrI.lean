/-
  The contract of Collect at sectors as Record makes them.
-/
import Derived.Test.YtpcfjlfdjkifgaaPrK
namespace Go.Proofs.Ytpcfjlfdjkifgaa
open Go.RowKit Go.Lib
set_option linter.unusedVariables false
set_option linter.unusedSimpArgs false

theorem col_keep {w w' w2 : World} {gx B n : Nat} {a : Addr} {e : TypeId} {z : Nat} {v u0 u1 u2 u3 u4 u5 u6 c : Value} {xs l : List Value}
    (h : w'.cell? ⟨gx, 0, none⟩ = some u0 ∧ w'.cell? ⟨gx, 1, none⟩ = some u1 ∧ w'.cell? ⟨gx, 2, none⟩ = some u2 ∧ w'.cell? ⟨gx, 3, none⟩ = some u3 ∧ w'.cell? ⟨gx, 4, none⟩ = some u4 ∧ w'.cell? ⟨gx, 5, none⟩ = some u5 ∧ w'.cell? ⟨gx, 6, none⟩ = some u6 ∧ w'.cell? a = some c ∧ Blk w' gx l ∧ w'.ownsRow B e z v n xs ∧ Below w.heap.size w w') (hb : Below w'.heap.size w' w2) :
    w2.cell? ⟨gx, 0, none⟩ = some u0 ∧ w2.cell? ⟨gx, 1, none⟩ = some u1 ∧ w2.cell? ⟨gx, 2, none⟩ = some u2 ∧ w2.cell? ⟨gx, 3, none⟩ = some u3 ∧ w2.cell? ⟨gx, 4, none⟩ = some u4 ∧ w2.cell? ⟨gx, 5, none⟩ = some u5 ∧ w2.cell? ⟨gx, 6, none⟩ = some u6 ∧ w2.cell? a = some c ∧ Blk w2 gx l ∧ w2.ownsRow B e z v n xs ∧ Below w.heap.size w w2 := by
  obtain ⟨h0, h1, h2, h3, h4, h5, h6, h7, h8, h9, h10⟩ := h
  exact ⟨below_cell hb h0, below_cell hb h1, below_cell hb h2, below_cell hb h3, below_cell hb h4, below_cell hb h5, below_cell hb h6, below_cell hb h7, h8.below hb, own_below h9 hb, bthen h10 hb⟩

theorem zk_keep {w w' w2 : World} {a : Addr} {B n : Nat} {e : TypeId} {z : Nat} {v c : Value} {xs : List Value} (h : w'.cell? a = some c ∧ w'.ownsRow B e z v n xs ∧ Below w.heap.size w w') (hb : Below w'.heap.size w' w2) :
    w2.cell? a = some c ∧ w2.ownsRow B e z v n xs ∧ Below w.heap.size w w2 := ⟨below_cell hb h.1, own_below h.2.1 hb, bthen h.2.2 hb⟩

set_option maxRecDepth 20000 in
set_option maxHeartbeats 3000000 in
theorem Collect_ok (s : Nat) (hs : 1 ≤ s ∧ s ≤ 1024) (st : Int) (hst : 0 ≤ st) (ds : List ByteArray) (hT : ds.length % (s + 7) = 0) (hT2 : ds.length ≤ 4096) (hst2 : st + (ds.length : Int) - 1 ≤ 449849)
    (hz : ∀ i d, ds[i]? = some d → d.size = 2048 ∧ (usr s i = false → d = zeroS)) (B : Nat) (v : Value) (w : World) (ho : w.ownsRow B 53 7 v ds.length (secsC st 0 ds)) :
    Calls Try.prog 23 #[.int .i64 (s : Int), v] w fun e w' => (∃ vo, e = .returned (.tuple #[vo, .int .i64 0]) ∧ w'.ownsRow w.heap.size 9 1 vo (colL s ds ds.length).length (strV (colL s ds ds.length))) ∧ Below w.heap.size w w' := by
  have HS : Hid (∀ w : World, Calls Try.prog 34 #[.int .i64 (s : Int)] w fun e w' => e = .returned (.bool true) ∧ w = w') := fun w => by
    have := sized_any (s : Int) w
    rwa [show szB (s : Int) = true from decide_eq_true (by omega)] at this
  have HZ := hid (fun w => zeros_any w)
  obtain ⟨i0, hi, hz0, hz1, hz2⟩ := info_S
  have HO := hid ho
  have Hz := hid hz
  have hcs := secsC_at st
  have HC := hid hcs
  obtain ⟨p, cap, rfl⟩ := own_len ho
  have hm : (ds.length : Int) % ((s : Int) + 7) = 0 := by rw [show (s : Int) + 7 = ((s + 7 : Nat) : Int) by omega, ← Int.natCast_emod, hT]; rfl
  have hs7 : ((s : Int) + 7 == 0) = false := by rw [beq_eq_false_iff_ne]; omega
  clear ho hz hcs
  generalize hN : ds.length = n at *
  go_enter Try.func23, Try.ntmps23
  go_wp2_with fail
  refine (HS.out _).mono ?_
  rintro e w1 ⟨rfl, rfl⟩
  go_wp2_with fail
  clear hm hs7
  go_loopw [6, 22] (fun vo c wr => ∃ i : Nat, i ≤ n ∧ c = .int .i64 i ∧ wr.ownsRow w.heap.size 9 1 vo (colL s ds i).length (strV (colL s ds i)) ∧ Below w.heap.size w wr) (fun _ c _ => n - (RowKit.intOf c).toNat)
  case atStart => exact ⟨0, Nat.zero_le _, rfl, World.ownsRow_nil _ _ _ _, Below.refl _ _⟩
  case round =>
    obtain ⟨i, hin, rfl, hown, hbel⟩ := hrel
    by_cases hlt : i < n
    · have d1 : decide ((i : Int) < (n : Int)) = true := decide_eq_true (by omega)
      have l1 : (i : Int) < (n : Int) := by omega
      obtain ⟨g, cap2, he, hg1, hg2, hg3⟩ := own_form HO.out (by omega)
      injection he with he1 he2 he3
      subst he1 he3
      clear he2
      obtain ⟨d, hd⟩ : ∃ d, ds[i]? = some d := ⟨ds[i]'(by omega), List.getElem?_eq_getElem _⟩
      obtain ⟨hdz, hdk⟩ := Hz.out i d hd
      have hcx : ∀ (i : Nat) (d : ByteArray), ds[i]? = some d → i < n → ∀ (j : Nat) (u : Value), j < 7 → (secC (st + (i : Int)) d)[j]? = some u → wr.cell? ⟨g, i * 7 + j, none⟩ = some u := fun i d hd hin j u hj hu => by
        refine below_cell hbel ?_
        rw [HO.out.cellAt (i * 7 + j) (by omega), HC.out j hj ds 0 i d hd, Nat.zero_add]; exact hu
      have x0 : wr.cell? ⟨g, i * 7, none⟩ = _ := hcx i d hd hlt 0 _ (by decide) rfl
      have x1 := hcx i d hd hlt 1 _ (by decide) rfl
      have x2 := hcx i d hd hlt 2 _ (by decide) rfl
      have x3 := hcx i d hd hlt 3 _ (by decide) rfl
      have x4 := hcx i d hd hlt 4 _ (by decide) rfl
      have x5 := hcx i d hd hlt 5 _ (by decide) rfl
      have x6 := hcx i d hd hlt 6 _ (by decide) rfl
      have hgd : ds.getD i zeroS = d := by rw [List.getD_eq_getElem?_getD, hd]; rfl
      have hcs2 := colL_succ s ds i
      rw [hgd] at hcs2
      have hcl := colL_le s ds i
      have HOW := hid hown
      have hVd := hid (fun w => valid_true (st + (i : Int)) d (by omega) hdz w)
      obtain ⟨kL, kK⟩ := loc_kind s i hs (by omega)
      have HLo := hid (fun w => Locate_tup (s : Int) (i : Int) w)
      generalize (locP (s : Int) (i : Int)).1 = L0 at *
      generalize (locP (s : Int) (i : Int)).2.1 = L1 at *
      generalize (locP (s : Int) (i : Int)).2.2.1 = L2 at *
      generalize (locP (s : Int) (i : Int)).2.2.2 = L3 at *
      have hbz : w.heap.size ≤ wr.heap.size := hbel.size
      clear hown
      go_wp2_with fail
      have X := Blk.made wr [.int .i64 (st + (i : Int)), .int .i64 0, .int .i64 0, .int .i64 0, .int .i64 0, .int .i64 0, .string d] 53
      have L := balloc hbel (.cells #[Value.int IntKind.i64 (st + (i : Int)), Value.int IntKind.i64 0, Value.int IntKind.i64 0, Value.int IntKind.i64 0, Value.int IntKind.i64 0, Value.int IntKind.i64 0, Value.string d] 53)
      have HO2 := hid (HOW.out.alloc (.cells #[Value.int IntKind.i64 (st + (i : Int)), Value.int IntKind.i64 0, Value.int IntKind.i64 0, Value.int IntKind.i64 0, Value.int IntKind.i64 0, Value.int IntKind.i64 0, Value.string d] 53))
      have hp := fun (j : Nat) (dj : ByteArray) (h1 : ds[j]? = some dj) (h2 : j < n) => alloc_cell (o := .cells #[Value.int IntKind.i64 (st + (i : Int)), Value.int IntKind.i64 0, Value.int IntKind.i64 0, Value.int IntKind.i64 0, Value.int IntKind.i64 0, Value.int IntKind.i64 0, Value.string d] 53) (hcx j dj h1 h2 0 _ (by decide) rfl)
      have HP := hid hp
      clear hp hcx HOW x0 x1 x2 x3 x4 x5 x6 hbel
      generalize wr.alloc (Obj.cells #[Value.int IntKind.i64 (st + (i : Int)), Value.int IntKind.i64 0, Value.int IntKind.i64 0, Value.int IntKind.i64 0, Value.int IntKind.i64 0, Value.int IntKind.i64 0, Value.string d] 53) = W at *
      generalize wr.heap.size = gx at *
      have x0 := X.cell 0 _ rfl; have x1 := X.cell 1 _ rfl; have x2 := X.cell 2 _ rfl; have x3 := X.cell 3 _ rfl; have x4 := X.cell 4 _ rfl; have x5 := X.cell 5 _ rfl; have x6 := X.cell 6 _ rfl
      by_cases hi0 : i = 0
      · have d5 : decide ((0 : Int) < (i : Int)) = false := decide_eq_false (by omega)
        have d5n : decide (0 < i) = false := decide_eq_false (by omega)
        clear hi0
        have HO2' := HO2.out
        have hS := And.intro x0 (And.intro x1 (And.intro x2 (And.intro x3 (And.intro x4 (And.intro x5 (And.intro x6 (And.intro x0 (And.intro X (And.intro HO2' L)))))))))
        clear x0 x1 x2 x3 x4 x5 x6 X HO2 HO2' L HP
        refine wp_region_noPanic ?_
        refine wp_region_held_drew (S := (fun w' => w'.cell? ⟨gx, 0, none⟩ = some (.int .i64 (st + (i : Int))) ∧ w'.cell? ⟨gx, 1, none⟩ = some (.int .i64 0) ∧ w'.cell? ⟨gx, 2, none⟩ = some (.int .i64 0) ∧ w'.cell? ⟨gx, 3, none⟩ = some (.int .i64 0) ∧ w'.cell? ⟨gx, 4, none⟩ = some (.int .i64 0) ∧ w'.cell? ⟨gx, 5, none⟩ = some (.int .i64 0) ∧ w'.cell? ⟨gx, 6, none⟩ = some (.string d) ∧ w'.cell? ⟨gx, 0, none⟩ = some (.int .i64 (st + (i : Int))) ∧ Blk w' gx [.int .i64 (st + (i : Int)), .int .i64 0, .int .i64 0, .int .i64 0, .int .i64 0, .int .i64 0, .string d] ∧ w'.ownsRow w.heap.size 9 1 u6 (colL s ds i).length (strV (colL s ds i)) ∧ Below w.heap.size w w')) (by kernel_rfl) (col_keep hS (bdrew (Below.refl _ _))) (fun hHeld => ?_)
        refine wpAnyH_take (i := 0) (oi := { dst := some 27, op := Op.load 53 (Operand.tmp 8), type := 53, pos := "packet.go:181", after := #[], guard := none }) (v := ?_) rfl (by kernel_rfl) (by kernel_rfl) (by kernel_rfl) (fun _ _ _ h => h) (Or.inl ⟨by rfl, ?_⟩) hHeld ?_
        rotate_left
        · intro w hSw
          try dsimp only at hSw
          go_simp
          with_reducible rfl
        try simp only [Act.put, List.setIfInBounds_toArray, List.set_cons_zero, List.set_cons_succ]
        refine wpAnyH_ready (rs := [1]) (by kernel_rfl) (by simp) ?_
        refine AllReadyH.cons (o := { dst := some 28, op := Op.call { callee := Callee.value (Operand.func 38), args := #[Operand.tmp 27], argTypes := #[53] }, type := 4, pos := "packet.go:181", after := #[{ on := 0, ground := Ground.data }], guard := none }) rfl (fun K hK => ?_) AllReadyH.nil
        go_simp
        go_at_call 38
        refine (hVd.out _).mono ?_
        rintro e w2 ⟨rfl, hb⟩
        have hbW := bthen (bdrew (Below.refl W.heap.size W)) hb
        go_wp2_with fail
        refine hK.out _ _ (col_keep hS hbW) (fun hHeld => ?_)
        clear hK K
        try simp only [Act.put, List.setIfInBounds_toArray, List.set_cons_zero, List.set_cons_succ]
        refine wpAnyH_take (i := 2) (oi := { dst := some 29, op := Op.unOp UnOp.not 4 (Operand.tmp 28), type := 4, pos := "packet.go:181", after := #[{ on := 1, ground := Ground.data }], guard := none }) (v := ?_) rfl (by kernel_rfl) (by kernel_rfl) (by kernel_rfl) (fun _ _ _ h => h) (Or.inl ⟨by rfl, ?_⟩) hHeld ?_
        rotate_left
        · intro w hSw
          try dsimp only at hSw
          go_simp
          with_reducible rfl
        try simp only [Act.put, List.setIfInBounds_toArray, List.set_cons_zero, List.set_cons_succ]
        refine wpAnyH_take (i := 3) (oi := { dst := some 30, op := Op.move (Operand.tmp 29), type := 4, pos := "packet.go:181", after := #[{ on := 2, ground := Ground.data }, { on := 1, ground := Ground.chain }], guard := none }) (v := ?_) rfl (by kernel_rfl) (by kernel_rfl) (by kernel_rfl) (fun _ _ _ h => h) (Or.inl ⟨by rfl, ?_⟩) hHeld ?_
        rotate_left
        · intro w hSw
          try dsimp only at hSw
          go_simp
          with_reducible rfl
        try simp only [Act.put, List.setIfInBounds_toArray, List.set_cons_zero, List.set_cons_succ]
        refine wpAnyH_take (i := 4) (oi := { dst := some 31, op := Op.move (Operand.tmp 7), type := 3, pos := "packet.go:181", after := #[{ on := 3, ground := Ground.guard }], guard := some (3, false) }) (v := ?_) rfl (by kernel_rfl) (by kernel_rfl) (by kernel_rfl) (fun _ _ _ h => h) (Or.inl ⟨by rfl, ?_⟩) hHeld ?_
        rotate_left
        · intro w hSw
          try dsimp only at hSw
          go_simp
          with_reducible rfl
        try simp only [Act.put, List.setIfInBounds_toArray, List.set_cons_zero, List.set_cons_succ]
        refine wpAnyH_take (i := 5) (oi := { dst := some 32, op := Op.binOp BinOp.gtr 3 (Operand.tmp 31) (Operand.const (Value.int IntKind.i64 0)) 3, type := 4, pos := "packet.go:181", after := #[{ on := 4, ground := Ground.data }, { on := 3, ground := Ground.guard }], guard := some (3, false) }) (v := ?_) rfl (by kernel_rfl) (by kernel_rfl) (by kernel_rfl) (fun _ _ _ h => h) (Or.inl ⟨by rfl, ?_⟩) hHeld ?_
        rotate_left
        · intro w hSw
          try dsimp only at hSw
          go_simp
          with_reducible rfl
        try simp only [Act.put, List.setIfInBounds_toArray, List.set_cons_zero, List.set_cons_succ]
        refine wpAnyH_take (i := 6) (oi := { dst := some 33, op := Op.move (Operand.tmp 32), type := 4, pos := "packet.go:181", after := #[{ on := 5, ground := Ground.data }, { on := 3, ground := Ground.chain }, { on := 3, ground := Ground.guard }], guard := some (3, false) }) (v := ?_) rfl (by kernel_rfl) (by kernel_rfl) (by kernel_rfl) (fun _ _ _ h => h) (Or.inl ⟨by rfl, ?_⟩) hHeld ?_
        rotate_left
        · intro w hSw
          try dsimp only at hSw
          go_simp
          with_reducible rfl
        try simp only [Act.put, List.setIfInBounds_toArray, List.set_cons_zero, List.set_cons_succ]
        refine wpAnyH_take (i := 7) (oi := { dst := some 34, op := Op.fieldAddr 53 (Operand.tmp 8) 0, type := 0, pos := "packet.go:181", after := #[{ on := 6, ground := Ground.guard }], guard := some (6, true) }) (v := undef) rfl (by kernel_rfl) (by kernel_rfl) (by kernel_rfl) (fun _ _ _ h => h) (Or.inr ⟨by rfl, rfl⟩) hHeld ?_
        try simp only [Act.put, List.setIfInBounds_toArray, List.set_cons_zero, List.set_cons_succ]
        refine wpAnyH_take (i := 8) (oi := { dst := some 35, op := Op.load 3 (Operand.tmp 34), type := 3, pos := "packet.go:181", after := #[{ on := 7, ground := Ground.data }, { on := 6, ground := Ground.guard }], guard := some (6, true) }) (v := undef) rfl (by kernel_rfl) (by kernel_rfl) (by kernel_rfl) (fun _ _ _ h => h) (Or.inr ⟨by rfl, rfl⟩) hHeld ?_
        try simp only [Act.put, List.setIfInBounds_toArray, List.set_cons_zero, List.set_cons_succ]
        refine wpAnyH_take (i := 9) (oi := { dst := some 36, op := Op.move (Operand.tmp 1), type := 38, pos := "packet.go:181", after := #[{ on := 6, ground := Ground.guard }], guard := some (6, true) }) (v := undef) rfl (by kernel_rfl) (by kernel_rfl) (by kernel_rfl) (fun _ _ _ h => h) (Or.inr ⟨by rfl, rfl⟩) hHeld ?_
        try simp only [Act.put, List.setIfInBounds_toArray, List.set_cons_zero, List.set_cons_succ]
        refine wpAnyH_take (i := 10) (oi := { dst := some 37, op := Op.move (Operand.tmp 7), type := 3, pos := "packet.go:181", after := #[{ on := 6, ground := Ground.guard }], guard := some (6, true) }) (v := undef) rfl (by kernel_rfl) (by kernel_rfl) (by kernel_rfl) (fun _ _ _ h => h) (Or.inr ⟨by rfl, rfl⟩) hHeld ?_
        try simp only [Act.put, List.setIfInBounds_toArray, List.set_cons_zero, List.set_cons_succ]
        refine wpAnyH_take (i := 11) (oi := { dst := some 38, op := Op.binOp BinOp.sub 3 (Operand.tmp 37) (Operand.const (Value.int IntKind.i64 1)) 3, type := 3, pos := "packet.go:181", after := #[{ on := 10, ground := Ground.data }, { on := 6, ground := Ground.guard }], guard := some (6, true) }) (v := undef) rfl (by kernel_rfl) (by kernel_rfl) (by kernel_rfl) (fun _ _ _ h => h) (Or.inr ⟨by rfl, rfl⟩) hHeld ?_
        try simp only [Act.put, List.setIfInBounds_toArray, List.set_cons_zero, List.set_cons_succ]
        refine wpAnyH_take (i := 12) (oi := { dst := some 39, op := Op.indexAddr 38 (Operand.tmp 36) (Operand.tmp 38), type := 0, pos := "packet.go:181", after := #[{ on := 9, ground := Ground.data }, { on := 11, ground := Ground.data }, { on := 6, ground := Ground.guard }], guard := some (6, true) }) (v := undef) rfl (by kernel_rfl) (by kernel_rfl) (by kernel_rfl) (fun _ _ _ h => h) (Or.inr ⟨by rfl, rfl⟩) hHeld ?_
        try simp only [Act.put, List.setIfInBounds_toArray, List.set_cons_zero, List.set_cons_succ]
        refine wpAnyH_take (i := 13) (oi := { dst := some 40, op := Op.fieldAddr 53 (Operand.tmp 39) 0, type := 0, pos := "packet.go:181", after := #[{ on := 12, ground := Ground.data }, { on := 6, ground := Ground.guard }], guard := some (6, true) }) (v := undef) rfl (by kernel_rfl) (by kernel_rfl) (by kernel_rfl) (fun _ _ _ h => h) (Or.inr ⟨by rfl, rfl⟩) hHeld ?_
        try simp only [Act.put, List.setIfInBounds_toArray, List.set_cons_zero, List.set_cons_succ]
        refine wpAnyH_take (i := 14) (oi := { dst := some 41, op := Op.load 3 (Operand.tmp 40), type := 3, pos := "packet.go:181", after := #[{ on := 13, ground := Ground.data }, { on := 6, ground := Ground.guard }], guard := some (6, true) }) (v := undef) rfl (by kernel_rfl) (by kernel_rfl) (by kernel_rfl) (fun _ _ _ h => h) (Or.inr ⟨by rfl, rfl⟩) hHeld ?_
        try simp only [Act.put, List.setIfInBounds_toArray, List.set_cons_zero, List.set_cons_succ]
        refine wpAnyH_take (i := 15) (oi := { dst := some 42, op := Op.binOp BinOp.add 3 (Operand.tmp 41) (Operand.const (Value.int IntKind.i64 1)) 3, type := 3, pos := "packet.go:181", after := #[{ on := 14, ground := Ground.data }, { on := 6, ground := Ground.guard }], guard := some (6, true) }) (v := undef) rfl (by kernel_rfl) (by kernel_rfl) (by kernel_rfl) (fun _ _ _ h => h) (Or.inr ⟨by rfl, rfl⟩) hHeld ?_
        try simp only [Act.put, List.setIfInBounds_toArray, List.set_cons_zero, List.set_cons_succ]
        refine wpAnyH_take (i := 16) (oi := { dst := some 43, op := Op.binOp BinOp.neq 3 (Operand.tmp 35) (Operand.tmp 42) 3, type := 4, pos := "packet.go:181", after := #[{ on := 8, ground := Ground.data }, { on := 15, ground := Ground.data }, { on := 6, ground := Ground.guard }], guard := some (6, true) }) (v := undef) rfl (by kernel_rfl) (by kernel_rfl) (by kernel_rfl) (fun _ _ _ h => h) (Or.inr ⟨by rfl, rfl⟩) hHeld ?_
        try simp only [Act.put, List.setIfInBounds_toArray, List.set_cons_zero, List.set_cons_succ]
        refine wpAnyH_take (i := 17) (oi := { dst := some 44, op := Op.pick (Operand.tmp 33) (Operand.tmp 43) (Operand.const (Value.bool false)), type := 4, pos := "packet.go:181", after := #[{ on := 6, ground := Ground.data }, { on := 16, ground := Ground.data }, { on := 3, ground := Ground.guard }], guard := some (3, false) }) (v := ?_) rfl (by kernel_rfl) (by kernel_rfl) (by kernel_rfl) (fun _ _ _ h => h) (Or.inl ⟨by rfl, ?_⟩) hHeld ?_
        rotate_left
        · intro w hSw
          try dsimp only at hSw
          go_simp
          with_reducible rfl
        try simp only [Act.put, List.setIfInBounds_toArray, List.set_cons_zero, List.set_cons_succ]
        refine wpAnyH_take (i := 18) (oi := { dst := some 45, op := Op.pick (Operand.tmp 30) (Operand.const (Value.bool true)) (Operand.tmp 44), type := 4, pos := "packet.go:181", after := #[{ on := 3, ground := Ground.data }, { on := 17, ground := Ground.data }], guard := none }) (v := ?_) rfl (by kernel_rfl) (by kernel_rfl) (by kernel_rfl) (fun _ _ _ h => h) (Or.inl ⟨by rfl, ?_⟩) hHeld ?_
        rotate_left
        · intro w hSw
          try dsimp only at hSw
          go_simp
          with_reducible rfl
        try simp only [Act.put, List.setIfInBounds_toArray, List.set_cons_zero, List.set_cons_succ]
        refine wpAnyH_done (by kernel_rfl) ?_ _
        refine NoPanic.normal ?_
        obtain ⟨-, -, -, -, -, -, -, -, X, HO2, L⟩ := hHeld
        clear d5 d5n
        go_wp2_with fail
        refine (HLo.out _).mono ?_
        rintro e w3 ⟨rfl, hb3⟩
        replace X := X.below hb3; replace L := bthen L hb3
        have HO3 := hid (own_below HO2 hb3)
        clear hb3 HO2
        have y0 := X.cell 0 _ rfl; have y1 := X.cell 1 _ rfl; have y2 := X.cell 2 _ rfl; have y3 := X.cell 3 _ rfl; have y4 := X.cell 4 _ rfl; have y5 := X.cell 5 _ rfl; have y6 := X.cell 6 _ rfl
        have xz := X.lt
        have hLz := L.size
        by_cases hu : usr s i = true
        · have d6 : (L1 == 2) = true := kK.trans hu
          rw [if_pos hu] at hcs2
          clear hu kK
          go_wp2_with (at_builtin; refine wpList_append_own _ rfl _ _ 37 rfl w.heap.size 9 i0 (.string { data := #[] }) 1 16 Try.underlying37 hi hz0 hz1 hz2 rfl (by decide) _ _ _ rfl ((HO3.out.alloc _).alloc _) ⟨w3.heap.size + 1, 0, none⟩ 1 1 [.string d] rfl rfl ?c1 ?c2 ?c3 ?c4 ?c5 ?_)
          case c1 =>
            intro j u hj
            match j, hj with
            | 0, hj => simp at hj; subst hj; simp [Addr.add]
          case c2 => intro u hu; simp at hu; subst hu; rfl
          case c3 => unfold maxLen; omega
          case c4 => omega
          case c5 => simp; omega
          intro v5 w5 hown5 hgrow5 _
          have hb5 : Below w.heap.size w w5 := (balloc (balloc L _) _).grown hgrow5 (by simp; omega) (fun r hr => (HO3.out.lt r hr).1)
          have HO5 : Hid (w5.ownsRow w.heap.size 9 1 v5 (colL s ds (i + 1)).length (strV (colL s ds (i + 1)))) := by
            unfold Hid
            rw [hcs2, List.length_append]
            have := hown5
            unfold strV at this ⊢
            rw [List.map_append]; exact this
          clear hown5 hgrow5 hcs2
          go_wp2_with fail
          go_roundw
          case rel => exact ⟨i + 1, by omega, by go_num, HO5.out, hb5⟩
          case measure => simp [RowKit.intOf]; omega
        · have d6 : (L1 == 2) = false := kK.trans (by simpa using hu)
          rw [if_neg hu, List.append_nil] at hcs2
          have hdz2 := hdk (by simpa using hu)
          subst hdz2
          have q9 : (zeroS.toList != zeroS.toList) = false := bne_self_eq_false _
          have HO5 : Hid (w3.ownsRow w.heap.size 9 1 u6 (colL s ds (i + 1)).length (strV (colL s ds (i + 1)))) := by
            unfold Hid; rw [hcs2]; exact HO3.out
          clear hu kK hcs2
          clear q9
          go_wp2_with fail
          have L4 := balloc L (.cells #[.int .i64 L0, .int .i64 L1, .int .i64 L2] 27)
          have HO6 := HO5.out.alloc (.cells #[.int .i64 L0, .int .i64 L1, .int .i64 L2] 27)
          have y9 := alloc_cell (o := .cells #[.int .i64 L0, .int .i64 L1, .int .i64 L2] 27) y6
          have hS2 := And.intro y9 (And.intro HO6 L4)
          clear y0 y1 y2 y3 y4 y5 y6 y9 HO3 HO5 HO6 L4 L X
          generalize w3.alloc (Obj.cells #[Value.int IntKind.i64 L0, Value.int IntKind.i64 L1, Value.int IntKind.i64 L2] 27) = W4 at *
          have q9 : (zeroS.toList != zeroS.toList) = false := bne_self_eq_false _
          generalize hZz : zeroS = Zz at *
          go_region_held3 (fun w' => w'.cell? ⟨gx, 6, none⟩ = some (.string Zz) ∧ w'.ownsRow w.heap.size 9 1 u6 (colL s ds (i + 1)).length (strV (colL s ds (i + 1))) ∧ Below w.heap.size w w')
            (with_reducible first | exact zk_keep hS2 hbW | exact zk_keep hS2 (bdrew (Below.refl _ _)))
            (first | (go_at_call 35; refine (HZ.out _).mono ?_; rintro e w4 ⟨rfl, hb⟩; have hbW := bthen (bdrew (Below.refl W4.heap.size W4)) hb))
          rename_i hh
          obtain ⟨-, HO8, L8⟩ := hh
          have HO9 := hid HO8
          clear HO8
          go_wp2_with fail
          go_roundw
          case rel => exact ⟨i + 1, by omega, by go_num, HO9.out, L8⟩
          case measure => simp [RowKit.intOf]; omega
      · obtain ⟨j, hj⟩ : ∃ j : Nat, (i : Int) - 1 = (j : Int) := ⟨i - 1, by omega⟩
        have d5 : decide ((0 : Int) < (i : Int)) = true := decide_eq_true (by omega)
        obtain ⟨dj, hdj⟩ : ∃ dj, ds[j]? = some dj := ⟨ds[j]'(by omega), List.getElem?_eq_getElem _⟩
        have xp : W.cell? ⟨g, j * 7, none⟩ = some (.int .i64 (st + (j : Int))) := HP.out j dj hdj (by omega)
        have l3 : (j : Int) < (n : Int) := by omega
        have l3n : j < n := by omega
        have hjw2 : IntKind.i64.wrap (j : Int) = (j : Int) := IntWalk.i64_in _ (by omega)
        have KI : ∀ w : World, (Instr.indexAt 38 (.slice (some ⟨g, 0, none⟩) n cap) (.int .i64 (j : Int))).run Try.prog w = .ok (.pointer (some ⟨g, j * 7, none⟩)) w := fun w => by simp [go_sem, l3]
        have hjw : IntKind.i64.wrap ((i : Int) - 1) = (j : Int) := by rw [hj]; exact IntWalk.i64_in _ (by omega)
        have q7 : IntKind.i64.wrap (st + (j : Int) + 1) = st + (i : Int) := by rw [show st + (j : Int) + 1 = st + (i : Int) by omega]; exact IntWalk.i64_in _ (by omega)
        have d5n : decide (0 < i) = true := decide_eq_true (by omega)
        clear hdj HP hi0
        have HO2' := HO2.out
        have hS := And.intro x0 (And.intro x1 (And.intro x2 (And.intro x3 (And.intro x4 (And.intro x5 (And.intro x6 (And.intro xp (And.intro X (And.intro HO2' L)))))))))
        clear x0 x1 x2 x3 x4 x5 x6 xp X HO2 HO2' L
        go_region_held3 (fun w' => w'.cell? ⟨gx, 0, none⟩ = some (.int .i64 (st + (i : Int))) ∧ w'.cell? ⟨gx, 1, none⟩ = some (.int .i64 0) ∧ w'.cell? ⟨gx, 2, none⟩ = some (.int .i64 0) ∧ w'.cell? ⟨gx, 3, none⟩ = some (.int .i64 0) ∧ w'.cell? ⟨gx, 4, none⟩ = some (.int .i64 0) ∧ w'.cell? ⟨gx, 5, none⟩ = some (.int .i64 0) ∧ w'.cell? ⟨gx, 6, none⟩ = some (.string d) ∧ w'.cell? ⟨g, j * 7, none⟩ = some (.int .i64 (st + (j : Int))) ∧ Blk w' gx [.int .i64 (st + (i : Int)), .int .i64 0, .int .i64 0, .int .i64 0, .int .i64 0, .int .i64 0, .string d] ∧ w'.ownsRow w.heap.size 9 1 u6 (colL s ds i).length (strV (colL s ds i)) ∧ Below w.heap.size w w')
          (with_reducible first | exact col_keep hS hbW | exact col_keep hS (bdrew (Below.refl _ _)))
          (first | (go_at_call 38; refine (hVd.out _).mono ?_; rintro e w2 ⟨rfl, hb⟩; have hbW := bthen (bdrew (Below.refl W.heap.size W)) hb))
        rename_i hh
        obtain ⟨-, -, -, -, -, -, -, -, X, HO2, L⟩ := hh
        go_wp2_with fail
        refine (HLo.out _).mono ?_
        rintro e w3 ⟨rfl, hb3⟩
        replace X := X.below hb3; replace L := bthen L hb3
        have HO3 := hid (own_below HO2 hb3)
        clear hb3 HO2
        have y0 := X.cell 0 _ rfl; have y1 := X.cell 1 _ rfl; have y2 := X.cell 2 _ rfl; have y3 := X.cell 3 _ rfl; have y4 := X.cell 4 _ rfl; have y5 := X.cell 5 _ rfl; have y6 := X.cell 6 _ rfl
        have xz := X.lt
        have hLz := L.size
        by_cases hu : usr s i = true
        · have d6 : (L1 == 2) = true := kK.trans hu
          rw [if_pos hu] at hcs2
          clear hu kK
          go_wp2_with (at_builtin; refine wpList_append_own _ rfl _ _ 37 rfl w.heap.size 9 i0 (.string { data := #[] }) 1 16 Try.underlying37 hi hz0 hz1 hz2 rfl (by decide) _ _ _ rfl ((HO3.out.alloc _).alloc _) ⟨w3.heap.size + 1, 0, none⟩ 1 1 [.string d] rfl rfl ?c1 ?c2 ?c3 ?c4 ?c5 ?_)
          case c1 =>
            intro j u hj
            match j, hj with
            | 0, hj => simp at hj; subst hj; simp [Addr.add]
          case c2 => intro u hu; simp at hu; subst hu; rfl
          case c3 => unfold maxLen; omega
          case c4 => omega
          case c5 => simp; omega
          intro v5 w5 hown5 hgrow5 _
          have hb5 : Below w.heap.size w w5 := (balloc (balloc L _) _).grown hgrow5 (by simp; omega) (fun r hr => (HO3.out.lt r hr).1)
          have HO5 : Hid (w5.ownsRow w.heap.size 9 1 v5 (colL s ds (i + 1)).length (strV (colL s ds (i + 1)))) := by
            unfold Hid
            rw [hcs2, List.length_append]
            have := hown5
            unfold strV at this ⊢
            rw [List.map_append]; exact this
          clear hown5 hgrow5 hcs2
          go_wp2_with fail
          go_roundw
          case rel => exact ⟨i + 1, by omega, by go_num, HO5.out, hb5⟩
          case measure => simp [RowKit.intOf]; omega
        · have d6 : (L1 == 2) = false := kK.trans (by simpa using hu)
          rw [if_neg hu, List.append_nil] at hcs2
          have hdz2 := hdk (by simpa using hu)
          subst hdz2
          have q9 : (zeroS.toList != zeroS.toList) = false := bne_self_eq_false _
          have HO5 : Hid (w3.ownsRow w.heap.size 9 1 u6 (colL s ds (i + 1)).length (strV (colL s ds (i + 1)))) := by
            unfold Hid; rw [hcs2]; exact HO3.out
          clear hu kK hcs2
          clear q9
          go_wp2_with fail
          have L4 := balloc L (.cells #[.int .i64 L0, .int .i64 L1, .int .i64 L2] 27)
          have HO6 := HO5.out.alloc (.cells #[.int .i64 L0, .int .i64 L1, .int .i64 L2] 27)
          have y9 := alloc_cell (o := .cells #[.int .i64 L0, .int .i64 L1, .int .i64 L2] 27) y6
          have hS2 := And.intro y9 (And.intro HO6 L4)
          clear y0 y1 y2 y3 y4 y5 y6 y9 HO3 HO5 HO6 L4 L X
          generalize w3.alloc (Obj.cells #[Value.int IntKind.i64 L0, Value.int IntKind.i64 L1, Value.int IntKind.i64 L2] 27) = W4 at *
          have q9 : (zeroS.toList != zeroS.toList) = false := bne_self_eq_false _
          generalize hZz : zeroS = Zz at *
          go_region_held3 (fun w' => w'.cell? ⟨gx, 6, none⟩ = some (.string Zz) ∧ w'.ownsRow w.heap.size 9 1 u6 (colL s ds (i + 1)).length (strV (colL s ds (i + 1))) ∧ Below w.heap.size w w')
            (with_reducible first | exact zk_keep hS2 hbW | exact zk_keep hS2 (bdrew (Below.refl _ _)))
            (first | (go_at_call 35; refine (HZ.out _).mono ?_; rintro e w4 ⟨rfl, hb⟩; have hbW := bthen (bdrew (Below.refl W4.heap.size W4)) hb))
          rename_i hh
          obtain ⟨-, HO8, L8⟩ := hh
          have HO9 := hid HO8
          clear HO8
          go_wp2_with fail
          go_roundw
          case rel => exact ⟨i + 1, by omega, by go_num, HO9.out, L8⟩
          case measure => simp [RowKit.intOf]; omega
    · have hie : i = n := by omega
      have d1 : decide ((i : Int) < (n : Int)) = false := decide_eq_false (by omega)
      rw [hie] at hown
      have HO2 := hid hown
      clear hown
      go_wp2_with fail
      go_ret2
      exact ⟨⟨u6, rfl, HO2.out⟩, hbel⟩
end Go.Proofs.Ytpcfjlfdjkifgaa

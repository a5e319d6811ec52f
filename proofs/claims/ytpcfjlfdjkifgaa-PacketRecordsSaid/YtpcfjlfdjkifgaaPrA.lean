/-
  Small words for the walks over lists of blocks and sectors; blocks of zero bytes.
-/
import Derived.Test.YtpcfjlfdjkifgaaPkE
import Derived.Test.YtpcfjlfdjkifgaaShelf
import Derived.LoopTactic
import Derived.LoopN
import Derived.Laws.BitsAllLaws
import Derived.Deep.MidRow
import Derived.OwnWalk
import Derived.StillTailTactics
import Derived.Deep.RegionHeld3
import Derived.Deep.RegionWith
import Derived.Lib.ConvBytes
namespace Go.Proofs.Ytpcfjlfdjkifgaa
open Go.RowKit Go.Lib
set_option linter.unusedVariables false
set_option linter.unusedSimpArgs false

theorem Try.infoB : (Try.prog.info? 5).map (fun i => (i.zero, i.size, i.bytes)) = some (some (.int .u8 0), 1, 1) := by kernel_rfl
theorem info_B : ∃ i, Try.prog.info? 5 = some i ∧ i.zero = some (.int .u8 0) ∧ i.size = 1 ∧ i.bytes = 1 := by
  have h := Try.infoB
  cases hi : Try.prog.info? 5 with
  | none => rw [hi] at h; simp at h
  | some i =>
    rw [hi] at h
    simp only [Option.map_some, Option.some.injEq, Prod.mk.injEq] at h
    exact ⟨i, rfl, h.1, h.2.1, h.2.2⟩
theorem ret_int {k : IntKind} {a b : Int} (h : a = b) : Ending.returned (.int k a) = .returned (.int k b) := by rw [h]
theorem ret_bool {a b : Bool} (h : a = b) : Ending.returned (.bool a) = .returned (.bool b) := by rw [h]
theorem ret_str {a b : ByteArray} (h : a = b) : Ending.returned (.string a) = .returned (.string b) := by rw [h]
theorem bthen {w w1 w2 : World} (h : Below w.heap.size w w1) (k : Below w1.heap.size w1 w2) : Below w.heap.size w w2 := h.trans (k.mono h.size)
theorem balloc {w w1 : World} (h : Below w.heap.size w w1) (o : Obj) : Below w.heap.size w (w1.alloc o) := h.alloc h.size o
theorem below_setRow {B : Nat} {a w : World} (h : Below B a w) (g : Nat) (cs : Array Value) (hg : B ≤ g) : Below B a (w.setRow g cs) :=
  h.trans ⟨rfl, rfl, rfl, by simp, fun k hk => setRow_other w g k cs (by omega)⟩
theorem grown_of_below' {w w1 : World} (h : Below w.heap.size w w1) (row : Option Nat) : w.grownBy w1 row := ⟨h.os, h.tape, h.output, h.size, fun i hi _ => h.block i hi⟩
theorem own_below {w w1 : World} {base : Nat} {e : TypeId} {size : Nat} {v : Value} {n : Nat} {xs : List Value} (h : w.ownsRow base e size v n xs) (hb : Below w.heap.size w w1) : w1.ownsRow base e size v n xs :=
  h.kept (grown_of_below' hb none) (by cases v.ownBlock <;> simp)
theorem own_form {w : World} {base : Nat} {e : TypeId} {size : Nat} {v : Value} {n : Nat} {xs : List Value} (h : w.ownsRow base e size v n xs) (hn : 0 < n) : ∃ g cap, v = .slice (some ⟨g, 0, none⟩) n cap ∧ base ≤ g ∧ g < w.heap.size ∧ n ≤ cap := by
  rcases h.2 with ⟨_, h0⟩ | ⟨g, cap, cur, rfl, hb, hg, hc, _⟩
  · omega
  · exact ⟨g, cap, rfl, hb, (Array.getElem?_eq_some_iff.1 hg).1, hc⟩
theorem bdrew {B : Nat} {a w : World} (h : Below B a w) : Below B a w.drew := h.drew
theorem bset {w w1 : World} {p : Addr} (u : Value) (hp : w.heap.size ≤ p.block) (h : Below w.heap.size w w1) : Below w.heap.size w (w1.setCell p u) := h.setCell hp u
theorem brow {w w1 : World} (g : Nat) (cs : Array Value) (hg : w.heap.size ≤ g) (h : Below w.heap.size w w1) : Below w.heap.size w (w1.setRow g cs) := below_setRow h g cs hg
/-- A cell that is there stays behind a call. -/
theorem below_cell {w w1 : World} {p : Addr} {v : Value} (hb : Below w.heap.size w w1) (h : w.cell? p = some v) : w1.cell? p = some v := by
  by_cases hp : p.block < w.heap.size
  · rw [hb.cell hp]; exact h
  · rw [World.cell?, Array.getElem?_eq_none (by omega)] at h; simp at h
theorem alloc_cell {w : World} {o : Obj} {p : Addr} {v : Value} (h : w.cell? p = some v) : (w.alloc o).cell? p = some v := below_cell (balloc (Below.refl _ _) o) h

/-- A block of cells that may be written. -/
structure Blk (W : World) (g : Nat) (l : List Value) : Prop where
  lt : g < W.heap.size
  cell : ∀ (i : Nat) (v : Value), l[i]? = some v → W.cell? ⟨g, i, none⟩ = some v
  free : ∀ (i : Nat), i < l.length → W.frozen? ⟨g, i, none⟩ = false
theorem Blk.made (w : World) (l : List Value) (t : TypeId) : Blk (w.alloc (.cells l.toArray t)) w.heap.size l :=
  ⟨by simp, fun i v h => by simp [h], fun i h => by simp [h]⟩
theorem Blk.below {W W1 : World} {g : Nat} {l : List Value} (h : Blk W g l) (hb : Below W.heap.size W W1) : Blk W1 g l :=
  ⟨Nat.lt_of_lt_of_le h.lt hb.size, fun i v hi => below_cell hb (h.cell i v hi), fun i hi => (hb.frozen (p := ⟨g, i, none⟩) h.lt).trans (h.free i hi)⟩
theorem Blk.alloc {W : World} {g : Nat} {l : List Value} (h : Blk W g l) (o : Obj) : Blk (W.alloc o) g l := h.below (balloc (Below.refl _ _) o)
theorem Blk.drew {W : World} {g : Nat} {l : List Value} (h : Blk W g l) : Blk W.drew g l := h.below (bdrew (Below.refl _ _))
theorem Blk.drewN {W : World} {g : Nat} {l : List Value} (h : Blk W g l) (n : Nat) : Blk (W.drewN n) g l := h.below (bdrN (Below.refl _ _) n)
theorem Blk.set {W : World} {g : Nat} {l : List Value} (h : Blk W g l) (p : Addr) (v : Value) (hp : p.block ≠ g) : Blk (W.setCell p v) g l :=
  ⟨by simpa using h.lt, fun i u hi => by rw [World.cell?_setCell_other _ _ _ _ (fun q => hp (congrArg Addr.block q))]; exact h.cell i u hi, fun i hi => by rw [World.frozen?_setCell]; exact h.free i hi⟩
theorem Blk.write {W : World} {g : Nat} {l : List Value} (h : Blk W g l) (i : Nat) (v : Value) (hi : i < l.length) : Blk (W.setCell ⟨g, i, none⟩ v) g (l.set i v) := by
  have h1 : W.cell? ⟨g, i, none⟩ = some l[i] := h.cell i _ (List.getElem?_eq_getElem hi)
  refine ⟨by simpa using h.lt, fun j u hj => ?_, fun j hj => by rw [World.frozen?_setCell]; exact h.free j (by simpa using hj)⟩
  by_cases q : i = j
  · subst q
    rw [List.getElem?_set_self hi] at hj
    cases hj
    exact World.cell?_setCell_same _ _ _ h1
  · rw [List.getElem?_set_ne q] at hj
    rw [World.cell?_setCell_other _ _ _ _ (fun e => q (congrArg Addr.off e))]
    exact h.cell j u hj

def u8s (l : List Int) : List Value := l.map (Value.int .u8)
/-- string(b) of a row of bytes of the call's own. -/
theorem own_str {w : World} {base n : Nat} {v : Value} {xs : List Int} (h : w.ownsRow base 5 1 v n (u8s xs)) (hl : xs.length = n) : (convert 70 9 v).run Try.prog w = .ok (.string (strOfNums xs)) w := by
  rcases h.2 with ⟨rfl, h0⟩ | ⟨g, cap, cur, rfl, _⟩
  · obtain rfl : xs = [] := List.eq_nil_of_length_eq_zero (by omega)
    exact run_convert_bytes_nil w 70 5 Try.underlying70 Try.underlying5 0 0 9 Try.underlying9
  · refine run_convert_bytes_arg w 70 5 Try.underlying70 Try.underlying5 g 0 n cap xs hl (fun i hi => ?_) 9 Try.underlying9
    rw [h.cellAt (0 + i) (by omega)]
    simp [u8s, List.getElem?_eq_getElem (show i < xs.length by omega), List.getD_eq_getElem?_getD]

/-- Equal bytes. -/
def rep (b : Int) (n : Nat) : ByteArray := strOfNums (List.replicate n b)
theorem rep_snoc (b : Int) (k : Nat) : u8s (List.replicate (k + 1) b) = u8s (List.replicate k b) ++ [.int .u8 b] := by
  unfold u8s; rw [List.replicate_succ', List.map_append]; rfl
theorem rep_size (b : Int) (n : Nat) : (rep b n).size = n := by unfold rep; rw [strOfNums_size, List.length_replicate]

theorem refRepeat_any (b : Int) (n : Nat) (hn : n ≤ 4000) (w : World) :
    Calls Try.prog 40 #[.int .u8 b, .int .i64 (n : Int)] w fun e w' => e = .returned (.string (rep b n)) ∧ Below w.heap.size w w' := by
  obtain ⟨i0, hi, hz0, hz1, hz2⟩ := info_B
  go_enter Try.func40, Try.ntmps40
  go_wp2_with fail
  go_loopw [5, 6] (fun v i wr => ∃ k : Nat, k ≤ n ∧ i = .int .i64 k ∧ wr.ownsRow w.heap.size 5 1 v k (u8s (List.replicate k b)) ∧ Below w.heap.size w wr) (fun _ i _ => n - (RowKit.intOf i).toNat)
  case atStart => exact ⟨0, by omega, rfl, World.ownsRow_lit w #[] 0 (Nat.le_refl _) (by decide) rfl, balloc (Below.refl _ _) _⟩
  case round =>
    obtain ⟨k, hk, rfl, hown, hbel⟩ := hrel
    by_cases hlt : k < n
    · have d1 : decide ((k : Int) < (n : Int)) = true := decide_eq_true (by omega)
      have hs0 : w.heap.size ≤ wr.heap.size := hbel.size
      go_wp2_with (at_builtin; refine wpList_append_own _ rfl _ _ 70 rfl w.heap.size 5 i0 (.int .u8 0) 1 1 Try.underlying70 hi hz0 hz1 hz2 rfl (by decide) _ _ _ rfl (hown.alloc _) ⟨wr.heap.size, 0, none⟩ 1 1 [.int .u8 b] rfl rfl ?c1 ?c2 ?c3 ?c4 ?c5 ?_)
      case c1 =>
        intro j u hj
        match j, hj with
        | 0, hj => simp at hj; subst hj; simp [Addr.add]
      case c2 => intro u hu; simp at hu; subst hu; rfl
      case c3 => unfold maxLen; omega
      case c4 => omega
      case c5 => simp; omega
      intro v' w' hown' hgrow _
      have hb' : Below w.heap.size w w' := (hbel.alloc hs0 _).grown hgrow (by simp; omega) (fun r hr => (hown.lt r hr).1)
      have HO := hid hown'
      clear hown' hown hgrow
      go_wp2
      go_roundw
      case rel => exact ⟨k + 1, by omega, by go_num, by rw [rep_snoc]; exact HO.out, hb'⟩
      case measure => simp [RowKit.intOf]; omega
    · have e8 : Hid (k = n) := (by omega : k = n)
      have d1 : decide ((k : Int) < (n : Int)) = false := decide_eq_false (by omega)
      have K := own_str hown List.length_replicate
      go_wp2_with fail
      go_ret
      exact ⟨ret_str (by rw [e8.out]; rfl), hbel⟩


/-- A block of zero bytes. -/
def zeroS : ByteArray := ⟨(repeatL [0] 2048).toArray⟩
theorem zero_size : zeroS.size = 2048 := by
  show (repeatL [0] 2048).toArray.size = 2048
  rw [List.size_toArray, repeatL_length]; rfl
theorem rep_zeroL (n : Nat) : (List.replicate n (0 : Int)).map (fun k => UInt8.ofNat k.toNat) = repeatL [0] n := by
  induction n with
  | zero => rfl
  | succ n ih => rw [List.replicate_succ, List.map_cons, ih]; rfl
theorem rep_zero : rep 0 2048 = zeroS := by
  unfold rep strOfNums zeroS
  rw [rep_zeroL]
theorem zeros_any (w : World) : Calls Try.prog 35 #[] w fun e w' => e = .returned (.string zeroS) ∧ Below w.heap.size w w' := by
  have HR : Hid (∀ w : World, Calls Try.prog 41 #[.string { data := #[0] }, .int .i64 2048] w fun e w' => e = .returned (.string zeroS) ∧ Below w.heap.size w w') := fun w => Try.strings_Repeat { data := #[0] } 2048 w (by omega) (by show 1 * 2048 ≤ _; omega)
  generalize zeroS = Z at *
  go_enter Try.func35, Try.ntmps35
  go_wp2_with fail
  refine (HR.out _).mono ?_
  rintro e w1 ⟨rfl, hb⟩
  go_wp2_with fail
  go_ret
  exact ⟨rfl, hb⟩
theorem refZero_any (w : World) : Calls Try.prog 28 #[] w fun e w' => e = .returned (.string zeroS) ∧ Below w.heap.size w w' := by
  have HR : Hid (∀ w : World, Calls Try.prog 40 #[.int .u8 0, .int .i64 2048] w fun e w' => e = .returned (.string zeroS) ∧ Below w.heap.size w w') := fun w => by
    have := refRepeat_any 0 2048 (by omega) w
    rwa [rep_zero] at this
  generalize zeroS = Z at *
  go_enter Try.func28, Try.ntmps28
  go_wp2_with fail
  refine (HR.out _).mono ?_
  rintro e w1 ⟨rfl, hb⟩
  go_wp2_with fail
  go_ret
  exact ⟨rfl, hb⟩

/-- A slice of strings, as it reads. -/
structure SR (w : World) (v : Value) (bs : List ByteArray) : Prop where
  is : (bs = [] ∧ ∃ (p : Option Addr) (cap : Nat), v = .slice p 0 cap) ∨ ∃ (g o cap : Nat), v = .slice (some ⟨g, o, none⟩) bs.length cap ∧ bs.length ≤ cap ∧ cap ≤ maxLen ∧ ∀ (i : Nat) (s : ByteArray), bs[i]? = some s → w.cell? ⟨g, o + i, none⟩ = some (.string s)
theorem SR.below {w w1 : World} {v : Value} {bs : List ByteArray} (h : SR w v bs) (hb : Below w.heap.size w w1) : SR w1 v bs := by
  rcases h.is with h | ⟨g, o, cap, h1, h2, h3, h4⟩
  · exact ⟨.inl h⟩
  · exact ⟨.inr ⟨g, o, cap, h1, h2, h3, fun i s hs => below_cell hb (h4 i s hs)⟩⟩
theorem SR.len {w : World} {v : Value} {bs : List ByteArray} (h : SR w v bs) : ∃ p cap, v = .slice p bs.length cap := by
  rcases h.is with ⟨rfl, p, cap, rfl⟩ | ⟨g, o, cap, h1, _⟩
  · exact ⟨p, cap, rfl⟩
  · exact ⟨_, cap, h1⟩
theorem SR.form {w : World} {v : Value} {bs : List ByteArray} (h : SR w v bs) (h0 : 0 < bs.length) : ∃ (g o cap : Nat), v = .slice (some ⟨g, o, none⟩) bs.length cap ∧ bs.length ≤ cap ∧ cap ≤ maxLen ∧ ∀ (i : Nat) (s : ByteArray), bs[i]? = some s → w.cell? ⟨g, o + i, none⟩ = some (.string s) := by
  rcases h.is with ⟨rfl, _⟩ | h
  · simp at h0
  · exact h
end Go.Proofs.Ytpcfjlfdjkifgaa

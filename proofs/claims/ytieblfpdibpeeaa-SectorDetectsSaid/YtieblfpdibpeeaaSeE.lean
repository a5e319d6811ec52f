/-
  Contracts of the parts of a sector: equal bytes, the sync field, the code of a part, and the closure that adds a part.
-/
import Derived.Test.YtieblfpdibpeeaaSeD
import Derived.Deep.AppendLies
namespace Go.Proofs.Ytieblfpdibpeeaa
open Go.RowKit Go.Lib
set_option linter.unusedVariables false
set_option linter.unusedSimpArgs false

def u8s (l : List Int) : List Value := l.map (Value.int .u8)
/-- string(b) of a row of bytes of the call's own. -/
theorem own_str {w : World} {base n : Nat} {v : Value} {xs : List Int} (h : w.ownsRow base 5 1 v n (u8s xs)) (hl : xs.length = n) : (convert 42 9 v).run Try.prog w = .ok (.string (strOfNums xs)) w := by
  rcases h.2 with ⟨rfl, h0⟩ | ⟨g, cap, cur, rfl, _⟩
  · obtain rfl : xs = [] := List.eq_nil_of_length_eq_zero (by omega)
    exact run_convert_bytes_nil w 42 5 Try.underlying42 Try.underlying5 0 0 9 Try.underlying9
  · refine run_convert_bytes_arg w 42 5 Try.underlying42 Try.underlying5 g 0 n cap xs hl (fun i hi => ?_) 9 Try.underlying9
    rw [h.cellAt (0 + i) (by omega)]
    simp [u8s, List.getElem?_eq_getElem (show i < xs.length by omega), List.getD_eq_getElem?_getD]

/-- Equal bytes. -/
def rep (b : Int) (n : Nat) : ByteArray := strOfNums (List.replicate n b)
theorem rep_snoc (b : Int) (k : Nat) : u8s (List.replicate (k + 1) b) = u8s (List.replicate k b) ++ [.int .u8 b] := by
  unfold u8s; rw [List.replicate_succ', List.map_append]; rfl
theorem rep_size (b : Int) (n : Nat) : (rep b n).size = n := by unfold rep; rw [strOfNums_size, List.length_replicate]

theorem refRepeat_any (b : Int) (n : Nat) (hn : n ≤ 4000) (w : World) :
    Calls Try.prog 36 #[.int .u8 b, .int .i64 (n : Int)] w fun e w' => e = .returned (.string (rep b n)) ∧ Below w.heap.size w w' := by
  obtain ⟨i0, hi, hz0, hz1, hz2⟩ := info_B
  go_enter Try.func36, Try.ntmps36
  go_wp2_with fail
  go_loopw [5, 6] (fun v i wr => ∃ k : Nat, k ≤ n ∧ i = .int .i64 k ∧ wr.ownsRow w.heap.size 5 1 v k (u8s (List.replicate k b)) ∧ Below w.heap.size w wr) (fun _ i _ => n - (RowKit.intOf i).toNat)
  case atStart => exact ⟨0, by omega, rfl, World.ownsRow_lit w #[] 0 (Nat.le_refl _) (by decide) rfl, balloc (Below.refl _ _) _⟩
  case round =>
    obtain ⟨k, hk, rfl, hown, hbel⟩ := hrel
    by_cases hlt : k < n
    · have d1 : decide ((k : Int) < (n : Int)) = true := decide_eq_true (by omega)
      have hs0 : w.heap.size ≤ wr.heap.size := hbel.size
      go_wp2_with (at_builtin; refine wpList_append_own _ rfl _ _ 42 rfl w.heap.size 5 i0 (.int .u8 0) 1 1 Try.underlying42 hi hz0 hz1 hz2 rfl (by decide) _ _ _ rfl (hown.alloc _) ⟨wr.heap.size, 0, none⟩ 1 1 [.int .u8 b] rfl rfl ?c1 ?c2 ?c3 ?c4 ?c5 ?_)
      case c1 =>
        intro j u hj
        match j, hj with
        | 0, hj => simp at hj; subst hj; simp [Addr.add]
      case c2 => intro u hu; simp at hu; subst hu; rfl
      case c3 => unfold maxLen; omega
      case c4 => omega
      case c5 => simp; omega
      intro v' w' hown' hgrow _
      have hb' : Below w.heap.size w w' := (hbel.alloc hs0 _).grown hgrow (by simp; omega) (fun r hr => (hown.lt r hr).1)
      have HO := hid hown'
      clear hown' hown hgrow
      go_wp2
      go_roundw
      case rel => exact ⟨k + 1, by omega, by go_num, by rw [rep_snoc]; exact HO.out, hb'⟩
      case measure => simp [RowKit.intOf]; omega
    · have e8 : Hid (k = n) := (by omega : k = n)
      have d1 : decide ((k : Int) < (n : Int)) = false := decide_eq_false (by omega)
      have K := own_str hown List.length_replicate
      go_wp2_with fail
      go_ret
      exact ⟨ret_str (by rw [e8.out]; rfl), hbel⟩

/-- The sync field. -/
def syncS : ByteArray := strOfNums [0, 255, 255, 255, 255, 255, 255, 255, 255, 255, 255, 0]
theorem refSync_any (w : World) : Calls Try.prog 34 #[] w fun e w' => e = .returned (.string syncS) ∧ Below w.heap.size w w' := by
  have HR : Hid (∀ w : World, Calls Try.prog 36 #[.int .u8 255, .int .i64 10] w fun e w' => e = .returned (.string (rep 255 10)) ∧ Below w.heap.size w w') := fun w => refRepeat_any 255 10 (by omega) w
  have HE : Hid ({ data := #[0] } ++ rep 255 10 ++ { data := #[0] } = syncS) := by unfold Hid; decide +kernel
  have z := rep_size 255 10
  generalize rep 255 10 = R at *
  go_enter Try.func34, Try.ntmps34
  go_wp2_with fail
  refine (HR.out _).mono ?_
  rintro e w1 ⟨rfl, hb1⟩
  go_wp2_with fail
  go_ret
  exact ⟨ret_str HE.out, hb1⟩

def syncV : Value := .agg #[.int .u8 0, .int .u8 255, .int .u8 255, .int .u8 255, .int .u8 255, .int .u8 255, .int .u8 255, .int .u8 255, .int .u8 255, .int .u8 255, .int .u8 255, .int .u8 0]
theorem sync_any (w : World) : Calls Try.prog 29 #[] w fun e w' => e = .returned syncV ∧ Below w.heap.size w w' := by
  go_enter Try.func29, Try.ntmps29
  go_wp2_with fail
  refine wp_loop_rounds 11 ?_
  iterate 11
    rw [rounds_succ]
    go_wp2_with fail
  refine bodyPost_ret (v := syncV) (by simp [results, Try.results29, go_sem, syncV]) rfl ⟨rfl, ?_⟩
  (repeat (first | exact Below.refl _ _ | assumption | refine balloc ?_ _ | refine bdrew ?_ | refine bdrN ?_ _ | refine bset _ (by first | omega | (simp; done) | (simp; omega)) ?_ | refine brow _ _ (by first | omega | (simp; done) | (simp; omega)) ?_ | (apply bthen; rotate_left; assumption)))

/-- The four bytes of an EDC. -/
def eby (c : Nat) : ByteArray := strOfNums [(c : Int) % 256, (c : Int) / 256 % 256, (c : Int) / 65536 % 256, (c : Int) / 16777216]
theorem eby_size (c : Nat) : (eby c).size = 4 := strOfNums_size _
theorem EDCBytes_any (c : Nat) (hc : c < 4294967296) (w : World) :
    Calls Try.prog 55 #[.int .u32 (c : Int)] w fun e w' => e = .returned (.string (eby c)) ∧ Below w.heap.size w w' := by
  have K := str4 ((c : Int) % 256) ((c : Int) / 256 % 256) ((c : Int) / 65536 % 256) ((c : Int) / 16777216)
  go_enter Try.func55, Try.ntmps55
  go_wp2_with fail
  go_ret
  exact ⟨rfl, balloc (Below.refl _ _) _⟩
theorem refEDCBytes_any (c : Nat) (hc : c < 4294967296) (w : World) :
    Calls Try.prog 59 #[.int .u32 (c : Int)] w fun e w' => e = .returned (.string (eby c)) ∧ Below w.heap.size w w' := by
  have K := str4 ((c : Int) % 256) ((c : Int) / 256 % 256) ((c : Int) / 65536 % 256) ((c : Int) / 16777216)
  go_enter Try.func59, Try.ntmps59
  go_wp2_with fail
  go_ret
  exact ⟨rfl, balloc (Below.refl _ _) _⟩

/-- The code of a part of a string. -/
def codeS (s : ByteArray) (a b : Nat) : ByteArray := eby (edc 0 (s.extract a b).data.toList)
theorem codeS_size (s : ByteArray) (a b : Nat) : (codeS s a b).size = 4 := strOfNums_size _
theorem code_any (s : ByteArray) (o : Nat) (ho : o ≤ s.size) (hs : s.size ≤ 4000) (w : World) :
    Calls Try.prog 31 #[.string s, .int .i64 (o : Int)] w fun e w' => e = .returned (.string (codeS s o s.size)) ∧ Below w.heap.size w w' := by
  have hz : (s.extract o s.size).size ≤ 140737488351232 := by simp; omega
  have HE := hid (fun w => EDC_any (s.extract o s.size) hz w)
  have l1 := edc_lt (s.extract o s.size).data.toList (show 0 < 4294967296 by omega)
  have HB := hid (fun w => EDCBytes_any (edc 0 (s.extract o s.size).data.toList) l1 w)
  have HC : Hid (codeS s o s.size = eby (edc 0 (s.extract o s.size).data.toList)) := rfl
  generalize edc 0 (s.extract o s.size).data.toList = c at *
  go_enter Try.func31, Try.ntmps31
  go_wp2_with fail
  refine (HE.out _).mono ?_
  rintro e w1 ⟨rfl, hb1⟩
  go_wp2_with fail
  refine (HB.out _).mono ?_
  rintro e w2 ⟨rfl, hb2⟩
  go_wp2_with fail
  go_ret
  exact ⟨by rw [HC.out]; rfl, by (repeat (first | exact Below.refl _ _ | assumption | refine balloc ?_ _ | refine bdrew ?_ | refine bdrN ?_ _ | refine bset _ (by first | omega | (simp; done) | (simp; omega)) ?_ | refine brow _ _ (by first | omega | (simp; done) | (simp; omega)) ?_ | (apply bthen; rotate_left; assumption)))⟩
set_option maxRecDepth 20000 in
theorem refcode_any (s : ByteArray) (m b d c o : Int) (h : IsLay m b d c o) (h1 : d + c ≤ s.size) (hs : s.size ≤ 4000) (w : World) :
    Calls Try.prog 35 #[.string s, .int .i64 m] w fun e w' => e = .returned (.string (codeS s o.toNat (d + c).toNat)) ∧ Below w.heap.size w w' := by
  have HS : Hid (∀ w : World, Calls Try.prog 18 #[.int .i64 m] w fun e w' => e = .returned (.tuple #[.int .i64 o, .int .i64 (d + c - o), .int .i64 0]) ∧ w = w') := fun w => by
    have := refSpan_any m w
    rwa [h.span] at this
  obtain ⟨g1, g2, g3, _⟩ := h.bd
  clear h
  obtain ⟨o', rfl⟩ : ∃ k : Nat, o = k := ⟨o.toNat, by omega⟩
  obtain ⟨n, hn⟩ : ∃ k : Nat, d + c = (o' : Int) + k := ⟨(d + c - o').toNat, by omega⟩
  have e0 : (d + c - (o' : Int)) = (n : Int) := by omega
  obtain ⟨z, e1⟩ : ∃ z : Nat, (d + c).toNat = z := ⟨_, rfl⟩
  have e2 : z ≤ s.size := by omega
  have e3 : o' ≤ z := by omega
  have e4 : (o' : Int) + (n : Int) = (z : Int) := by omega
  rw [e1, Int.toNat_natCast]
  rw [e0] at HS
  clear e0 e1 hn h1 g1 g2 g3
  have hz : (s.extract o' z).size ≤ 140737488351232 := by simp; omega
  have HE := hid (fun w => refEDC_any (s.extract o' z) hz w)
  have l1 := edc_lt (s.extract o' z).data.toList (show 0 < 4294967296 by omega)
  rw [← edc_edcR] at HE
  have HB := hid (fun w => refEDCBytes_any (edc 0 (s.extract o' z).data.toList) l1 w)
  have HC : Hid (codeS s o' z = eby (edc 0 (s.extract o' z).data.toList)) := rfl
  generalize edc 0 (s.extract o' z).data.toList = c' at *
  go_enter Try.func35, Try.ntmps35
  go_wp2_with fail
  refine (HS.out _).mono ?_
  rintro e w1 ⟨rfl, rfl⟩
  go_wp2_with fail
  refine (HE.out _).mono ?_
  rintro e w1 ⟨rfl, rfl⟩
  go_wp2_with fail
  refine (HB.out _).mono ?_
  rintro e w2 ⟨rfl, hb2⟩
  go_wp2_with fail
  go_ret
  exact ⟨by rw [HC.out]; rfl, by (repeat (first | exact Below.refl _ _ | assumption | refine balloc ?_ _ | refine bdrew ?_ | refine bdrN ?_ _ | refine bset _ (by first | omega | (simp; done) | (simp; omega)) ?_ | refine brow _ _ (by first | omega | (simp; done) | (simp; omega)) ?_ | (apply bthen; rotate_left; assumption)))⟩

/-- The closure that adds a part to the captured string. -/
theorem add_any (p s : ByteArray) (g : Nat) (hz : s.size ≤ 4000 ∧ p.size ≤ 4000) (w : World) (hc : w.cell? ⟨g, 0, none⟩ = some (.string s)) (hf : w.frozen? ⟨g, 0, none⟩ = false) :
    Calls Try.prog 30 #[.string p, .pointer (some ⟨g, 0, none⟩)] w fun e w' => e = .returned (.tuple #[]) ∧ w.setCell ⟨g, 0, none⟩ (.string (s ++ p)) = w' := by
  obtain ⟨z1, z2⟩ := hz
  go_enter Try.func30, Try.ntmps30
  go_wp2_with fail
  go_end0
  exact ⟨rfl, rfl⟩
end Go.Proofs.Ytieblfpdibpeeaa

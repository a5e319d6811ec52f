/-
  The contract of the reference's Xor, and the law ChecksumLinear (package masterdisclaw02).
-/
import Derived.Test.YtefaabigpbndaaaCkY
import Derived.Deep.AppendLies
import Derived.Deep.RegionLaw
import Derived.WalkSmall
namespace Go.Proofs.Ytefaabigpbndaaa
open Go.RowKit Go.Lib
set_option linter.unusedVariables false
set_option linter.unusedSimpArgs false

theorem Try.infoByte : (Try.prog.info? 5).map (fun i => (i.zero, i.size, i.bytes)) = some (some (.int .u8 0), 1, 1) := by kernel_rfl

/-- The bytes that the reference's Xor makes of the first m bytes. -/
def xo (a b : List UInt8) (m : Nat) : List Int := (List.zipWith (fun x y => ((x.toNat ^^^ y.toNat : Nat) : Int)) a b).take m
def u8s (l : List Int) : List Value := l.map (Value.int .u8)
theorem xo_len (a b : ByteArray) (m : Nat) (ha : m ≤ a.size) (hb : m ≤ b.size) : (xo a.data.toList b.data.toList m).length = m := by
  simp [xo]; omega
theorem xo_snoc (a b : ByteArray) (m : Nat) (ha : m < a.size) (hb : m < b.size) : u8s (xo a.data.toList b.data.toList (m + 1)) = u8s (xo a.data.toList b.data.toList m) ++ [.int .u8 (((a[m]).toNat ^^^ (b[m]).toNat : Nat) : Int)] := by
  unfold u8s xo
  rw [List.take_succ_eq_append_getElem (by simp; omega), List.map_append]
  simp
  rfl

/-- string(b) of a row of bytes of the call's own. -/
theorem own_str {w : World} {base n : Nat} {v : Value} {xs : List Int} (h : w.ownsRow base 5 1 v n (u8s xs)) (hl : xs.length = n) : (convert 34 9 v).run Try.prog w = .ok (.string (strOfNums xs)) w := by
  rcases h.2 with ⟨rfl, h0⟩ | ⟨g, cap, cur, rfl, _⟩
  · obtain rfl : xs = [] := List.eq_nil_of_length_eq_zero (by omega)
    exact run_convert_bytes_nil w 34 5 Try.underlying34 Try.underlying5 0 0 9 Try.underlying9
  · refine run_convert_bytes_arg w 34 5 Try.underlying34 Try.underlying5 g 0 n cap xs hl (fun i hi => ?_) 9 Try.underlying9
    rw [h.cellAt (0 + i) (by omega)]
    simp [u8s, List.getElem?_eq_getElem (show i < xs.length by omega), List.getD_eq_getElem?_getD]

theorem Xor_any (a b : ByteArray) (ha : a.size ≤ 300) (hb : b.size = a.size) (w : World) :
    Calls Try.prog 21 #[.string a, .string b] w fun e w' => e = .returned (.string (strOfNums (xo a.data.toList b.data.toList a.size))) ∧ Below w.heap.size w w' := by
  obtain ⟨i0, hi, hz0, hz1, hz2⟩ := info_parts Try.infoByte
  have HB : Hid (b.size = a.size) := hb
  clear hb
  go_enter Try.func21, Try.ntmps21
  go_wp2_with fail
  go_loopw [5, 6] (fun v i wr => ∃ k : Nat, k ≤ a.size ∧ i = .int .i64 k ∧ wr.ownsRow w.heap.size 5 1 v k (u8s (xo a.data.toList b.data.toList k)) ∧ Below w.heap.size w wr) (fun _ i _ => a.size - (intOf i).toNat)
  case atStart => exact ⟨0, by omega, rfl, World.ownsRow_lit w #[] 0 (Nat.le_refl _) (by decide) rfl, balloc (Below.refl _ _) _⟩
  case round =>
    obtain ⟨k, hk, rfl, hown, hbel⟩ := hrel
    by_cases hlt : k < a.size
    · have hltb : k < b.size := by have := HB.out; omega
      have ba := (a[k]).toNat_lt
      have bb := (b[k]).toNat_lt
      have hx : bits .xor .u8 ((a[k]).toNat : Int) ((b[k]).toNat : Int) = (((a[k]).toNat ^^^ (b[k]).toNat : Nat) : Int) := u8_xor_nat _ _ ba bb
      have d1 : decide ((k : Int) < (a.size : Int)) = true := decide_eq_true (by omega)
      have d2 : decide ((k : Int) < (b.size : Int)) = true := decide_eq_true (by omega)
      go_wp2_with fail
      have hs0 : w.heap.size ≤ wr.heap.size := hbel.size
      go_region_law (refine step_append_lies _ rfl (.tmp 20) (.tmp 28) 34 rfl w.heap.size 5 i0 (.int .u8 0) 1 1 Try.underlying34 hi hz0 hz1 hz2 rfl (by decide) u5 k _ (by rfl) (hown.drew.alloc _) ⟨wr.heap.size, 0, none⟩ 1 1 [.int .u8 (((a[k]).toNat ^^^ (b[k]).toNat : Nat) : Int)] (by rfl) rfl (cell_one_new _ _ _) (by intro u hu; simp at hu; subst hu; rfl) (by omega) (by unfold maxLen; omega) (by omega) (by simp; omega) _ rfl ?_; intro g cap w1 hown' hgrow hat hgl)
      all_goals
        have hb' : Below w.heap.size w w1 := ((hbel.alloc hs0 _).drew).grown hgrow (by simp; omega) (fun r hr => (hown.lt r hr).1)
        have HO := hid hown'
        clear hown' hgrow hat hgl d1 d2 hx
        go_wp2
        go_roundw
        case rel => exact ⟨k + 1, by omega, by go_num, by rw [xo_snoc a b k hlt hltb]; exact HO.out, hb'⟩
        case measure => simp [intOf]; omega
    · have e8 : Hid (k = a.size) := (by omega : k = a.size)
      have d1 : decide ((k : Int) < (a.size : Int)) = false := decide_eq_false (by omega)
      have K := own_str hown (xo_len a b k hk (by have := HB.out; omega))
      go_wp2_with fail
      go_ret
      exact ⟨ret_str (by rw [e8.out]), hbel⟩

/-- The exclusive or of two lists of bytes. -/
def zx (l m : List UInt8) : List UInt8 := List.zipWith (· ^^^ ·) l m
theorem byte_xor (x y : UInt8) : UInt8.ofNat ((x.toNat ^^^ y.toNat : Nat) : Int).toNat = x ^^^ y := by
  apply UInt8.toNat_inj.1
  have h : x.toNat ^^^ y.toNat < 256 := xor_lt8 x.toNat_lt y.toNat_lt
  rw [UInt8.toNat_xor, Int.toNat_natCast, UInt8.toNat_ofNat_of_lt' h]
theorem xo_list (a b : ByteArray) (hb : b.size = a.size) : (strOfNums (xo a.data.toList b.data.toList a.size)).data.toList = zx a.data.toList b.data.toList := by
  rw [strOfNums_data]
  unfold xo zx
  rw [List.take_of_length_le (by simp; omega), List.map_zipWith]
  congr 1
  funext x y
  exact byte_xor x y
theorem eb_xor (c d : Nat) (x y : UInt8) : eb (c ^^^ d) (x ^^^ y) = eb c x ^^^ eb d y := by
  unfold eb
  have h1 : (c ^^^ d) / 256 = c / 256 ^^^ d / 256 := Nat.xor_div_two_pow (n := 8)
  have h2 : (c ^^^ d) % 256 = c % 256 ^^^ d % 256 := Nat.xor_mod_two_pow (n := 8)
  rw [h1, h2, UInt8.toNat_xor, xor_cross (c % 256), esN_xor, xor_cross]
theorem edc_zx : ∀ (l m : List UInt8) (c d : Nat), l.length = m.length → edc (c ^^^ d) (zx l m) = edc c l ^^^ edc d m
  | [], [], _, _, _ => rfl
  | x :: l, y :: m, c, d, h => by
    show edc (eb (c ^^^ d) (x ^^^ y)) (zx l m) = edc (eb c x) l ^^^ edc (eb d y) m
    rw [eb_xor]
    exact edc_zx l m _ _ (by simpa using h)
theorem cb_xor {c d : Nat} (hc : c < 65536) (hd : d < 65536) (x y : UInt8) : cb (c ^^^ d) (x ^^^ y) = cb c x ^^^ cb d y := by
  unfold cb
  have h1 : (c ^^^ d) / 256 = c / 256 ^^^ d / 256 := Nat.xor_div_two_pow (n := 8)
  have h2 : (c ^^^ d) * 256 % 65536 = (c * 256 % 65536) ^^^ (d * 256 % 65536) := by rw [mul_xor]; exact Nat.xor_mod_two_pow (n := 16)
  have k1 : c / 256 ^^^ x.toNat < 256 := xor_lt8 (by omega) x.toNat_lt
  have k2 : d / 256 ^^^ y.toNat < 256 := xor_lt8 (by omega) y.toNat_lt
  rw [h1, h2, UInt8.toNat_xor, xor_cross (c / 256), mul_xor, csN_xor 8 (by omega) (by omega), xor_cross]
theorem crc_zx : ∀ (l m : List UInt8) (c d : Nat), c < 65536 → d < 65536 → l.length = m.length → crc (c ^^^ d) (zx l m) = crc c l ^^^ crc d m
  | [], [], _, _, _, _, _ => rfl
  | x :: l, y :: m, c, d, hc, hd, h => by
    show crc (cb (c ^^^ d) (x ^^^ y)) (zx l m) = crc (cb c x) l ^^^ crc (cb d y) m
    rw [cb_xor hc hd]
    exact crc_zx l m _ _ (cb_lt x hc) (cb_lt y hd) (by simpa using h)

theorem ChecksumLinear_walk (a0 : ByteArray) (a1 : ByteArray) (w0 : a0.size ≤ maxLen) (w1 : a1.size ≤ maxLen) (w : World) :
    Calls Try.prog 5 #[.string a0, .string a1] w fun e w' => e = .returned (.bool true) ∧ Below w.heap.size w w' := by
  clear w0 w1
  by_cases h : 300 < a0.size
  · have hd : decide (300 < (a0.size : Int)) = true := decide_eq_true (by omega)
    go_enter Try.func5, Try.ntmps5
    go_wp2_with fail
    refine (awake_any _).mono ?_
    rintro e w1 ⟨rfl, hb1⟩
    go_wp2_with fail
    go_ret
    exact ⟨rfl, hb1⟩
  · have hd : decide (300 < (a0.size : Int)) = false := decide_eq_false (by omega)
    by_cases h2 : a1.size = a0.size
    · have HE := hid h2
      have hn : ((a0.size : Int) != (a1.size : Int)) = false := by rw [h2]; simp
      have s0 : a0.size ≤ 140737488351232 := by omega
      have s1 : a1.size ≤ 140737488351232 := by omega
      have HX : Hid (∀ w : World, Calls Try.prog 11 #[.string (strOfNums (xo a0.data.toList a1.data.toList a0.size))] w fun e w' => e = .returned (.int .u32 (edc 0 (zx a0.data.toList a1.data.toList) : Nat)) ∧ Below w.heap.size w w') := fun w => by
        have := EDC_any (strOfNums (xo a0.data.toList a1.data.toList a0.size)) (by rw [strOfNums_size, xo_len a0 a1 a0.size (by omega) (by omega)]; omega) w
        rw [xo_list a0 a1 h2] at this
        exact this
      have HY : Hid (∀ w : World, Calls Try.prog 13 #[.string (strOfNums (xo a0.data.toList a1.data.toList a0.size))] w fun e w' => e = .returned (.int .u16 (crc 0 (zx a0.data.toList a1.data.toList) : Nat)) ∧ Below w.heap.size w w') := fun w => by
        have := CRC16_any (strOfNums (xo a0.data.toList a1.data.toList a0.size)) (by rw [strOfNums_size, xo_len a0 a1 a0.size (by omega) (by omega)]; omega) w
        rw [xo_list a0 a1 h2] at this
        exact this
      have hl : a0.data.toList.length = a1.data.toList.length := by simp; omega
      have e1 : bits .xor .u32 ((edc 0 a0.data.toList : Nat) : Int) ((edc 0 a1.data.toList : Nat) : Int) = ((edc 0 (zx a0.data.toList a1.data.toList) : Nat) : Int) := by
        rw [u32_xor_nat _ _ (edc_lt _ (by omega)) (edc_lt _ (by omega)), ← edc_zx _ _ 0 0 hl]; rfl
      have e2 : bits .xor .u16 ((crc 0 a0.data.toList : Nat) : Int) ((crc 0 a1.data.toList : Nat) : Int) = ((crc 0 (zx a0.data.toList a1.data.toList) : Nat) : Int) := by
        rw [u16_xor_nat _ _ (crc_lt _ (by omega)) (crc_lt _ (by omega)), ← crc_zx _ _ 0 0 (by omega) (by omega) hl]; rfl
      clear h2 hl
      go_enter Try.func5, Try.ntmps5
      go_wp2_with fail
      refine (awake_any _).mono ?_
      rintro e w1 ⟨rfl, hb1⟩
      go_wp2_with fail
      refine (Xor_any a0 a1 (by omega) HE.out _).mono ?_
      rintro e w2 ⟨rfl, hb2⟩
      go_wp2_with fail
      refine (HX.out _).mono ?_
      rintro e w3 ⟨rfl, hb3⟩
      go_wp2_with fail
      refine (EDC_any a0 s0 _).mono ?_
      rintro e w4 ⟨rfl, hb4⟩
      go_wp2_with fail
      refine (EDC_any a1 s1 _).mono ?_
      rintro e w5 ⟨rfl, hb5⟩
      go_wp2_with fail
      refine (HY.out _).mono ?_
      rintro e w6 ⟨rfl, hb6⟩
      go_wp2_with fail
      refine (CRC16_any a0 s0 _).mono ?_
      rintro e w7 ⟨rfl, hb7⟩
      go_wp2_with fail
      refine (CRC16_any a1 s1 _).mono ?_
      rintro e w8 ⟨rfl, hb8⟩
      go_wp2_with fail
      go_ret
      exact ⟨rfl, bthen (bthen (bthen (bthen (bthen (bthen (bthen hb1 hb2) hb3) hb4) hb5) hb6) hb7) hb8⟩
    · have hn : ((a0.size : Int) != (a1.size : Int)) = true := by rw [bne_iff_ne]; omega
      clear h2
      go_enter Try.func5, Try.ntmps5
      go_wp2_with fail
      refine (awake_any _).mono ?_
      rintro e w1 ⟨rfl, hb1⟩
      go_wp2_with fail
      go_ret
      exact ⟨rfl, hb1⟩
end Go.Proofs.Ytefaabigpbndaaa

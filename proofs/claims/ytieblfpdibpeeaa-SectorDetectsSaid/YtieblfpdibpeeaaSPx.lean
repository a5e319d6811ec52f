/-
  Helpers for the contracts of Parse in modes 1 and 2.
-/
import Derived.Test.YtieblfpdibpeeaaSPb
namespace Go.Proofs.Ytieblfpdibpeeaa
open Go.RowKit Go.Lib
set_option linter.unusedVariables false
set_option linter.unusedSimpArgs false

theorem parse1 {r : ByteArray} {m : Int} (hm : m ≠ 0) (hk : kindE r = (m, 0)) : parseE r = if (decide ((dE (at_ r 12) (at_ r 13) (at_ r 14)).2.2.2 = 0) && ((r.extract 0 12).toList == syncS.toList) && (((r.extract 16 20).toList == (r.extract 20 24).toList) && decide (at_ r 17 ≤ 31))) = false then PR.no 10 else if chkB r = false then PR.no 9 else getP r m := by
  unfold parseE frontB restB adr
  rw [hk, if_neg (fun q => q rfl), if_neg hm]
theorem getP1 {r : ByteArray} {m : Int} {n z : Nat} (hm : m ≠ 0) (hI : IsLay m 2 24 n 16) (hz : 24 + n = z) : getP r m = ⟨(60 * (dE (at_ r 12) (at_ r 13) (at_ r 14)).1 + (dE (at_ r 12) (at_ r 13) (at_ r 14)).2.1) * 75 + (dE (at_ r 12) (at_ r 13) (at_ r 14)).2.2.1 - 150, m, at_ r 16, at_ r 17, at_ r 18, at_ r 19, r.extract 24 z, 0⟩ := by
  unfold getP adr
  rw [if_neg hm, hI.cap]
  show PR.mk _ m _ _ _ _ (r.extract 24 (24 + (n : Int).toNat)) 0 = _
  rw [Int.toNat_natCast, hz]
theorem sub_sz {r : ByteArray} (hs : r.size = 2352) : (r.extract 16 20).size = 4 := ext_size _ _ _ (by omega)
theorem sub_e (r : ByteArray) (i : Nat) (hi : i < 4) : at_ (r.extract 16 20) i = at_ r (16 + i) := by
  unfold at_
  rw [ext_l, List.getD_eq_getElem?_getD, List.getD_eq_getElem?_getD, List.getElem?_drop, List.getElem?_take_of_lt (by omega)]
theorem sub_at (r : ByteArray) (i k : Nat) (hi : i < 4) (hk : 16 + i = k) (h : i < (r.extract 16 20).size) : ((r.extract 16 20)[i]'h).toNat = at_ r k := by
  rw [at_get _ _ h, sub_e _ _ hi, hk]
theorem bset4 {a w : World} {g : Nat} {v2 v3 v4 v5 : Value} (hg : a.heap.size ≤ g) (h : Below a.heap.size a w) :
    Below a.heap.size a ((((w.setCell ⟨g, 2, none⟩ v2).setCell ⟨g, 3, none⟩ v3).setCell ⟨g, 4, none⟩ v4).setCell ⟨g, 5, none⟩ v5) :=
  bset _ hg (bset _ hg (bset _ hg (bset _ hg h)))
theorem blk4 {w : World} {g : Nat} {u0 u1 u2 u3 u4 u5 u6 v2 v3 v4 v5 : Value} (h : Blk w g [u0, u1, u2, u3, u4, u5, u6]) :
    Blk ((((w.setCell ⟨g, 2, none⟩ v2).setCell ⟨g, 3, none⟩ v3).setCell ⟨g, 4, none⟩ v4).setCell ⟨g, 5, none⟩ v5) g [u0, u1, v2, v3, v4, v5, u6] :=
  (((h.write 2 v2 (by simp)).write 3 v3 (by simp)).write 4 v4 (by simp)).write 5 v5 (by simp)
theorem Blk.set4 {w : World} {g k : Nat} {l : List Value} {v2 v3 v4 v5 : Value} (h : Blk w k l) (hk : g ≠ k) :
    Blk ((((w.setCell ⟨g, 2, none⟩ v2).setCell ⟨g, 3, none⟩ v3).setCell ⟨g, 4, none⟩ v4).setCell ⟨g, 5, none⟩ v5) k l :=
  (((h.set _ _ hk).set _ _ hk).set _ _ hk).set _ _ hk
end Go.Proofs.Ytieblfpdibpeeaa

/-
  The law SectorBuilds, as its row asks it.
-/
import Derived.Test.YtieblfpdibpeeaaSeR
namespace Go.Proofs.Ytieblfpdibpeeaa
open Go.RowKit
set_option linter.unusedVariables false
theorem SectorBuilds_law (l m f c s k : Int) (x : ByteArray) (w0 : (Lit.int .i64 l).wf = true) (w1 : (Lit.int .i64 m).wf = true) (w2 : (Lit.int .i64 f).wf = true) (w3 : (Lit.int .i64 c).wf = true) (w4 : (Lit.int .i64 s).wf = true) (w5 : (Lit.int .i64 k).wf = true) (w6 : x.size ≤ maxLen) (w : World) :
    Calls Try.prog 3 #[.agg #[.int .i64 l, .int .i64 m, .int .i64 f, .int .i64 c, .int .i64 s, .int .i64 k, .string x]] w fun e w' => e = .returned (.bool true) ∧ Below w.heap.size w w' :=
  SectorBuilds_walk l m f c s k x (bounds_i64 w0) w
end Go.Proofs.Ytieblfpdibpeeaa

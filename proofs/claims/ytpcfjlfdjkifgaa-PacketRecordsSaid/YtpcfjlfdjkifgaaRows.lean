/-
  No cell of these rows narrows 'for every input' (looked for: loops, veiled, ifaces, maps, wideKeys, modest, calm, conditions, laid).
  DERIVED. THE GIVEN ROWS OF THIS SEAT. 7 by the template 'for every input the law returns true; each argument reads behind the call as it read before'; 0 by the template 'total and deterministic' (their statements: YtpcfjlfdjkifgaaTotals.lean).
  GIVEN WITH THE SEED: the statements are not yours to turn. If you find one false, say at which input.
  Laid BY PROGRAM, IN A SANDBOX (cutbox-rows.mjs): the forced cells as the released guide's own fill.sh prints them over the translation 37bc4464e9fa1106… (all of the seat's roots in one cut). By AI agents, Wed Nov 11 2026. No macro, syntax, notation, axiom, sorry.
-/
import Derived.Test.YtpcfjlfdjkifgaaChecked
import GoSem.Claim
import GoSem.ClaimJoined
import GoSem.ClaimMapViews
import Derived.JoinedTies
import Derived.KernelRfl
namespace Go.Proofs.Ytpcfjlfdjkifgaa
/- THE CELL 'sum', in the pinned program and in every row, IS THE sha256 OF THE DUMP (.gsa) THAT YtpcfjlfdjkifgaaProg.lean LOADS. Nothing in Lean hashes anything: it is a label: what it is worth is what the hold of that sum in a sandbox is worth. -/
noncomputable def Try.pinned : Pinned := { name := "ytpcfjlfdjkifgaa", sum := "37bc4464e9fa1106f04fd4afb33ffa33ddf79984186b7dce17045ad1e12a0a02", checked := Try.checked }
namespace Rows
def none {H : Type} : Left H := { results := [], args := [] }

/-- 'masterdisclaw11.PacketMaps': WHATEVER THE INPUT: true; the input reads as it did. -/
def packetMapsSpec : ChangeSpec := { name := "packetMaps", fn := fun _ => fun
  | [d1, d2] => { results := [.lit (.bool true)], args := [d1, d2] }
  | _ => none }
def packetMapsRow : OpenClaim := { program := "ytpcfjlfdjkifgaa", sum := "37bc4464e9fa1106f04fd4afb33ffa33ddf79984186b7dce17045ad1e12a0a02", func := "masterdisc/masterdisclaw11.PacketMaps", spec := "packetMaps", apart := false }
def PacketMapsSaid : Prop := packetMapsRow.holds Try.pinned (OpenSpec.ofChange packetMapsSpec)

/-- ITS FALSE NEIGHBOUR: 'it returns false'. Refute it at one input. -/
def packetMapsWrong : ChangeSpec := { name := "packetMaps", fn := fun _ => fun
  | [d1, d2] => { results := [.lit (.bool false)], args := [d1, d2] }
  | _ => none }
def PacketMapsWrongFalsely : Prop := packetMapsRow.holds Try.pinned (OpenSpec.ofChange packetMapsWrong)

/-- 'masterdisclaw11.PacketInverse': WHATEVER THE INPUT: true; the input reads as it did. -/
def packetInverseSpec : ChangeSpec := { name := "packetInverse", fn := fun _ => fun
  | [d1, d2] => { results := [.lit (.bool true)], args := [d1, d2] }
  | _ => none }
def packetInverseRow : OpenClaim := { program := "ytpcfjlfdjkifgaa", sum := "37bc4464e9fa1106f04fd4afb33ffa33ddf79984186b7dce17045ad1e12a0a02", func := "masterdisc/masterdisclaw11.PacketInverse", spec := "packetInverse", apart := false }
def PacketInverseSaid : Prop := packetInverseRow.holds Try.pinned (OpenSpec.ofChange packetInverseSpec)

/-- ITS FALSE NEIGHBOUR: 'it returns false'. Refute it at one input. -/
def packetInverseWrong : ChangeSpec := { name := "packetInverse", fn := fun _ => fun
  | [d1, d2] => { results := [.lit (.bool false)], args := [d1, d2] }
  | _ => none }
def PacketInverseWrongFalsely : Prop := packetInverseRow.holds Try.pinned (OpenSpec.ofChange packetInverseWrong)

/-- 'masterdisclaw11.PacketOrder': WHATEVER THE INPUT: true; the input reads as it did. -/
def packetOrderSpec : ChangeSpec := { name := "packetOrder", fn := fun _ => fun
  | [d1, d2] => { results := [.lit (.bool true)], args := [d1, d2] }
  | _ => none }
def packetOrderRow : OpenClaim := { program := "ytpcfjlfdjkifgaa", sum := "37bc4464e9fa1106f04fd4afb33ffa33ddf79984186b7dce17045ad1e12a0a02", func := "masterdisc/masterdisclaw11.PacketOrder", spec := "packetOrder", apart := false }
def PacketOrderSaid : Prop := packetOrderRow.holds Try.pinned (OpenSpec.ofChange packetOrderSpec)

/-- ITS FALSE NEIGHBOUR: 'it returns false'. Refute it at one input. -/
def packetOrderWrong : ChangeSpec := { name := "packetOrder", fn := fun _ => fun
  | [d1, d2] => { results := [.lit (.bool false)], args := [d1, d2] }
  | _ => none }
def PacketOrderWrongFalsely : Prop := packetOrderRow.holds Try.pinned (OpenSpec.ofChange packetOrderWrong)

/-- 'masterdisclaw11.PacketCounts': WHATEVER THE INPUT: true; the input reads as it did. -/
def packetCountsSpec : ChangeSpec := { name := "packetCounts", fn := fun _ => fun
  | [d1, d2] => { results := [.lit (.bool true)], args := [d1, d2] }
  | _ => none }
def packetCountsRow : OpenClaim := { program := "ytpcfjlfdjkifgaa", sum := "37bc4464e9fa1106f04fd4afb33ffa33ddf79984186b7dce17045ad1e12a0a02", func := "masterdisc/masterdisclaw11.PacketCounts", spec := "packetCounts", apart := false }
def PacketCountsSaid : Prop := packetCountsRow.holds Try.pinned (OpenSpec.ofChange packetCountsSpec)

/-- ITS FALSE NEIGHBOUR: 'it returns false'. Refute it at one input. -/
def packetCountsWrong : ChangeSpec := { name := "packetCounts", fn := fun _ => fun
  | [d1, d2] => { results := [.lit (.bool false)], args := [d1, d2] }
  | _ => none }
def PacketCountsWrongFalsely : Prop := packetCountsRow.holds Try.pinned (OpenSpec.ofChange packetCountsWrong)

/-- 'masterdisclaw11.PacketVaries': WHATEVER THE INPUT: true; the input reads as it did. -/
def packetVariesSpec : ChangeSpec := { name := "packetVaries", fn := fun _ => fun
  | [d1, d2, d3, d4] => { results := [.lit (.bool true)], args := [d1, d2, d3, d4] }
  | _ => none }
def packetVariesRow : OpenClaim := { program := "ytpcfjlfdjkifgaa", sum := "37bc4464e9fa1106f04fd4afb33ffa33ddf79984186b7dce17045ad1e12a0a02", func := "masterdisc/masterdisclaw11.PacketVaries", spec := "packetVaries", apart := false }
def PacketVariesSaid : Prop := packetVariesRow.holds Try.pinned (OpenSpec.ofChange packetVariesSpec)

/-- ITS FALSE NEIGHBOUR: 'it returns false'. Refute it at one input. -/
def packetVariesWrong : ChangeSpec := { name := "packetVaries", fn := fun _ => fun
  | [d1, d2, d3, d4] => { results := [.lit (.bool false)], args := [d1, d2, d3, d4] }
  | _ => none }
def PacketVariesWrongFalsely : Prop := packetVariesRow.holds Try.pinned (OpenSpec.ofChange packetVariesWrong)

/-- 'masterdisclaw11.PacketRecords': WHATEVER THE INPUT: true; the input reads as it did. -/
def packetRecordsSpec : ChangeSpec := { name := "packetRecords", fn := fun _ => fun
  | [d1, d2, d3, d4] => { results := [.lit (.bool true)], args := [d1, d2, d3, d4] }
  | _ => none }
def packetRecordsRow : OpenClaim := { program := "ytpcfjlfdjkifgaa", sum := "37bc4464e9fa1106f04fd4afb33ffa33ddf79984186b7dce17045ad1e12a0a02", func := "masterdisc/masterdisclaw11.PacketRecords", spec := "packetRecords", inPlace := ["internal/abi.NoEscape", "internal/bytealg.MakeNoZero"], unfollowed := true, recurses := true, apart := false }
def PacketRecordsSaid : Prop := packetRecordsRow.holds Try.pinned (OpenSpec.ofChange packetRecordsSpec)

/-- ITS FALSE NEIGHBOUR: 'it returns false'. Refute it at one input. -/
def packetRecordsWrong : ChangeSpec := { name := "packetRecords", fn := fun _ => fun
  | [d1, d2, d3, d4] => { results := [.lit (.bool false)], args := [d1, d2, d3, d4] }
  | _ => none }
def PacketRecordsWrongFalsely : Prop := packetRecordsRow.holds Try.pinned (OpenSpec.ofChange packetRecordsWrong)

/-- 'masterdisclaw11.PacketReturns': WHATEVER THE INPUT: true; the input reads as it did. -/
def packetReturnsSpec : ChangeSpec := { name := "packetReturns", fn := fun _ => fun
  | [d1, d2, d3] => { results := [.lit (.bool true)], args := [d1, d2, d3] }
  | _ => none }
def packetReturnsRow : OpenClaim := { program := "ytpcfjlfdjkifgaa", sum := "37bc4464e9fa1106f04fd4afb33ffa33ddf79984186b7dce17045ad1e12a0a02", func := "masterdisc/masterdisclaw11.PacketReturns", spec := "packetReturns", inPlace := ["internal/abi.NoEscape", "internal/bytealg.MakeNoZero"], unfollowed := true, recurses := true, apart := false }
def PacketReturnsSaid : Prop := packetReturnsRow.holds Try.pinned (OpenSpec.ofChange packetReturnsSpec)

/-- ITS FALSE NEIGHBOUR: 'it returns false'. Refute it at one input. -/
def packetReturnsWrong : ChangeSpec := { name := "packetReturns", fn := fun _ => fun
  | [d1, d2, d3] => { results := [.lit (.bool false)], args := [d1, d2, d3] }
  | _ => none }
def PacketReturnsWrongFalsely : Prop := packetReturnsRow.holds Try.pinned (OpenSpec.ofChange packetReturnsWrong)

/- THE SECOND FORM. 'bulk': how many values and letters a reading holds, each counted each time it is reached (what is shared counts as often as it is met; a slice's spare places count too). A statement '..UptoSaid' is the law's where the arguments, and the package variables that the reading takes, are together of bulk at most 1048576: NARROWER than '..Said'. Prove '..Said' where nothing that the law and all that it calls make is longer than what came in: it says more and counts as full. Else prove '..UptoSaid'. A law counts once. -/
mutual
def uptoBulk {H : Type} : DataW H → Nat
  | .lit (.string bytes) => bytes.length + 1
  | .lit _ => 1
  | .nil => 1
  | .ptr d => uptoBulk d + 1
  | .slice elems spare => uptoBulkAll elems + uptoBulkAll spare + 1
  | .agg parts => uptoBulkAll parts + 1
  | .iface _ d => uptoBulk d + 1
  | .map entries => uptoBulkEntries entries + 1
  | .held _ => 1
def uptoBulkAll {H : Type} : List (DataW H) → Nat
  | [] => 0
  | d :: r => uptoBulk d + uptoBulkAll r
def uptoBulkEntries {H : Type} : List (Lit × DataW H) → Nat
  | [] => 0
  | x :: r => uptoBulkEntry x + uptoBulkEntries r
def uptoBulkEntry {H : Type} : Lit × DataW H → Nat
  | (.string bytes, d) => bytes.length + uptoBulk d + 1
  | (_, d) => uptoBulk d + 1
 end
def uptoSmall : (H : Type) → List (DataW H) → Bool := fun _ ds => decide (uptoBulkAll ds ≤ 1048576)
def OpenSpec.upto (s : _root_.Go.ChangeSpec) : _root_.Go.OpenSpec := { _root_.Go.OpenSpec.ofChange s with cond := some uptoSmall }

/-- 'masterdisclaw11.PacketMaps', WHERE WHAT IT READS IS OF BULK AT MOST 1048576: true; the input reads as it did. -/
def packetMapsUptoRow : OpenClaim := { program := "ytpcfjlfdjkifgaa", sum := "37bc4464e9fa1106f04fd4afb33ffa33ddf79984186b7dce17045ad1e12a0a02", func := "masterdisc/masterdisclaw11.PacketMaps", spec := "packetMaps", apart := false, narrowed := true }
def PacketMapsUptoSaid : Prop := packetMapsUptoRow.holds Try.pinned (OpenSpec.upto packetMapsSpec)

/-- 'masterdisclaw11.PacketInverse', WHERE WHAT IT READS IS OF BULK AT MOST 1048576: true; the input reads as it did. -/
def packetInverseUptoRow : OpenClaim := { program := "ytpcfjlfdjkifgaa", sum := "37bc4464e9fa1106f04fd4afb33ffa33ddf79984186b7dce17045ad1e12a0a02", func := "masterdisc/masterdisclaw11.PacketInverse", spec := "packetInverse", apart := false, narrowed := true }
def PacketInverseUptoSaid : Prop := packetInverseUptoRow.holds Try.pinned (OpenSpec.upto packetInverseSpec)

/-- 'masterdisclaw11.PacketOrder', WHERE WHAT IT READS IS OF BULK AT MOST 1048576: true; the input reads as it did. -/
def packetOrderUptoRow : OpenClaim := { program := "ytpcfjlfdjkifgaa", sum := "37bc4464e9fa1106f04fd4afb33ffa33ddf79984186b7dce17045ad1e12a0a02", func := "masterdisc/masterdisclaw11.PacketOrder", spec := "packetOrder", apart := false, narrowed := true }
def PacketOrderUptoSaid : Prop := packetOrderUptoRow.holds Try.pinned (OpenSpec.upto packetOrderSpec)

/-- 'masterdisclaw11.PacketCounts', WHERE WHAT IT READS IS OF BULK AT MOST 1048576: true; the input reads as it did. -/
def packetCountsUptoRow : OpenClaim := { program := "ytpcfjlfdjkifgaa", sum := "37bc4464e9fa1106f04fd4afb33ffa33ddf79984186b7dce17045ad1e12a0a02", func := "masterdisc/masterdisclaw11.PacketCounts", spec := "packetCounts", apart := false, narrowed := true }
def PacketCountsUptoSaid : Prop := packetCountsUptoRow.holds Try.pinned (OpenSpec.upto packetCountsSpec)

/-- 'masterdisclaw11.PacketVaries', WHERE WHAT IT READS IS OF BULK AT MOST 1048576: true; the input reads as it did. -/
def packetVariesUptoRow : OpenClaim := { program := "ytpcfjlfdjkifgaa", sum := "37bc4464e9fa1106f04fd4afb33ffa33ddf79984186b7dce17045ad1e12a0a02", func := "masterdisc/masterdisclaw11.PacketVaries", spec := "packetVaries", apart := false, narrowed := true }
def PacketVariesUptoSaid : Prop := packetVariesUptoRow.holds Try.pinned (OpenSpec.upto packetVariesSpec)

/-- 'masterdisclaw11.PacketRecords', WHERE WHAT IT READS IS OF BULK AT MOST 1048576: true; the input reads as it did. -/
def packetRecordsUptoRow : OpenClaim := { program := "ytpcfjlfdjkifgaa", sum := "37bc4464e9fa1106f04fd4afb33ffa33ddf79984186b7dce17045ad1e12a0a02", func := "masterdisc/masterdisclaw11.PacketRecords", spec := "packetRecords", inPlace := ["internal/abi.NoEscape", "internal/bytealg.MakeNoZero"], unfollowed := true, recurses := true, apart := false, narrowed := true }
def PacketRecordsUptoSaid : Prop := packetRecordsUptoRow.holds Try.pinned (OpenSpec.upto packetRecordsSpec)

/-- 'masterdisclaw11.PacketReturns', WHERE WHAT IT READS IS OF BULK AT MOST 1048576: true; the input reads as it did. -/
def packetReturnsUptoRow : OpenClaim := { program := "ytpcfjlfdjkifgaa", sum := "37bc4464e9fa1106f04fd4afb33ffa33ddf79984186b7dce17045ad1e12a0a02", func := "masterdisc/masterdisclaw11.PacketReturns", spec := "packetReturns", inPlace := ["internal/abi.NoEscape", "internal/bytealg.MakeNoZero"], unfollowed := true, recurses := true, apart := false, narrowed := true }
def PacketReturnsUptoSaid : Prop := packetReturnsUptoRow.holds Try.pinned (OpenSpec.upto packetReturnsSpec)

end Rows
end Go.Proofs.Ytpcfjlfdjkifgaa

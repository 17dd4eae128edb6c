/-
  No cell of these rows narrows 'for every input' (looked for: loops, veiled, ifaces, maps, wideKeys, modest, calm, conditions, laid).
  DERIVED. THE GIVEN ROWS OF THIS SEAT. 6 by the template 'for every input the law returns true; each argument reads behind the call as it read before'; 0 by the template 'total and deterministic' (their statements: YtjaddmflopahiaaTotals.lean).
  GIVEN WITH THE SEED: the statements are not yours to turn. If you find one false, say at which input.
  Laid BY PROGRAM, IN A SANDBOX (cutbox-rows.mjs): the forced cells as the released guide's own fill.sh prints them over the translation 078b24c01c6ebcd1… (all of the seat's roots in one cut). By AI agents, Wed Nov 11 2026. No macro, syntax, notation, axiom, sorry.
-/
import Derived.Test.YtjaddmflopahiaaChecked
import GoSem.Claim
import GoSem.ClaimJoined
import GoSem.ClaimMapViews
import Derived.JoinedTies
import Derived.KernelRfl
namespace Go.Proofs.Ytjaddmflopahiaa
/- THE CELL 'sum', in the pinned program and in every row, IS THE sha256 OF THE DUMP (.gsa) THAT YtjaddmflopahiaaProg.lean LOADS. Nothing in Lean hashes anything: it is a label: what it is worth is what the hold of that sum in a sandbox is worth. -/
noncomputable def Try.pinned : Pinned := { name := "ytjaddmflopahiaa", sum := "078b24c01c6ebcd123a47df88911cff9506a202c10f1d9ef11a0421415ce40f8", checked := Try.checked }
namespace Rows
def none {H : Type} : Left H := { results := [], args := [] }

/-- 'interlocklaw08.BtreeDeep': WHATEVER THE INPUT: true; the input reads as it did. -/
def btreeDeepSpec : ChangeSpec := { name := "btreeDeep", fn := fun _ => fun
  | [d] => { results := [.lit (.bool true)], args := [d] }
  | _ => none }
def btreeDeepRow : OpenClaim := { program := "ytjaddmflopahiaa", sum := "078b24c01c6ebcd123a47df88911cff9506a202c10f1d9ef11a0421415ce40f8", func := "interlock/interlocklaw08.BtreeDeep", spec := "btreeDeep", inPlace := ["slices.overlaps[interlock/api.Entry]", "slices.overlaps[*interlock/btree.node]"], unfollowed := true, recurses := true, plainKeys := false, apart := false }
def BtreeDeepSaid : Prop := btreeDeepRow.holds Try.pinned (OpenSpec.ofChange btreeDeepSpec)

/-- ITS FALSE NEIGHBOUR: 'it returns false'. Refute it at one input. -/
def btreeDeepWrong : ChangeSpec := { name := "btreeDeep", fn := fun _ => fun
  | [d] => { results := [.lit (.bool false)], args := [d] }
  | _ => none }
def BtreeDeepWrongFalsely : Prop := btreeDeepRow.holds Try.pinned (OpenSpec.ofChange btreeDeepWrong)

/-- 'interlocklaw08.BtreeShape': WHATEVER THE INPUT: true; the input reads as it did. -/
def btreeShapeSpec : ChangeSpec := { name := "btreeShape", fn := fun _ => fun
  | [d] => { results := [.lit (.bool true)], args := [d] }
  | _ => none }
def btreeShapeRow : OpenClaim := { program := "ytjaddmflopahiaa", sum := "078b24c01c6ebcd123a47df88911cff9506a202c10f1d9ef11a0421415ce40f8", func := "interlock/interlocklaw08.BtreeShape", spec := "btreeShape", inPlace := ["slices.overlaps[interlock/api.Entry]", "slices.overlaps[*interlock/btree.node]"], unfollowed := true, recurses := true, plainKeys := false, apart := false }
def BtreeShapeSaid : Prop := btreeShapeRow.holds Try.pinned (OpenSpec.ofChange btreeShapeSpec)

/-- ITS FALSE NEIGHBOUR: 'it returns false'. Refute it at one input. -/
def btreeShapeWrong : ChangeSpec := { name := "btreeShape", fn := fun _ => fun
  | [d] => { results := [.lit (.bool false)], args := [d] }
  | _ => none }
def BtreeShapeWrongFalsely : Prop := btreeShapeRow.holds Try.pinned (OpenSpec.ofChange btreeShapeWrong)

/-- 'interlocklaw08.BtreeRanges': WHATEVER THE INPUT: true; the input reads as it did. -/
def btreeRangesSpec : ChangeSpec := { name := "btreeRanges", fn := fun _ => fun
  | [d1, d2, d3, d4] => { results := [.lit (.bool true)], args := [d1, d2, d3, d4] }
  | _ => none }
def btreeRangesRow : OpenClaim := { program := "ytjaddmflopahiaa", sum := "078b24c01c6ebcd123a47df88911cff9506a202c10f1d9ef11a0421415ce40f8", func := "interlock/interlocklaw08.BtreeRanges", spec := "btreeRanges", inPlace := ["slices.overlaps[interlock/api.Entry]", "slices.overlaps[*interlock/btree.node]"], unfollowed := true, recurses := true, plainKeys := false, apart := false }
def BtreeRangesSaid : Prop := btreeRangesRow.holds Try.pinned (OpenSpec.ofChange btreeRangesSpec)

/-- ITS FALSE NEIGHBOUR: 'it returns false'. Refute it at one input. -/
def btreeRangesWrong : ChangeSpec := { name := "btreeRanges", fn := fun _ => fun
  | [d1, d2, d3, d4] => { results := [.lit (.bool false)], args := [d1, d2, d3, d4] }
  | _ => none }
def BtreeRangesWrongFalsely : Prop := btreeRangesRow.holds Try.pinned (OpenSpec.ofChange btreeRangesWrong)

/-- 'interlocklaw08.BtreeSet': WHATEVER THE INPUT: true; the input reads as it did. -/
def btreeSetSpec : ChangeSpec := { name := "btreeSet", fn := fun _ => fun
  | [d1, d2] => { results := [.lit (.bool true)], args := [d1, d2] }
  | _ => none }
def btreeSetRow : OpenClaim := { program := "ytjaddmflopahiaa", sum := "078b24c01c6ebcd123a47df88911cff9506a202c10f1d9ef11a0421415ce40f8", func := "interlock/interlocklaw08.BtreeSet", spec := "btreeSet", inPlace := ["slices.overlaps[interlock/api.Entry]", "slices.overlaps[*interlock/btree.node]"], unfollowed := true, recurses := true, plainKeys := false, apart := false }
def BtreeSetSaid : Prop := btreeSetRow.holds Try.pinned (OpenSpec.ofChange btreeSetSpec)

/-- ITS FALSE NEIGHBOUR: 'it returns false'. Refute it at one input. -/
def btreeSetWrong : ChangeSpec := { name := "btreeSet", fn := fun _ => fun
  | [d1, d2] => { results := [.lit (.bool false)], args := [d1, d2] }
  | _ => none }
def BtreeSetWrongFalsely : Prop := btreeSetRow.holds Try.pinned (OpenSpec.ofChange btreeSetWrong)

/-- 'interlocklaw08.BtreeTwice': WHATEVER THE INPUT: true; the input reads as it did. -/
def btreeTwiceSpec : ChangeSpec := { name := "btreeTwice", fn := fun _ => fun
  | [d] => { results := [.lit (.bool true)], args := [d] }
  | _ => none }
def btreeTwiceRow : OpenClaim := { program := "ytjaddmflopahiaa", sum := "078b24c01c6ebcd123a47df88911cff9506a202c10f1d9ef11a0421415ce40f8", func := "interlock/interlocklaw08.BtreeTwice", spec := "btreeTwice", inPlace := ["slices.overlaps[interlock/api.Entry]", "slices.overlaps[*interlock/btree.node]"], unfollowed := true, recurses := true, plainKeys := false, apart := false }
def BtreeTwiceSaid : Prop := btreeTwiceRow.holds Try.pinned (OpenSpec.ofChange btreeTwiceSpec)

/-- ITS FALSE NEIGHBOUR: 'it returns false'. Refute it at one input. -/
def btreeTwiceWrong : ChangeSpec := { name := "btreeTwice", fn := fun _ => fun
  | [d] => { results := [.lit (.bool false)], args := [d] }
  | _ => none }
def BtreeTwiceWrongFalsely : Prop := btreeTwiceRow.holds Try.pinned (OpenSpec.ofChange btreeTwiceWrong)

/-- 'interlocklaw08.BtreeCalls': WHATEVER THE INPUT: true; the input reads as it did. -/
def btreeCallsSpec : ChangeSpec := { name := "btreeCalls", fn := fun _ => fun
  | [d] => { results := [.lit (.bool true)], args := [d] }
  | _ => none }
def btreeCallsRow : OpenClaim := { program := "ytjaddmflopahiaa", sum := "078b24c01c6ebcd123a47df88911cff9506a202c10f1d9ef11a0421415ce40f8", func := "interlock/interlocklaw08.BtreeCalls", spec := "btreeCalls", inPlace := ["slices.overlaps[interlock/api.Entry]", "slices.overlaps[*interlock/btree.node]"], unfollowed := true, recurses := true, plainKeys := false, apart := false }
def BtreeCallsSaid : Prop := btreeCallsRow.holds Try.pinned (OpenSpec.ofChange btreeCallsSpec)

/-- ITS FALSE NEIGHBOUR: 'it returns false'. Refute it at one input. -/
def btreeCallsWrong : ChangeSpec := { name := "btreeCalls", fn := fun _ => fun
  | [d] => { results := [.lit (.bool false)], args := [d] }
  | _ => none }
def BtreeCallsWrongFalsely : Prop := btreeCallsRow.holds Try.pinned (OpenSpec.ofChange btreeCallsWrong)

/- THE SECOND FORM. 'bulk': how many values and letters a reading holds, each counted each time it is reached (what is shared counts as often as it is met; a slice's spare places count too). A statement '..UptoSaid' is the law's where the arguments, and the package variables that the reading takes, are together of bulk at most 1048576: NARROWER than '..Said'. Prove '..Said' where nothing that the law and all that it calls make is longer than what came in: it says more and counts as full. Else prove '..UptoSaid'. A law counts once. -/
mutual
def uptoBulk {H : Type} : DataW H → Nat
  | .lit (.string bytes) => bytes.length + 1
  | .lit _ => 1
  | .nil => 1
  | .ptr d => uptoBulk d + 1
  | .slice elems spare => uptoBulkAll elems + uptoBulkAll spare + 1
  | .agg parts => uptoBulkAll parts + 1
  | .iface _ d => uptoBulk d + 1
  | .map entries => uptoBulkEntries entries + 1
  | .held _ => 1
def uptoBulkAll {H : Type} : List (DataW H) → Nat
  | [] => 0
  | d :: r => uptoBulk d + uptoBulkAll r
def uptoBulkEntries {H : Type} : List (Lit × DataW H) → Nat
  | [] => 0
  | x :: r => uptoBulkEntry x + uptoBulkEntries r
def uptoBulkEntry {H : Type} : Lit × DataW H → Nat
  | (.string bytes, d) => bytes.length + uptoBulk d + 1
  | (_, d) => uptoBulk d + 1
 end
def uptoSmall : (H : Type) → List (DataW H) → Bool := fun _ ds => decide (uptoBulkAll ds ≤ 1048576)
def OpenSpec.upto (s : _root_.Go.ChangeSpec) : _root_.Go.OpenSpec := { _root_.Go.OpenSpec.ofChange s with cond := some uptoSmall }

/-- 'interlocklaw08.BtreeDeep', WHERE WHAT IT READS IS OF BULK AT MOST 1048576: true; the input reads as it did. -/
def btreeDeepUptoRow : OpenClaim := { program := "ytjaddmflopahiaa", sum := "078b24c01c6ebcd123a47df88911cff9506a202c10f1d9ef11a0421415ce40f8", func := "interlock/interlocklaw08.BtreeDeep", spec := "btreeDeep", inPlace := ["slices.overlaps[interlock/api.Entry]", "slices.overlaps[*interlock/btree.node]"], unfollowed := true, recurses := true, plainKeys := false, apart := false, narrowed := true }
def BtreeDeepUptoSaid : Prop := btreeDeepUptoRow.holds Try.pinned (OpenSpec.upto btreeDeepSpec)

/-- 'interlocklaw08.BtreeShape', WHERE WHAT IT READS IS OF BULK AT MOST 1048576: true; the input reads as it did. -/
def btreeShapeUptoRow : OpenClaim := { program := "ytjaddmflopahiaa", sum := "078b24c01c6ebcd123a47df88911cff9506a202c10f1d9ef11a0421415ce40f8", func := "interlock/interlocklaw08.BtreeShape", spec := "btreeShape", inPlace := ["slices.overlaps[interlock/api.Entry]", "slices.overlaps[*interlock/btree.node]"], unfollowed := true, recurses := true, plainKeys := false, apart := false, narrowed := true }
def BtreeShapeUptoSaid : Prop := btreeShapeUptoRow.holds Try.pinned (OpenSpec.upto btreeShapeSpec)

/-- 'interlocklaw08.BtreeRanges', WHERE WHAT IT READS IS OF BULK AT MOST 1048576: true; the input reads as it did. -/
def btreeRangesUptoRow : OpenClaim := { program := "ytjaddmflopahiaa", sum := "078b24c01c6ebcd123a47df88911cff9506a202c10f1d9ef11a0421415ce40f8", func := "interlock/interlocklaw08.BtreeRanges", spec := "btreeRanges", inPlace := ["slices.overlaps[interlock/api.Entry]", "slices.overlaps[*interlock/btree.node]"], unfollowed := true, recurses := true, plainKeys := false, apart := false, narrowed := true }
def BtreeRangesUptoSaid : Prop := btreeRangesUptoRow.holds Try.pinned (OpenSpec.upto btreeRangesSpec)

/-- 'interlocklaw08.BtreeSet', WHERE WHAT IT READS IS OF BULK AT MOST 1048576: true; the input reads as it did. -/
def btreeSetUptoRow : OpenClaim := { program := "ytjaddmflopahiaa", sum := "078b24c01c6ebcd123a47df88911cff9506a202c10f1d9ef11a0421415ce40f8", func := "interlock/interlocklaw08.BtreeSet", spec := "btreeSet", inPlace := ["slices.overlaps[interlock/api.Entry]", "slices.overlaps[*interlock/btree.node]"], unfollowed := true, recurses := true, plainKeys := false, apart := false, narrowed := true }
def BtreeSetUptoSaid : Prop := btreeSetUptoRow.holds Try.pinned (OpenSpec.upto btreeSetSpec)

/-- 'interlocklaw08.BtreeTwice', WHERE WHAT IT READS IS OF BULK AT MOST 1048576: true; the input reads as it did. -/
def btreeTwiceUptoRow : OpenClaim := { program := "ytjaddmflopahiaa", sum := "078b24c01c6ebcd123a47df88911cff9506a202c10f1d9ef11a0421415ce40f8", func := "interlock/interlocklaw08.BtreeTwice", spec := "btreeTwice", inPlace := ["slices.overlaps[interlock/api.Entry]", "slices.overlaps[*interlock/btree.node]"], unfollowed := true, recurses := true, plainKeys := false, apart := false, narrowed := true }
def BtreeTwiceUptoSaid : Prop := btreeTwiceUptoRow.holds Try.pinned (OpenSpec.upto btreeTwiceSpec)

/-- 'interlocklaw08.BtreeCalls', WHERE WHAT IT READS IS OF BULK AT MOST 1048576: true; the input reads as it did. -/
def btreeCallsUptoRow : OpenClaim := { program := "ytjaddmflopahiaa", sum := "078b24c01c6ebcd123a47df88911cff9506a202c10f1d9ef11a0421415ce40f8", func := "interlock/interlocklaw08.BtreeCalls", spec := "btreeCalls", inPlace := ["slices.overlaps[interlock/api.Entry]", "slices.overlaps[*interlock/btree.node]"], unfollowed := true, recurses := true, plainKeys := false, apart := false, narrowed := true }
def BtreeCallsUptoSaid : Prop := btreeCallsUptoRow.holds Try.pinned (OpenSpec.upto btreeCallsSpec)

end Rows
end Go.Proofs.Ytjaddmflopahiaa

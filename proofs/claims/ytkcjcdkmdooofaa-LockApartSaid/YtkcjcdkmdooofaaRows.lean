/-
  No cell of these rows narrows 'for every input' (looked for: loops, veiled, ifaces, maps, wideKeys, modest, calm, conditions, laid).
  DERIVED. THE GIVEN ROWS OF THIS SEAT. 7 by the template 'for every input the law returns true; each argument reads behind the call as it read before'; 0 by the template 'total and deterministic' (their statements: YtkcjcdkmdooofaaTotals.lean).
  GIVEN WITH THE SEED: the statements are not yours to turn. If you find one false, say at which input.
  Laid BY PROGRAM, IN A SANDBOX (cutbox-rows.mjs): the forced cells as the released guide's own fill.sh prints them over the translation fc7c14f1622259d2… (all of the seat's roots in one cut). By AI agents, Wed Nov 11 2026. No macro, syntax, notation, axiom, sorry.
-/
import Derived.Test.YtkcjcdkmdooofaaChecked
import GoSem.Claim
import GoSem.ClaimJoined
import GoSem.ClaimMapViews
import Derived.JoinedTies
import Derived.KernelRfl
namespace Go.Proofs.Ytkcjcdkmdooofaa
/- THE CELL 'sum', in the pinned program and in every row, IS THE sha256 OF THE DUMP (.gsa) THAT YtkcjcdkmdooofaaProg.lean LOADS. Nothing in Lean hashes anything: it is a label: what it is worth is what the hold of that sum in a sandbox is worth. -/
noncomputable def Try.pinned : Pinned := { name := "ytkcjcdkmdooofaa", sum := "fc7c14f1622259d2bd289cab147cd354fa5e824ad37ab121441f3dcbe3252b56", checked := Try.checked }
namespace Rows
def none {H : Type} : Left H := { results := [], args := [] }

/-- 'interlocklaw11.LockSafe': WHATEVER THE INPUT: true; the input reads as it did. -/
def lockSafeSpec : ChangeSpec := { name := "lockSafe", fn := fun _ => fun
  | [d] => { results := [.lit (.bool true)], args := [d] }
  | _ => none }
def lockSafeRow : OpenClaim := { program := "ytkcjcdkmdooofaa", sum := "fc7c14f1622259d2bd289cab147cd354fa5e824ad37ab121441f3dcbe3252b56", func := "interlock/interlocklaw11.LockSafe", spec := "lockSafe", inPlace := ["slices.overlaps[interlock/lock.one]", "slices.overlaps[interlock/api.Thing]"], unfollowed := true, recurses := true, plainKeys := false, apart := false }
def LockSafeSaid : Prop := lockSafeRow.holds Try.pinned (OpenSpec.ofChange lockSafeSpec)

/-- ITS FALSE NEIGHBOUR: 'it returns false'. Refute it at one input. -/
def lockSafeWrong : ChangeSpec := { name := "lockSafe", fn := fun _ => fun
  | [d] => { results := [.lit (.bool false)], args := [d] }
  | _ => none }
def LockSafeWrongFalsely : Prop := lockSafeRow.holds Try.pinned (OpenSpec.ofChange lockSafeWrong)

/-- 'interlocklaw11.LockAlone': WHATEVER THE INPUT: true; the input reads as it did. -/
def lockAloneSpec : ChangeSpec := { name := "lockAlone", fn := fun _ => fun
  | [d] => { results := [.lit (.bool true)], args := [d] }
  | _ => none }
def lockAloneRow : OpenClaim := { program := "ytkcjcdkmdooofaa", sum := "fc7c14f1622259d2bd289cab147cd354fa5e824ad37ab121441f3dcbe3252b56", func := "interlock/interlocklaw11.LockAlone", spec := "lockAlone", inPlace := ["slices.overlaps[interlock/lock.one]", "slices.overlaps[interlock/api.Thing]"], unfollowed := true, recurses := true, plainKeys := false, apart := false }
def LockAloneSaid : Prop := lockAloneRow.holds Try.pinned (OpenSpec.ofChange lockAloneSpec)

/-- ITS FALSE NEIGHBOUR: 'it returns false'. Refute it at one input. -/
def lockAloneWrong : ChangeSpec := { name := "lockAlone", fn := fun _ => fun
  | [d] => { results := [.lit (.bool false)], args := [d] }
  | _ => none }
def LockAloneWrongFalsely : Prop := lockAloneRow.holds Try.pinned (OpenSpec.ofChange lockAloneWrong)

/-- 'interlocklaw11.LockApart': WHATEVER THE INPUT: true; the input reads as it did. -/
def lockApartSpec : ChangeSpec := { name := "lockApart", fn := fun _ => fun
  | [d1, d2] => { results := [.lit (.bool true)], args := [d1, d2] }
  | _ => none }
def lockApartRow : OpenClaim := { program := "ytkcjcdkmdooofaa", sum := "fc7c14f1622259d2bd289cab147cd354fa5e824ad37ab121441f3dcbe3252b56", func := "interlock/interlocklaw11.LockApart", spec := "lockApart", inPlace := ["slices.overlaps[interlock/lock.one]", "slices.overlaps[interlock/api.Thing]"], unfollowed := true, recurses := true, plainKeys := false, apart := false }
def LockApartSaid : Prop := lockApartRow.holds Try.pinned (OpenSpec.ofChange lockApartSpec)

/-- ITS FALSE NEIGHBOUR: 'it returns false'. Refute it at one input. -/
def lockApartWrong : ChangeSpec := { name := "lockApart", fn := fun _ => fun
  | [d1, d2] => { results := [.lit (.bool false)], args := [d1, d2] }
  | _ => none }
def LockApartWrongFalsely : Prop := lockApartRow.holds Try.pinned (OpenSpec.ofChange lockApartWrong)

/-- 'interlocklaw11.LockGone': WHATEVER THE INPUT: true; the input reads as it did. -/
def lockGoneSpec : ChangeSpec := { name := "lockGone", fn := fun _ => fun
  | [d] => { results := [.lit (.bool true)], args := [d] }
  | _ => none }
def lockGoneRow : OpenClaim := { program := "ytkcjcdkmdooofaa", sum := "fc7c14f1622259d2bd289cab147cd354fa5e824ad37ab121441f3dcbe3252b56", func := "interlock/interlocklaw11.LockGone", spec := "lockGone", inPlace := ["slices.overlaps[interlock/lock.one]", "slices.overlaps[interlock/api.Thing]"], unfollowed := true, recurses := true, plainKeys := false, apart := false }
def LockGoneSaid : Prop := lockGoneRow.holds Try.pinned (OpenSpec.ofChange lockGoneSpec)

/-- ITS FALSE NEIGHBOUR: 'it returns false'. Refute it at one input. -/
def lockGoneWrong : ChangeSpec := { name := "lockGone", fn := fun _ => fun
  | [d] => { results := [.lit (.bool false)], args := [d] }
  | _ => none }
def LockGoneWrongFalsely : Prop := lockGoneRow.holds Try.pinned (OpenSpec.ofChange lockGoneWrong)

/-- 'interlocklaw11.LockRing': WHATEVER THE INPUT: true; the input reads as it did. -/
def lockRingSpec : ChangeSpec := { name := "lockRing", fn := fun _ => fun
  | [d] => { results := [.lit (.bool true)], args := [d] }
  | _ => none }
def lockRingRow : OpenClaim := { program := "ytkcjcdkmdooofaa", sum := "fc7c14f1622259d2bd289cab147cd354fa5e824ad37ab121441f3dcbe3252b56", func := "interlock/interlocklaw11.LockRing", spec := "lockRing", inPlace := ["slices.overlaps[interlock/lock.one]", "slices.overlaps[interlock/api.Thing]"], unfollowed := true, recurses := true, plainKeys := false, apart := false }
def LockRingSaid : Prop := lockRingRow.holds Try.pinned (OpenSpec.ofChange lockRingSpec)

/-- ITS FALSE NEIGHBOUR: 'it returns false'. Refute it at one input. -/
def lockRingWrong : ChangeSpec := { name := "lockRing", fn := fun _ => fun
  | [d] => { results := [.lit (.bool false)], args := [d] }
  | _ => none }
def LockRingWrongFalsely : Prop := lockRingRow.holds Try.pinned (OpenSpec.ofChange lockRingWrong)

/-- 'interlocklaw11.LockFair': WHATEVER THE INPUT: true; the input reads as it did. -/
def lockFairSpec : ChangeSpec := { name := "lockFair", fn := fun _ => fun
  | [d1, d2, d3] => { results := [.lit (.bool true)], args := [d1, d2, d3] }
  | _ => none }
def lockFairRow : OpenClaim := { program := "ytkcjcdkmdooofaa", sum := "fc7c14f1622259d2bd289cab147cd354fa5e824ad37ab121441f3dcbe3252b56", func := "interlock/interlocklaw11.LockFair", spec := "lockFair", inPlace := ["slices.overlaps[interlock/lock.one]", "slices.overlaps[interlock/api.Thing]"], unfollowed := true, recurses := true, plainKeys := false, apart := false }
def LockFairSaid : Prop := lockFairRow.holds Try.pinned (OpenSpec.ofChange lockFairSpec)

/-- ITS FALSE NEIGHBOUR: 'it returns false'. Refute it at one input. -/
def lockFairWrong : ChangeSpec := { name := "lockFair", fn := fun _ => fun
  | [d1, d2, d3] => { results := [.lit (.bool false)], args := [d1, d2, d3] }
  | _ => none }
def LockFairWrongFalsely : Prop := lockFairRow.holds Try.pinned (OpenSpec.ofChange lockFairWrong)

/-- 'interlocklaw11.LockMore': WHATEVER THE INPUT: true; the input reads as it did. -/
def lockMoreSpec : ChangeSpec := { name := "lockMore", fn := fun _ => fun
  | [d1, d2, d3] => { results := [.lit (.bool true)], args := [d1, d2, d3] }
  | _ => none }
def lockMoreRow : OpenClaim := { program := "ytkcjcdkmdooofaa", sum := "fc7c14f1622259d2bd289cab147cd354fa5e824ad37ab121441f3dcbe3252b56", func := "interlock/interlocklaw11.LockMore", spec := "lockMore", inPlace := ["slices.overlaps[interlock/lock.one]", "slices.overlaps[interlock/api.Thing]"], unfollowed := true, recurses := true, plainKeys := false, apart := false }
def LockMoreSaid : Prop := lockMoreRow.holds Try.pinned (OpenSpec.ofChange lockMoreSpec)

/-- ITS FALSE NEIGHBOUR: 'it returns false'. Refute it at one input. -/
def lockMoreWrong : ChangeSpec := { name := "lockMore", fn := fun _ => fun
  | [d1, d2, d3] => { results := [.lit (.bool false)], args := [d1, d2, d3] }
  | _ => none }
def LockMoreWrongFalsely : Prop := lockMoreRow.holds Try.pinned (OpenSpec.ofChange lockMoreWrong)

/- THE SECOND FORM. 'bulk': how many values and letters a reading holds, each counted each time it is reached (what is shared counts as often as it is met; a slice's spare places count too). A statement '..UptoSaid' is the law's where the arguments, and the package variables that the reading takes, are together of bulk at most 1048576: NARROWER than '..Said'. Prove '..Said' where nothing that the law and all that it calls make is longer than what came in: it says more and counts as full. Else prove '..UptoSaid'. A law counts once. -/
mutual
def uptoBulk {H : Type} : DataW H → Nat
  | .lit (.string bytes) => bytes.length + 1
  | .lit _ => 1
  | .nil => 1
  | .ptr d => uptoBulk d + 1
  | .slice elems spare => uptoBulkAll elems + uptoBulkAll spare + 1
  | .agg parts => uptoBulkAll parts + 1
  | .iface _ d => uptoBulk d + 1
  | .map entries => uptoBulkEntries entries + 1
  | .held _ => 1
def uptoBulkAll {H : Type} : List (DataW H) → Nat
  | [] => 0
  | d :: r => uptoBulk d + uptoBulkAll r
def uptoBulkEntries {H : Type} : List (Lit × DataW H) → Nat
  | [] => 0
  | x :: r => uptoBulkEntry x + uptoBulkEntries r
def uptoBulkEntry {H : Type} : Lit × DataW H → Nat
  | (.string bytes, d) => bytes.length + uptoBulk d + 1
  | (_, d) => uptoBulk d + 1
 end
def uptoSmall : (H : Type) → List (DataW H) → Bool := fun _ ds => decide (uptoBulkAll ds ≤ 1048576)
def OpenSpec.upto (s : _root_.Go.ChangeSpec) : _root_.Go.OpenSpec := { _root_.Go.OpenSpec.ofChange s with cond := some uptoSmall }

/-- 'interlocklaw11.LockSafe', WHERE WHAT IT READS IS OF BULK AT MOST 1048576: true; the input reads as it did. -/
def lockSafeUptoRow : OpenClaim := { program := "ytkcjcdkmdooofaa", sum := "fc7c14f1622259d2bd289cab147cd354fa5e824ad37ab121441f3dcbe3252b56", func := "interlock/interlocklaw11.LockSafe", spec := "lockSafe", inPlace := ["slices.overlaps[interlock/lock.one]", "slices.overlaps[interlock/api.Thing]"], unfollowed := true, recurses := true, plainKeys := false, apart := false, narrowed := true }
def LockSafeUptoSaid : Prop := lockSafeUptoRow.holds Try.pinned (OpenSpec.upto lockSafeSpec)

/-- 'interlocklaw11.LockAlone', WHERE WHAT IT READS IS OF BULK AT MOST 1048576: true; the input reads as it did. -/
def lockAloneUptoRow : OpenClaim := { program := "ytkcjcdkmdooofaa", sum := "fc7c14f1622259d2bd289cab147cd354fa5e824ad37ab121441f3dcbe3252b56", func := "interlock/interlocklaw11.LockAlone", spec := "lockAlone", inPlace := ["slices.overlaps[interlock/lock.one]", "slices.overlaps[interlock/api.Thing]"], unfollowed := true, recurses := true, plainKeys := false, apart := false, narrowed := true }
def LockAloneUptoSaid : Prop := lockAloneUptoRow.holds Try.pinned (OpenSpec.upto lockAloneSpec)

/-- 'interlocklaw11.LockApart', WHERE WHAT IT READS IS OF BULK AT MOST 1048576: true; the input reads as it did. -/
def lockApartUptoRow : OpenClaim := { program := "ytkcjcdkmdooofaa", sum := "fc7c14f1622259d2bd289cab147cd354fa5e824ad37ab121441f3dcbe3252b56", func := "interlock/interlocklaw11.LockApart", spec := "lockApart", inPlace := ["slices.overlaps[interlock/lock.one]", "slices.overlaps[interlock/api.Thing]"], unfollowed := true, recurses := true, plainKeys := false, apart := false, narrowed := true }
def LockApartUptoSaid : Prop := lockApartUptoRow.holds Try.pinned (OpenSpec.upto lockApartSpec)

/-- 'interlocklaw11.LockGone', WHERE WHAT IT READS IS OF BULK AT MOST 1048576: true; the input reads as it did. -/
def lockGoneUptoRow : OpenClaim := { program := "ytkcjcdkmdooofaa", sum := "fc7c14f1622259d2bd289cab147cd354fa5e824ad37ab121441f3dcbe3252b56", func := "interlock/interlocklaw11.LockGone", spec := "lockGone", inPlace := ["slices.overlaps[interlock/lock.one]", "slices.overlaps[interlock/api.Thing]"], unfollowed := true, recurses := true, plainKeys := false, apart := false, narrowed := true }
def LockGoneUptoSaid : Prop := lockGoneUptoRow.holds Try.pinned (OpenSpec.upto lockGoneSpec)

/-- 'interlocklaw11.LockRing', WHERE WHAT IT READS IS OF BULK AT MOST 1048576: true; the input reads as it did. -/
def lockRingUptoRow : OpenClaim := { program := "ytkcjcdkmdooofaa", sum := "fc7c14f1622259d2bd289cab147cd354fa5e824ad37ab121441f3dcbe3252b56", func := "interlock/interlocklaw11.LockRing", spec := "lockRing", inPlace := ["slices.overlaps[interlock/lock.one]", "slices.overlaps[interlock/api.Thing]"], unfollowed := true, recurses := true, plainKeys := false, apart := false, narrowed := true }
def LockRingUptoSaid : Prop := lockRingUptoRow.holds Try.pinned (OpenSpec.upto lockRingSpec)

/-- 'interlocklaw11.LockFair', WHERE WHAT IT READS IS OF BULK AT MOST 1048576: true; the input reads as it did. -/
def lockFairUptoRow : OpenClaim := { program := "ytkcjcdkmdooofaa", sum := "fc7c14f1622259d2bd289cab147cd354fa5e824ad37ab121441f3dcbe3252b56", func := "interlock/interlocklaw11.LockFair", spec := "lockFair", inPlace := ["slices.overlaps[interlock/lock.one]", "slices.overlaps[interlock/api.Thing]"], unfollowed := true, recurses := true, plainKeys := false, apart := false, narrowed := true }
def LockFairUptoSaid : Prop := lockFairUptoRow.holds Try.pinned (OpenSpec.upto lockFairSpec)

/-- 'interlocklaw11.LockMore', WHERE WHAT IT READS IS OF BULK AT MOST 1048576: true; the input reads as it did. -/
def lockMoreUptoRow : OpenClaim := { program := "ytkcjcdkmdooofaa", sum := "fc7c14f1622259d2bd289cab147cd354fa5e824ad37ab121441f3dcbe3252b56", func := "interlock/interlocklaw11.LockMore", spec := "lockMore", inPlace := ["slices.overlaps[interlock/lock.one]", "slices.overlaps[interlock/api.Thing]"], unfollowed := true, recurses := true, plainKeys := false, apart := false, narrowed := true }
def LockMoreUptoSaid : Prop := lockMoreUptoRow.holds Try.pinned (OpenSpec.upto lockMoreSpec)

end Rows
end Go.Proofs.Ytkcjcdkmdooofaa

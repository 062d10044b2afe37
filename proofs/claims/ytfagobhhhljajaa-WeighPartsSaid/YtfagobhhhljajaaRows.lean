/-
  No cell of these rows narrows 'for every input' (looked for: loops, veiled, ifaces, maps, wideKeys, modest, calm, conditions, laid).
  DERIVED. THE GIVEN ROWS OF THIS SEAT. 6 by the template 'for every input the law returns true; each argument reads behind the call as it read before'; 0 by the template 'total and deterministic' (their statements: YtfagobhhhljajaaTotals.lean).
  GIVEN WITH THE SEED: the statements are not yours to turn. If you find one false, say at which input.
  Laid BY PROGRAM, IN A SANDBOX (cutbox-rows.mjs): the forced cells as the released guide's own fill.sh prints them over the translation 96b424ab3ed823fd… (all of the seat's roots in one cut). By AI agents, Wed Nov 11 2026. No macro, syntax, notation, axiom, sorry.
-/
import Derived.Test.YtfagobhhhljajaaChecked
import GoSem.Claim
import GoSem.ClaimJoined
import GoSem.ClaimMapViews
import Derived.JoinedTies
import Derived.KernelRfl
namespace Go.Proofs.Ytfagobhhhljajaa
/- THE CELL 'sum', in the pinned program and in every row, IS THE sha256 OF THE DUMP (.gsa) THAT YtfagobhhhljajaaProg.lean LOADS. Nothing in Lean hashes anything: it is a label: what it is worth is what the hold of that sum in a sandbox is worth. -/
noncomputable def Try.pinned : Pinned := { name := "ytfagobhhhljajaa", sum := "96b424ab3ed823fda9b469a2d8b9345935faffd9a211b234e17a93380b6ac0b0", checked := Try.checked }
namespace Rows
def none {H : Type} : Left H := { results := [], args := [] }

/-- 'gazetteerlaw3.WeighElements': WHATEVER THE INPUT: true; the input reads as it did. -/
def weighElementsSpec : ChangeSpec := { name := "weighElements", fn := fun _ => fun
  | [d1, d2] => { results := [.lit (.bool true)], args := [d1, d2] }
  | _ => none }
def weighElementsRow : OpenClaim := { program := "ytfagobhhhljajaa", sum := "96b424ab3ed823fda9b469a2d8b9345935faffd9a211b234e17a93380b6ac0b0", func := "gazetteer/gazetteerlaw3.WeighElements", spec := "weighElements", unfollowed := true, recurses := true, apart := false }
def WeighElementsSaid : Prop := weighElementsRow.holds Try.pinned (OpenSpec.ofChange weighElementsSpec)

/-- ITS FALSE NEIGHBOUR: 'it returns false'. Refute it at one input. -/
def weighElementsWrong : ChangeSpec := { name := "weighElements", fn := fun _ => fun
  | [d1, d2] => { results := [.lit (.bool false)], args := [d1, d2] }
  | _ => none }
def WeighElementsWrongFalsely : Prop := weighElementsRow.holds Try.pinned (OpenSpec.ofChange weighElementsWrong)

/-- 'gazetteerlaw3.WeighParts': WHATEVER THE INPUT: true; the input reads as it did. -/
def weighPartsSpec : ChangeSpec := { name := "weighParts", fn := fun _ => fun
  | [d1, d2, d3] => { results := [.lit (.bool true)], args := [d1, d2, d3] }
  | _ => none }
def weighPartsRow : OpenClaim := { program := "ytfagobhhhljajaa", sum := "96b424ab3ed823fda9b469a2d8b9345935faffd9a211b234e17a93380b6ac0b0", func := "gazetteer/gazetteerlaw3.WeighParts", spec := "weighParts", unfollowed := true, recurses := true, apart := false }
def WeighPartsSaid : Prop := weighPartsRow.holds Try.pinned (OpenSpec.ofChange weighPartsSpec)

/-- ITS FALSE NEIGHBOUR: 'it returns false'. Refute it at one input. -/
def weighPartsWrong : ChangeSpec := { name := "weighParts", fn := fun _ => fun
  | [d1, d2, d3] => { results := [.lit (.bool false)], args := [d1, d2, d3] }
  | _ => none }
def WeighPartsWrongFalsely : Prop := weighPartsRow.holds Try.pinned (OpenSpec.ofChange weighPartsWrong)

/-- 'gazetteerlaw3.WeighKnown': WHATEVER THE INPUT: true; the input reads as it did. -/
def weighKnownSpec : ChangeSpec := { name := "weighKnown", fn := fun _ => fun
  | [] => { results := [.lit (.bool true)], args := [] }
  | _ => none }
def weighKnownRow : OpenClaim := { program := "ytfagobhhhljajaa", sum := "96b424ab3ed823fda9b469a2d8b9345935faffd9a211b234e17a93380b6ac0b0", func := "gazetteer/gazetteerlaw3.WeighKnown", spec := "weighKnown", unfollowed := true, recurses := true, apart := false }
def WeighKnownSaid : Prop := weighKnownRow.holds Try.pinned (OpenSpec.ofChange weighKnownSpec)

/-- ITS FALSE NEIGHBOUR: 'it returns false'. Refute it at one input. -/
def weighKnownWrong : ChangeSpec := { name := "weighKnown", fn := fun _ => fun
  | [] => { results := [.lit (.bool false)], args := [] }
  | _ => none }
def WeighKnownWrongFalsely : Prop := weighKnownRow.holds Try.pinned (OpenSpec.ofChange weighKnownWrong)

/-- 'gazetteerlaw3.WeighNormal': WHATEVER THE INPUT: true; the input reads as it did. -/
def weighNormalSpec : ChangeSpec := { name := "weighNormal", fn := fun _ => fun
  | [d1, d2] => { results := [.lit (.bool true)], args := [d1, d2] }
  | _ => none }
def weighNormalRow : OpenClaim := { program := "ytfagobhhhljajaa", sum := "96b424ab3ed823fda9b469a2d8b9345935faffd9a211b234e17a93380b6ac0b0", func := "gazetteer/gazetteerlaw3.WeighNormal", spec := "weighNormal", unfollowed := true, recurses := true, apart := false }
def WeighNormalSaid : Prop := weighNormalRow.holds Try.pinned (OpenSpec.ofChange weighNormalSpec)

/-- ITS FALSE NEIGHBOUR: 'it returns false'. Refute it at one input. -/
def weighNormalWrong : ChangeSpec := { name := "weighNormal", fn := fun _ => fun
  | [d1, d2] => { results := [.lit (.bool false)], args := [d1, d2] }
  | _ => none }
def WeighNormalWrongFalsely : Prop := weighNormalRow.holds Try.pinned (OpenSpec.ofChange weighNormalWrong)

/-- 'gazetteerlaw3.WeighImplied': WHATEVER THE INPUT: true; the input reads as it did. -/
def weighImpliedSpec : ChangeSpec := { name := "weighImplied", fn := fun _ => fun
  | [d1, d2] => { results := [.lit (.bool true)], args := [d1, d2] }
  | _ => none }
def weighImpliedRow : OpenClaim := { program := "ytfagobhhhljajaa", sum := "96b424ab3ed823fda9b469a2d8b9345935faffd9a211b234e17a93380b6ac0b0", func := "gazetteer/gazetteerlaw3.WeighImplied", spec := "weighImplied", unfollowed := true, recurses := true, apart := false }
def WeighImpliedSaid : Prop := weighImpliedRow.holds Try.pinned (OpenSpec.ofChange weighImpliedSpec)

/-- ITS FALSE NEIGHBOUR: 'it returns false'. Refute it at one input. -/
def weighImpliedWrong : ChangeSpec := { name := "weighImplied", fn := fun _ => fun
  | [d1, d2] => { results := [.lit (.bool false)], args := [d1, d2] }
  | _ => none }
def WeighImpliedWrongFalsely : Prop := weighImpliedRow.holds Try.pinned (OpenSpec.ofChange weighImpliedWrong)

/-- 'gazetteerlaw3.WeighRows': WHATEVER THE INPUT: true; the input reads as it did. -/
def weighRowsSpec : ChangeSpec := { name := "weighRows", fn := fun _ => fun
  | [d1, d2] => { results := [.lit (.bool true)], args := [d1, d2] }
  | _ => none }
def weighRowsRow : OpenClaim := { program := "ytfagobhhhljajaa", sum := "96b424ab3ed823fda9b469a2d8b9345935faffd9a211b234e17a93380b6ac0b0", func := "gazetteer/gazetteerlaw3.WeighRows", spec := "weighRows", unfollowed := true, recurses := true, apart := false }
def WeighRowsSaid : Prop := weighRowsRow.holds Try.pinned (OpenSpec.ofChange weighRowsSpec)

/-- ITS FALSE NEIGHBOUR: 'it returns false'. Refute it at one input. -/
def weighRowsWrong : ChangeSpec := { name := "weighRows", fn := fun _ => fun
  | [d1, d2] => { results := [.lit (.bool false)], args := [d1, d2] }
  | _ => none }
def WeighRowsWrongFalsely : Prop := weighRowsRow.holds Try.pinned (OpenSpec.ofChange weighRowsWrong)

/- THE SECOND FORM. 'bulk': how many values and letters a reading holds, each counted each time it is reached (what is shared counts as often as it is met; a slice's spare places count too). A statement '..UptoSaid' is the law's where the arguments, and the package variables that the reading takes, are together of bulk at most 1048576: NARROWER than '..Said'. Prove '..Said' where nothing that the law and all that it calls make is longer than what came in: it says more and counts as full. Else prove '..UptoSaid'. A law counts once. -/
mutual
def uptoBulk {H : Type} : DataW H → Nat
  | .lit (.string bytes) => bytes.length + 1
  | .lit _ => 1
  | .nil => 1
  | .ptr d => uptoBulk d + 1
  | .slice elems spare => uptoBulkAll elems + uptoBulkAll spare + 1
  | .agg parts => uptoBulkAll parts + 1
  | .iface _ d => uptoBulk d + 1
  | .map entries => uptoBulkEntries entries + 1
  | .held _ => 1
def uptoBulkAll {H : Type} : List (DataW H) → Nat
  | [] => 0
  | d :: r => uptoBulk d + uptoBulkAll r
def uptoBulkEntries {H : Type} : List (Lit × DataW H) → Nat
  | [] => 0
  | x :: r => uptoBulkEntry x + uptoBulkEntries r
def uptoBulkEntry {H : Type} : Lit × DataW H → Nat
  | (.string bytes, d) => bytes.length + uptoBulk d + 1
  | (_, d) => uptoBulk d + 1
 end
def uptoSmall : (H : Type) → List (DataW H) → Bool := fun _ ds => decide (uptoBulkAll ds ≤ 1048576)
def OpenSpec.upto (s : _root_.Go.ChangeSpec) : _root_.Go.OpenSpec := { _root_.Go.OpenSpec.ofChange s with cond := some uptoSmall }

/-- 'gazetteerlaw3.WeighElements', WHERE WHAT IT READS IS OF BULK AT MOST 1048576: true; the input reads as it did. -/
def weighElementsUptoRow : OpenClaim := { program := "ytfagobhhhljajaa", sum := "96b424ab3ed823fda9b469a2d8b9345935faffd9a211b234e17a93380b6ac0b0", func := "gazetteer/gazetteerlaw3.WeighElements", spec := "weighElements", unfollowed := true, recurses := true, apart := false, narrowed := true }
def WeighElementsUptoSaid : Prop := weighElementsUptoRow.holds Try.pinned (OpenSpec.upto weighElementsSpec)

/-- 'gazetteerlaw3.WeighParts', WHERE WHAT IT READS IS OF BULK AT MOST 1048576: true; the input reads as it did. -/
def weighPartsUptoRow : OpenClaim := { program := "ytfagobhhhljajaa", sum := "96b424ab3ed823fda9b469a2d8b9345935faffd9a211b234e17a93380b6ac0b0", func := "gazetteer/gazetteerlaw3.WeighParts", spec := "weighParts", unfollowed := true, recurses := true, apart := false, narrowed := true }
def WeighPartsUptoSaid : Prop := weighPartsUptoRow.holds Try.pinned (OpenSpec.upto weighPartsSpec)

/-- 'gazetteerlaw3.WeighKnown', WHERE WHAT IT READS IS OF BULK AT MOST 1048576: true; the input reads as it did. -/
def weighKnownUptoRow : OpenClaim := { program := "ytfagobhhhljajaa", sum := "96b424ab3ed823fda9b469a2d8b9345935faffd9a211b234e17a93380b6ac0b0", func := "gazetteer/gazetteerlaw3.WeighKnown", spec := "weighKnown", unfollowed := true, recurses := true, apart := false, narrowed := true }
def WeighKnownUptoSaid : Prop := weighKnownUptoRow.holds Try.pinned (OpenSpec.upto weighKnownSpec)

/-- 'gazetteerlaw3.WeighNormal', WHERE WHAT IT READS IS OF BULK AT MOST 1048576: true; the input reads as it did. -/
def weighNormalUptoRow : OpenClaim := { program := "ytfagobhhhljajaa", sum := "96b424ab3ed823fda9b469a2d8b9345935faffd9a211b234e17a93380b6ac0b0", func := "gazetteer/gazetteerlaw3.WeighNormal", spec := "weighNormal", unfollowed := true, recurses := true, apart := false, narrowed := true }
def WeighNormalUptoSaid : Prop := weighNormalUptoRow.holds Try.pinned (OpenSpec.upto weighNormalSpec)

/-- 'gazetteerlaw3.WeighImplied', WHERE WHAT IT READS IS OF BULK AT MOST 1048576: true; the input reads as it did. -/
def weighImpliedUptoRow : OpenClaim := { program := "ytfagobhhhljajaa", sum := "96b424ab3ed823fda9b469a2d8b9345935faffd9a211b234e17a93380b6ac0b0", func := "gazetteer/gazetteerlaw3.WeighImplied", spec := "weighImplied", unfollowed := true, recurses := true, apart := false, narrowed := true }
def WeighImpliedUptoSaid : Prop := weighImpliedUptoRow.holds Try.pinned (OpenSpec.upto weighImpliedSpec)

/-- 'gazetteerlaw3.WeighRows', WHERE WHAT IT READS IS OF BULK AT MOST 1048576: true; the input reads as it did. -/
def weighRowsUptoRow : OpenClaim := { program := "ytfagobhhhljajaa", sum := "96b424ab3ed823fda9b469a2d8b9345935faffd9a211b234e17a93380b6ac0b0", func := "gazetteer/gazetteerlaw3.WeighRows", spec := "weighRows", unfollowed := true, recurses := true, apart := false, narrowed := true }
def WeighRowsUptoSaid : Prop := weighRowsUptoRow.holds Try.pinned (OpenSpec.upto weighRowsSpec)

end Rows
end Go.Proofs.Ytfagobhhhljajaa

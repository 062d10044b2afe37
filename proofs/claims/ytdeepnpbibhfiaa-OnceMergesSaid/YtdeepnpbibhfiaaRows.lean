/-
  No cell of these rows narrows 'for every input' (looked for: loops, veiled, ifaces, maps, wideKeys, modest, calm, conditions, laid).
  DERIVED. THE GIVEN ROWS OF THIS SEAT. 3 by the template 'for every input the law returns true; each argument reads behind the call as it read before'; 0 by the template 'total and deterministic' (their statements: YtdeepnpbibhfiaaTotals.lean).
  GIVEN WITH THE SEED: the statements are not yours to turn. If you find one false, say at which input.
  Laid BY PROGRAM, IN A SANDBOX (cutbox-rows.mjs): the forced cells as the released guide's own fill.sh prints them over the translation 16d07d83dfe85384… (all of the seat's roots in one cut). By AI agents, Wed Nov 11 2026. No macro, syntax, notation, axiom, sorry.
-/
import Derived.Test.YtdeepnpbibhfiaaChecked
import GoSem.Claim
import GoSem.ClaimJoined
import GoSem.ClaimMapViews
import Derived.JoinedTies
import Derived.KernelRfl
namespace Go.Proofs.Ytdeepnpbibhfiaa
/- THE CELL 'sum', in the pinned program and in every row, IS THE sha256 OF THE DUMP (.gsa) THAT YtdeepnpbibhfiaaProg.lean LOADS. Nothing in Lean hashes anything: it is a label: what it is worth is what the hold of that sum in a sandbox is worth. -/
noncomputable def Try.pinned : Pinned := { name := "ytdeepnpbibhfiaa", sum := "16d07d83dfe85384238e90c9daf79a032be334c5a949da18f568e3d8866e898c", checked := Try.checked }
namespace Rows
def none {H : Type} : Left H := { results := [], args := [] }

/-- 'gazetteerlaw12.OnceKeeps': WHATEVER THE INPUT: true; the input reads as it did. -/
def onceKeepsSpec : ChangeSpec := { name := "onceKeeps", fn := fun _ => fun
  | [d] => { results := [.lit (.bool true)], args := [d] }
  | _ => none }
def onceKeepsRow : OpenClaim := { program := "ytdeepnpbibhfiaa", sum := "16d07d83dfe85384238e90c9daf79a032be334c5a949da18f568e3d8866e898c", func := "gazetteer/gazetteerlaw12.OnceKeeps", spec := "onceKeeps", unfollowed := true, recurses := true, apart := false }
def OnceKeepsSaid : Prop := onceKeepsRow.holds Try.pinned (OpenSpec.ofChange onceKeepsSpec)

/-- ITS FALSE NEIGHBOUR: 'it returns false'. Refute it at one input. -/
def onceKeepsWrong : ChangeSpec := { name := "onceKeeps", fn := fun _ => fun
  | [d] => { results := [.lit (.bool false)], args := [d] }
  | _ => none }
def OnceKeepsWrongFalsely : Prop := onceKeepsRow.holds Try.pinned (OpenSpec.ofChange onceKeepsWrong)

/-- 'gazetteerlaw12.OnceSets': WHATEVER THE INPUT: true; the input reads as it did. -/
def onceSetsSpec : ChangeSpec := { name := "onceSets", fn := fun _ => fun
  | [d1, d2] => { results := [.lit (.bool true)], args := [d1, d2] }
  | _ => none }
def onceSetsRow : OpenClaim := { program := "ytdeepnpbibhfiaa", sum := "16d07d83dfe85384238e90c9daf79a032be334c5a949da18f568e3d8866e898c", func := "gazetteer/gazetteerlaw12.OnceSets", spec := "onceSets", unfollowed := true, recurses := true, apart := false }
def OnceSetsSaid : Prop := onceSetsRow.holds Try.pinned (OpenSpec.ofChange onceSetsSpec)

/-- ITS FALSE NEIGHBOUR: 'it returns false'. Refute it at one input. -/
def onceSetsWrong : ChangeSpec := { name := "onceSets", fn := fun _ => fun
  | [d1, d2] => { results := [.lit (.bool false)], args := [d1, d2] }
  | _ => none }
def OnceSetsWrongFalsely : Prop := onceSetsRow.holds Try.pinned (OpenSpec.ofChange onceSetsWrong)

/-- 'gazetteerlaw12.OnceMerges': WHATEVER THE INPUT: true; the input reads as it did. -/
def onceMergesSpec : ChangeSpec := { name := "onceMerges", fn := fun _ => fun
  | [d1, d2] => { results := [.lit (.bool true)], args := [d1, d2] }
  | _ => none }
def onceMergesRow : OpenClaim := { program := "ytdeepnpbibhfiaa", sum := "16d07d83dfe85384238e90c9daf79a032be334c5a949da18f568e3d8866e898c", func := "gazetteer/gazetteerlaw12.OnceMerges", spec := "onceMerges", unfollowed := true, recurses := true, apart := false }
def OnceMergesSaid : Prop := onceMergesRow.holds Try.pinned (OpenSpec.ofChange onceMergesSpec)

/-- ITS FALSE NEIGHBOUR: 'it returns false'. Refute it at one input. -/
def onceMergesWrong : ChangeSpec := { name := "onceMerges", fn := fun _ => fun
  | [d1, d2] => { results := [.lit (.bool false)], args := [d1, d2] }
  | _ => none }
def OnceMergesWrongFalsely : Prop := onceMergesRow.holds Try.pinned (OpenSpec.ofChange onceMergesWrong)

/- THE SECOND FORM. 'bulk': how many values and letters a reading holds, each counted each time it is reached (what is shared counts as often as it is met; a slice's spare places count too). A statement '..UptoSaid' is the law's where the arguments, and the package variables that the reading takes, are together of bulk at most 1048576: NARROWER than '..Said'. Prove '..Said' where nothing that the law and all that it calls make is longer than what came in: it says more and counts as full. Else prove '..UptoSaid'. A law counts once. -/
mutual
def uptoBulk {H : Type} : DataW H → Nat
  | .lit (.string bytes) => bytes.length + 1
  | .lit _ => 1
  | .nil => 1
  | .ptr d => uptoBulk d + 1
  | .slice elems spare => uptoBulkAll elems + uptoBulkAll spare + 1
  | .agg parts => uptoBulkAll parts + 1
  | .iface _ d => uptoBulk d + 1
  | .map entries => uptoBulkEntries entries + 1
  | .held _ => 1
def uptoBulkAll {H : Type} : List (DataW H) → Nat
  | [] => 0
  | d :: r => uptoBulk d + uptoBulkAll r
def uptoBulkEntries {H : Type} : List (Lit × DataW H) → Nat
  | [] => 0
  | x :: r => uptoBulkEntry x + uptoBulkEntries r
def uptoBulkEntry {H : Type} : Lit × DataW H → Nat
  | (.string bytes, d) => bytes.length + uptoBulk d + 1
  | (_, d) => uptoBulk d + 1
 end
def uptoSmall : (H : Type) → List (DataW H) → Bool := fun _ ds => decide (uptoBulkAll ds ≤ 1048576)
def OpenSpec.upto (s : _root_.Go.ChangeSpec) : _root_.Go.OpenSpec := { _root_.Go.OpenSpec.ofChange s with cond := some uptoSmall }

/-- 'gazetteerlaw12.OnceKeeps', WHERE WHAT IT READS IS OF BULK AT MOST 1048576: true; the input reads as it did. -/
def onceKeepsUptoRow : OpenClaim := { program := "ytdeepnpbibhfiaa", sum := "16d07d83dfe85384238e90c9daf79a032be334c5a949da18f568e3d8866e898c", func := "gazetteer/gazetteerlaw12.OnceKeeps", spec := "onceKeeps", unfollowed := true, recurses := true, apart := false, narrowed := true }
def OnceKeepsUptoSaid : Prop := onceKeepsUptoRow.holds Try.pinned (OpenSpec.upto onceKeepsSpec)

/-- 'gazetteerlaw12.OnceSets', WHERE WHAT IT READS IS OF BULK AT MOST 1048576: true; the input reads as it did. -/
def onceSetsUptoRow : OpenClaim := { program := "ytdeepnpbibhfiaa", sum := "16d07d83dfe85384238e90c9daf79a032be334c5a949da18f568e3d8866e898c", func := "gazetteer/gazetteerlaw12.OnceSets", spec := "onceSets", unfollowed := true, recurses := true, apart := false, narrowed := true }
def OnceSetsUptoSaid : Prop := onceSetsUptoRow.holds Try.pinned (OpenSpec.upto onceSetsSpec)

/-- 'gazetteerlaw12.OnceMerges', WHERE WHAT IT READS IS OF BULK AT MOST 1048576: true; the input reads as it did. -/
def onceMergesUptoRow : OpenClaim := { program := "ytdeepnpbibhfiaa", sum := "16d07d83dfe85384238e90c9daf79a032be334c5a949da18f568e3d8866e898c", func := "gazetteer/gazetteerlaw12.OnceMerges", spec := "onceMerges", unfollowed := true, recurses := true, apart := false, narrowed := true }
def OnceMergesUptoSaid : Prop := onceMergesUptoRow.holds Try.pinned (OpenSpec.upto onceMergesSpec)

end Rows
end Go.Proofs.Ytdeepnpbibhfiaa

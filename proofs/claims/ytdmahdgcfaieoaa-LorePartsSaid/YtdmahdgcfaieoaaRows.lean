/-
  No cell of these rows narrows 'for every input' (looked for: loops, veiled, ifaces, maps, wideKeys, modest, calm, conditions, laid).
  DERIVED. THE GIVEN ROWS OF THIS SEAT. 4 by the template 'for every input the law returns true; each argument reads behind the call as it read before'; 0 by the template 'total and deterministic' (their statements: YtdmahdgcfaieoaaTotals.lean).
  GIVEN WITH THE SEED: the statements are not yours to turn. If you find one false, say at which input.
  Laid BY PROGRAM, IN A SANDBOX (cutbox-rows.mjs): the forced cells as the released guide's own fill.sh prints them over the translation f2ee6ec22ed2007f… (all of the seat's roots in one cut). By AI agents, Wed Nov 11 2026. No macro, syntax, notation, axiom, sorry.
-/
import Derived.Test.YtdmahdgcfaieoaaChecked
import GoSem.Claim
import GoSem.ClaimJoined
import GoSem.ClaimMapViews
import Derived.JoinedTies
import Derived.KernelRfl
namespace Go.Proofs.Ytdmahdgcfaieoaa
/- THE CELL 'sum', in the pinned program and in every row, IS THE sha256 OF THE DUMP (.gsa) THAT YtdmahdgcfaieoaaProg.lean LOADS. Nothing in Lean hashes anything: it is a label: what it is worth is what the hold of that sum in a sandbox is worth. -/
noncomputable def Try.pinned : Pinned := { name := "ytdmahdgcfaieoaa", sum := "f2ee6ec22ed2007f27140a17f4a2a2613b95c9df8afdb926a9432e8dfbc1919e", checked := Try.checked }
namespace Rows
def none {H : Type} : Left H := { results := [], args := [] }

/-- 'gazetteerlaw2.LoreTwice': WHATEVER THE INPUT: true; the input reads as it did. -/
def loreTwiceSpec : ChangeSpec := { name := "loreTwice", fn := fun _ => fun
  | [d1, d2] => { results := [.lit (.bool true)], args := [d1, d2] }
  | _ => none }
def loreTwiceRow : OpenClaim := { program := "ytdmahdgcfaieoaa", sum := "f2ee6ec22ed2007f27140a17f4a2a2613b95c9df8afdb926a9432e8dfbc1919e", func := "gazetteer/gazetteerlaw2.LoreTwice", spec := "loreTwice", unfollowed := true, recurses := true, apart := false }
def LoreTwiceSaid : Prop := loreTwiceRow.holds Try.pinned (OpenSpec.ofChange loreTwiceSpec)

/-- ITS FALSE NEIGHBOUR: 'it returns false'. Refute it at one input. -/
def loreTwiceWrong : ChangeSpec := { name := "loreTwice", fn := fun _ => fun
  | [d1, d2] => { results := [.lit (.bool false)], args := [d1, d2] }
  | _ => none }
def LoreTwiceWrongFalsely : Prop := loreTwiceRow.holds Try.pinned (OpenSpec.ofChange loreTwiceWrong)

/-- 'gazetteerlaw2.LoreKnown': WHATEVER THE INPUT: true; the input reads as it did. -/
def loreKnownSpec : ChangeSpec := { name := "loreKnown", fn := fun _ => fun
  | [] => { results := [.lit (.bool true)], args := [] }
  | _ => none }
def loreKnownRow : OpenClaim := { program := "ytdmahdgcfaieoaa", sum := "f2ee6ec22ed2007f27140a17f4a2a2613b95c9df8afdb926a9432e8dfbc1919e", func := "gazetteer/gazetteerlaw2.LoreKnown", spec := "loreKnown", unfollowed := true, recurses := true, apart := false }
def LoreKnownSaid : Prop := loreKnownRow.holds Try.pinned (OpenSpec.ofChange loreKnownSpec)

/-- ITS FALSE NEIGHBOUR: 'it returns false'. Refute it at one input. -/
def loreKnownWrong : ChangeSpec := { name := "loreKnown", fn := fun _ => fun
  | [] => { results := [.lit (.bool false)], args := [] }
  | _ => none }
def LoreKnownWrongFalsely : Prop := loreKnownRow.holds Try.pinned (OpenSpec.ofChange loreKnownWrong)

/-- 'gazetteerlaw2.LoreParts': WHATEVER THE INPUT: true; the input reads as it did. -/
def lorePartsSpec : ChangeSpec := { name := "loreParts", fn := fun _ => fun
  | [d1, d2, d3] => { results := [.lit (.bool true)], args := [d1, d2, d3] }
  | _ => none }
def lorePartsRow : OpenClaim := { program := "ytdmahdgcfaieoaa", sum := "f2ee6ec22ed2007f27140a17f4a2a2613b95c9df8afdb926a9432e8dfbc1919e", func := "gazetteer/gazetteerlaw2.LoreParts", spec := "loreParts", unfollowed := true, recurses := true, apart := false }
def LorePartsSaid : Prop := lorePartsRow.holds Try.pinned (OpenSpec.ofChange lorePartsSpec)

/-- ITS FALSE NEIGHBOUR: 'it returns false'. Refute it at one input. -/
def lorePartsWrong : ChangeSpec := { name := "loreParts", fn := fun _ => fun
  | [d1, d2, d3] => { results := [.lit (.bool false)], args := [d1, d2, d3] }
  | _ => none }
def LorePartsWrongFalsely : Prop := lorePartsRow.holds Try.pinned (OpenSpec.ofChange lorePartsWrong)

/-- 'gazetteerlaw2.LoreMarks': WHATEVER THE INPUT: true; the input reads as it did. -/
def loreMarksSpec : ChangeSpec := { name := "loreMarks", fn := fun _ => fun
  | [d] => { results := [.lit (.bool true)], args := [d] }
  | _ => none }
def loreMarksRow : OpenClaim := { program := "ytdmahdgcfaieoaa", sum := "f2ee6ec22ed2007f27140a17f4a2a2613b95c9df8afdb926a9432e8dfbc1919e", func := "gazetteer/gazetteerlaw2.LoreMarks", spec := "loreMarks", unfollowed := true, recurses := true, apart := false }
def LoreMarksSaid : Prop := loreMarksRow.holds Try.pinned (OpenSpec.ofChange loreMarksSpec)

/-- ITS FALSE NEIGHBOUR: 'it returns false'. Refute it at one input. -/
def loreMarksWrong : ChangeSpec := { name := "loreMarks", fn := fun _ => fun
  | [d] => { results := [.lit (.bool false)], args := [d] }
  | _ => none }
def LoreMarksWrongFalsely : Prop := loreMarksRow.holds Try.pinned (OpenSpec.ofChange loreMarksWrong)

/- THE SECOND FORM. 'bulk': how many values and letters a reading holds, each counted each time it is reached (what is shared counts as often as it is met; a slice's spare places count too). A statement '..UptoSaid' is the law's where the arguments, and the package variables that the reading takes, are together of bulk at most 1048576: NARROWER than '..Said'. Prove '..Said' where nothing that the law and all that it calls make is longer than what came in: it says more and counts as full. Else prove '..UptoSaid'. A law counts once. -/
mutual
def uptoBulk {H : Type} : DataW H → Nat
  | .lit (.string bytes) => bytes.length + 1
  | .lit _ => 1
  | .nil => 1
  | .ptr d => uptoBulk d + 1
  | .slice elems spare => uptoBulkAll elems + uptoBulkAll spare + 1
  | .agg parts => uptoBulkAll parts + 1
  | .iface _ d => uptoBulk d + 1
  | .map entries => uptoBulkEntries entries + 1
  | .held _ => 1
def uptoBulkAll {H : Type} : List (DataW H) → Nat
  | [] => 0
  | d :: r => uptoBulk d + uptoBulkAll r
def uptoBulkEntries {H : Type} : List (Lit × DataW H) → Nat
  | [] => 0
  | x :: r => uptoBulkEntry x + uptoBulkEntries r
def uptoBulkEntry {H : Type} : Lit × DataW H → Nat
  | (.string bytes, d) => bytes.length + uptoBulk d + 1
  | (_, d) => uptoBulk d + 1
 end
def uptoSmall : (H : Type) → List (DataW H) → Bool := fun _ ds => decide (uptoBulkAll ds ≤ 1048576)
def OpenSpec.upto (s : _root_.Go.ChangeSpec) : _root_.Go.OpenSpec := { _root_.Go.OpenSpec.ofChange s with cond := some uptoSmall }

/-- 'gazetteerlaw2.LoreTwice', WHERE WHAT IT READS IS OF BULK AT MOST 1048576: true; the input reads as it did. -/
def loreTwiceUptoRow : OpenClaim := { program := "ytdmahdgcfaieoaa", sum := "f2ee6ec22ed2007f27140a17f4a2a2613b95c9df8afdb926a9432e8dfbc1919e", func := "gazetteer/gazetteerlaw2.LoreTwice", spec := "loreTwice", unfollowed := true, recurses := true, apart := false, narrowed := true }
def LoreTwiceUptoSaid : Prop := loreTwiceUptoRow.holds Try.pinned (OpenSpec.upto loreTwiceSpec)

/-- 'gazetteerlaw2.LoreKnown', WHERE WHAT IT READS IS OF BULK AT MOST 1048576: true; the input reads as it did. -/
def loreKnownUptoRow : OpenClaim := { program := "ytdmahdgcfaieoaa", sum := "f2ee6ec22ed2007f27140a17f4a2a2613b95c9df8afdb926a9432e8dfbc1919e", func := "gazetteer/gazetteerlaw2.LoreKnown", spec := "loreKnown", unfollowed := true, recurses := true, apart := false, narrowed := true }
def LoreKnownUptoSaid : Prop := loreKnownUptoRow.holds Try.pinned (OpenSpec.upto loreKnownSpec)

/-- 'gazetteerlaw2.LoreParts', WHERE WHAT IT READS IS OF BULK AT MOST 1048576: true; the input reads as it did. -/
def lorePartsUptoRow : OpenClaim := { program := "ytdmahdgcfaieoaa", sum := "f2ee6ec22ed2007f27140a17f4a2a2613b95c9df8afdb926a9432e8dfbc1919e", func := "gazetteer/gazetteerlaw2.LoreParts", spec := "loreParts", unfollowed := true, recurses := true, apart := false, narrowed := true }
def LorePartsUptoSaid : Prop := lorePartsUptoRow.holds Try.pinned (OpenSpec.upto lorePartsSpec)

/-- 'gazetteerlaw2.LoreMarks', WHERE WHAT IT READS IS OF BULK AT MOST 1048576: true; the input reads as it did. -/
def loreMarksUptoRow : OpenClaim := { program := "ytdmahdgcfaieoaa", sum := "f2ee6ec22ed2007f27140a17f4a2a2613b95c9df8afdb926a9432e8dfbc1919e", func := "gazetteer/gazetteerlaw2.LoreMarks", spec := "loreMarks", unfollowed := true, recurses := true, apart := false, narrowed := true }
def LoreMarksUptoSaid : Prop := loreMarksUptoRow.holds Try.pinned (OpenSpec.upto loreMarksSpec)

end Rows
end Go.Proofs.Ytdmahdgcfaieoaa

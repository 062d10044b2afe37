/-
  NARROWER THAN 'FOR EVERY INPUT', by the rows' own cells (each row's printed sentence says how): ScalarReads: laid · ScalarWrites: laid · ScalarKnown: laid · ScalarJoins: laid · ScalarCuts: laid.
  DERIVED. THE GIVEN ROWS OF THIS SEAT. 5 by the template 'for every input the law returns true; each argument reads behind the call as it read before'; 0 by the template 'total and deterministic' (their statements: YtdmahdgcfaieoaaDoorTotals.lean).
  GIVEN WITH THE SEED: the statements are not yours to turn. If you find one false, say at which input.
  Laid BY PROGRAM, IN A SANDBOX (cutbox-rows.mjs): the forced cells as the released guide's own fill.sh prints them over the translation 8af36935c3ed185d… (all of the seat's roots in one cut). By AI agents, Wed Nov 11 2026. No macro, syntax, notation, axiom, sorry.
-/
import Derived.Test.YtdmahdgcfaieoaaDoorChecked
import GoSem.PinnedTables
import GoSem.Claim
import GoSem.ClaimJoined
import GoSem.ClaimMapViews
import Derived.JoinedTies
import Derived.KernelRfl
namespace Go.Proofs.YtdmahdgcfaieoaaDoor
/- THE CELL 'sum', in the pinned program and in every row, IS THE sha256 OF THE DUMP (.gsa) THAT YtdmahdgcfaieoaaDoorProg.lean LOADS. Nothing in Lean hashes anything: it is a label: what it is worth is what the hold of that sum in a sandbox is worth. -/
noncomputable def Tryd.pinned : Pinned := { name := "ytdmahdgcfaieoaadoor", sum := "8af36935c3ed185d625954f5064eb4dcee9c6e7347b1981fa7c36cd3c670ead0", checked := Tryd.checked }
namespace Rows
def none {H : Type} : Left H := { results := [], args := [] }

/- WHAT THE LISTED PACKAGE-LEVEL VARIABLES READ AS WHEN THE CALL BEGINS. Each datum BY PROGRAM (the guide's laid-datum.mjs) off the statement by which the dump's own 'gosem.cut.vars' lays the variable. In a bare row this is a premise. The card (YtdmahdgcfaieoaaDoorCards.lean) ties it to the program's text. -/
def laid_unicode_utf8_acceptRanges {H : Type} : DataW H := .agg [.agg [.lit (.int .u8 128), .lit (.int .u8 191)], .agg [.lit (.int .u8 160), .lit (.int .u8 191)], .agg [.lit (.int .u8 128), .lit (.int .u8 159)], .agg [.lit (.int .u8 144), .lit (.int .u8 191)], .agg [.lit (.int .u8 128), .lit (.int .u8 143)], .agg [.lit (.int .u8 0), .lit (.int .u8 0)], .agg [.lit (.int .u8 0), .lit (.int .u8 0)], .agg [.lit (.int .u8 0), .lit (.int .u8 0)], .agg [.lit (.int .u8 0), .lit (.int .u8 0)], .agg [.lit (.int .u8 0), .lit (.int .u8 0)], .agg [.lit (.int .u8 0), .lit (.int .u8 0)], .agg [.lit (.int .u8 0), .lit (.int .u8 0)], .agg [.lit (.int .u8 0), .lit (.int .u8 0)], .agg [.lit (.int .u8 0), .lit (.int .u8 0)], .agg [.lit (.int .u8 0), .lit (.int .u8 0)], .agg [.lit (.int .u8 0), .lit (.int .u8 0)]]
/-- One of Go's own tables, pinned by name: the form's constant. -/
def laid_unicode_utf8_first : DataW Unit := Go.Pinned.utf8First

/-- 'gazetteerlaw1.ScalarReads': WHATEVER THE INPUT: true; the input reads as it did. -/
def scalarReadsSpec : ChangeSpec := { name := "scalarReads", fn := fun _ => fun
  | [d] => { results := [.lit (.bool true)], args := [d] }
  | _ => none }
def scalarReadsRow : OpenClaim := { program := "ytdmahdgcfaieoaadoor", sum := "8af36935c3ed185d625954f5064eb4dcee9c6e7347b1981fa7c36cd3c670ead0", func := "gazetteer/gazetteerlaw1.ScalarReads", spec := "scalarReads", unfollowed := true, recurses := true, named := ["unicode/utf8.first", "unicode/utf8.acceptRanges"], apart := false, laid := [("unicode/utf8.acceptRanges", laid_unicode_utf8_acceptRanges), ("unicode/utf8.first", laid_unicode_utf8_first)] }
def ScalarReadsSaid : Prop := scalarReadsRow.holds Tryd.pinned (OpenSpec.ofChange scalarReadsSpec)

/-- ITS FALSE NEIGHBOUR: 'it returns false'. Refute it at one input. -/
def scalarReadsWrong : ChangeSpec := { name := "scalarReads", fn := fun _ => fun
  | [d] => { results := [.lit (.bool false)], args := [d] }
  | _ => none }
def ScalarReadsWrongFalsely : Prop := scalarReadsRow.holds Tryd.pinned (OpenSpec.ofChange scalarReadsWrong)

/-- 'gazetteerlaw1.ScalarWrites': WHATEVER THE INPUT: true; the input reads as it did. -/
def scalarWritesSpec : ChangeSpec := { name := "scalarWrites", fn := fun _ => fun
  | [d1, d2, d3] => { results := [.lit (.bool true)], args := [d1, d2, d3] }
  | _ => none }
def scalarWritesRow : OpenClaim := { program := "ytdmahdgcfaieoaadoor", sum := "8af36935c3ed185d625954f5064eb4dcee9c6e7347b1981fa7c36cd3c670ead0", func := "gazetteer/gazetteerlaw1.ScalarWrites", spec := "scalarWrites", unfollowed := true, recurses := true, named := ["unicode/utf8.first", "unicode/utf8.acceptRanges"], apart := false, laid := [("unicode/utf8.acceptRanges", laid_unicode_utf8_acceptRanges), ("unicode/utf8.first", laid_unicode_utf8_first)] }
def ScalarWritesSaid : Prop := scalarWritesRow.holds Tryd.pinned (OpenSpec.ofChange scalarWritesSpec)

/-- ITS FALSE NEIGHBOUR: 'it returns false'. Refute it at one input. -/
def scalarWritesWrong : ChangeSpec := { name := "scalarWrites", fn := fun _ => fun
  | [d1, d2, d3] => { results := [.lit (.bool false)], args := [d1, d2, d3] }
  | _ => none }
def ScalarWritesWrongFalsely : Prop := scalarWritesRow.holds Tryd.pinned (OpenSpec.ofChange scalarWritesWrong)

/-- 'gazetteerlaw1.ScalarKnown': WHATEVER THE INPUT: true; the input reads as it did. -/
def scalarKnownSpec : ChangeSpec := { name := "scalarKnown", fn := fun _ => fun
  | [] => { results := [.lit (.bool true)], args := [] }
  | _ => none }
def scalarKnownRow : OpenClaim := { program := "ytdmahdgcfaieoaadoor", sum := "8af36935c3ed185d625954f5064eb4dcee9c6e7347b1981fa7c36cd3c670ead0", func := "gazetteer/gazetteerlaw1.ScalarKnown", spec := "scalarKnown", unfollowed := true, recurses := true, named := ["unicode/utf8.first", "unicode/utf8.acceptRanges"], apart := false, laid := [("unicode/utf8.acceptRanges", laid_unicode_utf8_acceptRanges), ("unicode/utf8.first", laid_unicode_utf8_first)] }
def ScalarKnownSaid : Prop := scalarKnownRow.holds Tryd.pinned (OpenSpec.ofChange scalarKnownSpec)

/-- ITS FALSE NEIGHBOUR: 'it returns false'. Refute it at one input. -/
def scalarKnownWrong : ChangeSpec := { name := "scalarKnown", fn := fun _ => fun
  | [] => { results := [.lit (.bool false)], args := [] }
  | _ => none }
def ScalarKnownWrongFalsely : Prop := scalarKnownRow.holds Tryd.pinned (OpenSpec.ofChange scalarKnownWrong)

/-- 'gazetteerlaw1.ScalarJoins': WHATEVER THE INPUT: true; the input reads as it did. -/
def scalarJoinsSpec : ChangeSpec := { name := "scalarJoins", fn := fun _ => fun
  | [d1, d2] => { results := [.lit (.bool true)], args := [d1, d2] }
  | _ => none }
def scalarJoinsRow : OpenClaim := { program := "ytdmahdgcfaieoaadoor", sum := "8af36935c3ed185d625954f5064eb4dcee9c6e7347b1981fa7c36cd3c670ead0", func := "gazetteer/gazetteerlaw1.ScalarJoins", spec := "scalarJoins", unfollowed := true, recurses := true, named := ["unicode/utf8.first", "unicode/utf8.acceptRanges"], apart := false, laid := [("unicode/utf8.acceptRanges", laid_unicode_utf8_acceptRanges), ("unicode/utf8.first", laid_unicode_utf8_first)] }
def ScalarJoinsSaid : Prop := scalarJoinsRow.holds Tryd.pinned (OpenSpec.ofChange scalarJoinsSpec)

/-- ITS FALSE NEIGHBOUR: 'it returns false'. Refute it at one input. -/
def scalarJoinsWrong : ChangeSpec := { name := "scalarJoins", fn := fun _ => fun
  | [d1, d2] => { results := [.lit (.bool false)], args := [d1, d2] }
  | _ => none }
def ScalarJoinsWrongFalsely : Prop := scalarJoinsRow.holds Tryd.pinned (OpenSpec.ofChange scalarJoinsWrong)

/-- 'gazetteerlaw1.ScalarCuts': WHATEVER THE INPUT: true; the input reads as it did. -/
def scalarCutsSpec : ChangeSpec := { name := "scalarCuts", fn := fun _ => fun
  | [d1, d2] => { results := [.lit (.bool true)], args := [d1, d2] }
  | _ => none }
def scalarCutsRow : OpenClaim := { program := "ytdmahdgcfaieoaadoor", sum := "8af36935c3ed185d625954f5064eb4dcee9c6e7347b1981fa7c36cd3c670ead0", func := "gazetteer/gazetteerlaw1.ScalarCuts", spec := "scalarCuts", unfollowed := true, recurses := true, named := ["unicode/utf8.first", "unicode/utf8.acceptRanges"], apart := false, laid := [("unicode/utf8.acceptRanges", laid_unicode_utf8_acceptRanges), ("unicode/utf8.first", laid_unicode_utf8_first)] }
def ScalarCutsSaid : Prop := scalarCutsRow.holds Tryd.pinned (OpenSpec.ofChange scalarCutsSpec)

/-- ITS FALSE NEIGHBOUR: 'it returns false'. Refute it at one input. -/
def scalarCutsWrong : ChangeSpec := { name := "scalarCuts", fn := fun _ => fun
  | [d1, d2] => { results := [.lit (.bool false)], args := [d1, d2] }
  | _ => none }
def ScalarCutsWrongFalsely : Prop := scalarCutsRow.holds Tryd.pinned (OpenSpec.ofChange scalarCutsWrong)

/- THE SECOND FORM. 'bulk': how many values and letters a reading holds, each counted each time it is reached (what is shared counts as often as it is met; a slice's spare places count too). A statement '..UptoSaid' is the law's where the arguments, and the package variables that the reading takes, are together of bulk at most 1048576: NARROWER than '..Said'. Prove '..Said' where nothing that the law and all that it calls make is longer than what came in: it says more and counts as full. Else prove '..UptoSaid'. A law counts once. -/
mutual
def uptoBulk {H : Type} : DataW H → Nat
  | .lit (.string bytes) => bytes.length + 1
  | .lit _ => 1
  | .nil => 1
  | .ptr d => uptoBulk d + 1
  | .slice elems spare => uptoBulkAll elems + uptoBulkAll spare + 1
  | .agg parts => uptoBulkAll parts + 1
  | .iface _ d => uptoBulk d + 1
  | .map entries => uptoBulkEntries entries + 1
  | .held _ => 1
def uptoBulkAll {H : Type} : List (DataW H) → Nat
  | [] => 0
  | d :: r => uptoBulk d + uptoBulkAll r
def uptoBulkEntries {H : Type} : List (Lit × DataW H) → Nat
  | [] => 0
  | x :: r => uptoBulkEntry x + uptoBulkEntries r
def uptoBulkEntry {H : Type} : Lit × DataW H → Nat
  | (.string bytes, d) => bytes.length + uptoBulk d + 1
  | (_, d) => uptoBulk d + 1
 end
def uptoSmall : (H : Type) → List (DataW H) → Bool := fun _ ds => decide (uptoBulkAll ds ≤ 1048576)
def OpenSpec.upto (s : _root_.Go.ChangeSpec) : _root_.Go.OpenSpec := { _root_.Go.OpenSpec.ofChange s with cond := some uptoSmall }

/-- 'gazetteerlaw1.ScalarReads', WHERE WHAT IT READS IS OF BULK AT MOST 1048576: true; the input reads as it did. -/
def scalarReadsUptoRow : OpenClaim := { program := "ytdmahdgcfaieoaadoor", sum := "8af36935c3ed185d625954f5064eb4dcee9c6e7347b1981fa7c36cd3c670ead0", func := "gazetteer/gazetteerlaw1.ScalarReads", spec := "scalarReads", unfollowed := true, recurses := true, named := ["unicode/utf8.first", "unicode/utf8.acceptRanges"], apart := false, laid := [("unicode/utf8.acceptRanges", laid_unicode_utf8_acceptRanges), ("unicode/utf8.first", laid_unicode_utf8_first)], narrowed := true }
def ScalarReadsUptoSaid : Prop := scalarReadsUptoRow.holds Tryd.pinned (OpenSpec.upto scalarReadsSpec)

/-- 'gazetteerlaw1.ScalarWrites', WHERE WHAT IT READS IS OF BULK AT MOST 1048576: true; the input reads as it did. -/
def scalarWritesUptoRow : OpenClaim := { program := "ytdmahdgcfaieoaadoor", sum := "8af36935c3ed185d625954f5064eb4dcee9c6e7347b1981fa7c36cd3c670ead0", func := "gazetteer/gazetteerlaw1.ScalarWrites", spec := "scalarWrites", unfollowed := true, recurses := true, named := ["unicode/utf8.first", "unicode/utf8.acceptRanges"], apart := false, laid := [("unicode/utf8.acceptRanges", laid_unicode_utf8_acceptRanges), ("unicode/utf8.first", laid_unicode_utf8_first)], narrowed := true }
def ScalarWritesUptoSaid : Prop := scalarWritesUptoRow.holds Tryd.pinned (OpenSpec.upto scalarWritesSpec)

/-- 'gazetteerlaw1.ScalarKnown', WHERE WHAT IT READS IS OF BULK AT MOST 1048576: true; the input reads as it did. -/
def scalarKnownUptoRow : OpenClaim := { program := "ytdmahdgcfaieoaadoor", sum := "8af36935c3ed185d625954f5064eb4dcee9c6e7347b1981fa7c36cd3c670ead0", func := "gazetteer/gazetteerlaw1.ScalarKnown", spec := "scalarKnown", unfollowed := true, recurses := true, named := ["unicode/utf8.first", "unicode/utf8.acceptRanges"], apart := false, laid := [("unicode/utf8.acceptRanges", laid_unicode_utf8_acceptRanges), ("unicode/utf8.first", laid_unicode_utf8_first)], narrowed := true }
def ScalarKnownUptoSaid : Prop := scalarKnownUptoRow.holds Tryd.pinned (OpenSpec.upto scalarKnownSpec)

/-- 'gazetteerlaw1.ScalarJoins', WHERE WHAT IT READS IS OF BULK AT MOST 1048576: true; the input reads as it did. -/
def scalarJoinsUptoRow : OpenClaim := { program := "ytdmahdgcfaieoaadoor", sum := "8af36935c3ed185d625954f5064eb4dcee9c6e7347b1981fa7c36cd3c670ead0", func := "gazetteer/gazetteerlaw1.ScalarJoins", spec := "scalarJoins", unfollowed := true, recurses := true, named := ["unicode/utf8.first", "unicode/utf8.acceptRanges"], apart := false, laid := [("unicode/utf8.acceptRanges", laid_unicode_utf8_acceptRanges), ("unicode/utf8.first", laid_unicode_utf8_first)], narrowed := true }
def ScalarJoinsUptoSaid : Prop := scalarJoinsUptoRow.holds Tryd.pinned (OpenSpec.upto scalarJoinsSpec)

/-- 'gazetteerlaw1.ScalarCuts', WHERE WHAT IT READS IS OF BULK AT MOST 1048576: true; the input reads as it did. -/
def scalarCutsUptoRow : OpenClaim := { program := "ytdmahdgcfaieoaadoor", sum := "8af36935c3ed185d625954f5064eb4dcee9c6e7347b1981fa7c36cd3c670ead0", func := "gazetteer/gazetteerlaw1.ScalarCuts", spec := "scalarCuts", unfollowed := true, recurses := true, named := ["unicode/utf8.first", "unicode/utf8.acceptRanges"], apart := false, laid := [("unicode/utf8.acceptRanges", laid_unicode_utf8_acceptRanges), ("unicode/utf8.first", laid_unicode_utf8_first)], narrowed := true }
def ScalarCutsUptoSaid : Prop := scalarCutsUptoRow.holds Tryd.pinned (OpenSpec.upto scalarCutsSpec)

end Rows
end Go.Proofs.YtdmahdgcfaieoaaDoor

/-
  No cell of these rows narrows 'for every input' (looked for: loops, veiled, ifaces, maps, wideKeys, modest, calm, conditions, laid).
  DERIVED. THE GIVEN ROWS OF THIS SEAT. 9 by the template 'for every input the law returns true; each argument reads behind the call as it read before'; 0 by the template 'total and deterministic' (their statements: YtbfllekkbmeibaaTotals.lean).
  GIVEN WITH THE SEED: the statements are not yours to turn. If you find one false, say at which input.
  Laid BY PROGRAM, IN A SANDBOX (cutbox-rows.mjs): the forced cells as the released guide's own fill.sh prints them over the translation ea20b90bc14710b7… (all of the seat's roots in one cut). By AI agents, Wed Nov 11 2026. No macro, syntax, notation, axiom, sorry.
-/
import Derived.Test.YtbfllekkbmeibaaChecked
import GoSem.Claim
import GoSem.ClaimJoined
import GoSem.ClaimMapViews
import Derived.JoinedTies
import Derived.KernelRfl
namespace Go.Proofs.Ytbfllekkbmeibaa
/- THE CELL 'sum', in the pinned program and in every row, IS THE sha256 OF THE DUMP (.gsa) THAT YtbfllekkbmeibaaProg.lean LOADS. Nothing in Lean hashes anything: it is a label: what it is worth is what the hold of that sum in a sandbox is worth. -/
noncomputable def Try.pinned : Pinned := { name := "ytbfllekkbmeibaa", sum := "ea20b90bc14710b7e0231f8d75a2de791f4d71e9a8277eb3c057ce11c04cd0c8", checked := Try.checked }
namespace Rows
def none {H : Type} : Left H := { results := [], args := [] }

/-- 'gazetteerlaw13.LeaseEnds': WHATEVER THE INPUT: true; the input reads as it did. -/
def leaseEndsSpec : ChangeSpec := { name := "leaseEnds", fn := fun _ => fun
  | [d1, d2, d3] => { results := [.lit (.bool true)], args := [d1, d2, d3] }
  | _ => none }
def leaseEndsRow : OpenClaim := { program := "ytbfllekkbmeibaa", sum := "ea20b90bc14710b7e0231f8d75a2de791f4d71e9a8277eb3c057ce11c04cd0c8", func := "gazetteer/gazetteerlaw13.LeaseEnds", spec := "leaseEnds", apart := false }
def LeaseEndsSaid : Prop := leaseEndsRow.holds Try.pinned (OpenSpec.ofChange leaseEndsSpec)

/-- ITS FALSE NEIGHBOUR: 'it returns false'. Refute it at one input. -/
def leaseEndsWrong : ChangeSpec := { name := "leaseEnds", fn := fun _ => fun
  | [d1, d2, d3] => { results := [.lit (.bool false)], args := [d1, d2, d3] }
  | _ => none }
def LeaseEndsWrongFalsely : Prop := leaseEndsRow.holds Try.pinned (OpenSpec.ofChange leaseEndsWrong)

/-- 'gazetteerlaw13.LeaseTicks': WHATEVER THE INPUT: true; the input reads as it did. -/
def leaseTicksSpec : ChangeSpec := { name := "leaseTicks", fn := fun _ => fun
  | [d1, d2, d3] => { results := [.lit (.bool true)], args := [d1, d2, d3] }
  | _ => none }
def leaseTicksRow : OpenClaim := { program := "ytbfllekkbmeibaa", sum := "ea20b90bc14710b7e0231f8d75a2de791f4d71e9a8277eb3c057ce11c04cd0c8", func := "gazetteer/gazetteerlaw13.LeaseTicks", spec := "leaseTicks", apart := false }
def LeaseTicksSaid : Prop := leaseTicksRow.holds Try.pinned (OpenSpec.ofChange leaseTicksSpec)

/-- ITS FALSE NEIGHBOUR: 'it returns false'. Refute it at one input. -/
def leaseTicksWrong : ChangeSpec := { name := "leaseTicks", fn := fun _ => fun
  | [d1, d2, d3] => { results := [.lit (.bool false)], args := [d1, d2, d3] }
  | _ => none }
def LeaseTicksWrongFalsely : Prop := leaseTicksRow.holds Try.pinned (OpenSpec.ofChange leaseTicksWrong)

/-- 'gazetteerlaw5.SpanCuts': WHATEVER THE INPUT: true; the input reads as it did. -/
def spanCutsSpec : ChangeSpec := { name := "spanCuts", fn := fun _ => fun
  | [d1, d2] => { results := [.lit (.bool true)], args := [d1, d2] }
  | _ => none }
def spanCutsRow : OpenClaim := { program := "ytbfllekkbmeibaa", sum := "ea20b90bc14710b7e0231f8d75a2de791f4d71e9a8277eb3c057ce11c04cd0c8", func := "gazetteer/gazetteerlaw5.SpanCuts", spec := "spanCuts", apart := false }
def SpanCutsSaid : Prop := spanCutsRow.holds Try.pinned (OpenSpec.ofChange spanCutsSpec)

/-- ITS FALSE NEIGHBOUR: 'it returns false'. Refute it at one input. -/
def spanCutsWrong : ChangeSpec := { name := "spanCuts", fn := fun _ => fun
  | [d1, d2] => { results := [.lit (.bool false)], args := [d1, d2] }
  | _ => none }
def SpanCutsWrongFalsely : Prop := spanCutsRow.holds Try.pinned (OpenSpec.ofChange spanCutsWrong)

/-- 'gazetteerlaw5.SpanAsks': WHATEVER THE INPUT: true; the input reads as it did. -/
def spanAsksSpec : ChangeSpec := { name := "spanAsks", fn := fun _ => fun
  | [d1, d2, d3] => { results := [.lit (.bool true)], args := [d1, d2, d3] }
  | _ => none }
def spanAsksRow : OpenClaim := { program := "ytbfllekkbmeibaa", sum := "ea20b90bc14710b7e0231f8d75a2de791f4d71e9a8277eb3c057ce11c04cd0c8", func := "gazetteer/gazetteerlaw5.SpanAsks", spec := "spanAsks", apart := false }
def SpanAsksSaid : Prop := spanAsksRow.holds Try.pinned (OpenSpec.ofChange spanAsksSpec)

/-- ITS FALSE NEIGHBOUR: 'it returns false'. Refute it at one input. -/
def spanAsksWrong : ChangeSpec := { name := "spanAsks", fn := fun _ => fun
  | [d1, d2, d3] => { results := [.lit (.bool false)], args := [d1, d2, d3] }
  | _ => none }
def SpanAsksWrongFalsely : Prop := spanAsksRow.holds Try.pinned (OpenSpec.ofChange spanAsksWrong)

/-- 'gazetteerlaw5.SpanMeets': WHATEVER THE INPUT: true; the input reads as it did. -/
def spanMeetsSpec : ChangeSpec := { name := "spanMeets", fn := fun _ => fun
  | [d1, d2, d3] => { results := [.lit (.bool true)], args := [d1, d2, d3] }
  | _ => none }
def spanMeetsRow : OpenClaim := { program := "ytbfllekkbmeibaa", sum := "ea20b90bc14710b7e0231f8d75a2de791f4d71e9a8277eb3c057ce11c04cd0c8", func := "gazetteer/gazetteerlaw5.SpanMeets", spec := "spanMeets", apart := false }
def SpanMeetsSaid : Prop := spanMeetsRow.holds Try.pinned (OpenSpec.ofChange spanMeetsSpec)

/-- ITS FALSE NEIGHBOUR: 'it returns false'. Refute it at one input. -/
def spanMeetsWrong : ChangeSpec := { name := "spanMeets", fn := fun _ => fun
  | [d1, d2, d3] => { results := [.lit (.bool false)], args := [d1, d2, d3] }
  | _ => none }
def SpanMeetsWrongFalsely : Prop := spanMeetsRow.holds Try.pinned (OpenSpec.ofChange spanMeetsWrong)

/-- 'gazetteerlaw5.SpanFinds': WHATEVER THE INPUT: true; the input reads as it did. -/
def spanFindsSpec : ChangeSpec := { name := "spanFinds", fn := fun _ => fun
  | [d1, d2, d3] => { results := [.lit (.bool true)], args := [d1, d2, d3] }
  | _ => none }
def spanFindsRow : OpenClaim := { program := "ytbfllekkbmeibaa", sum := "ea20b90bc14710b7e0231f8d75a2de791f4d71e9a8277eb3c057ce11c04cd0c8", func := "gazetteer/gazetteerlaw5.SpanFinds", spec := "spanFinds", unfollowed := true, recurses := true, apart := false }
def SpanFindsSaid : Prop := spanFindsRow.holds Try.pinned (OpenSpec.ofChange spanFindsSpec)

/-- ITS FALSE NEIGHBOUR: 'it returns false'. Refute it at one input. -/
def spanFindsWrong : ChangeSpec := { name := "spanFinds", fn := fun _ => fun
  | [d1, d2, d3] => { results := [.lit (.bool false)], args := [d1, d2, d3] }
  | _ => none }
def SpanFindsWrongFalsely : Prop := spanFindsRow.holds Try.pinned (OpenSpec.ofChange spanFindsWrong)

/-- 'gazetteerlaw13.LeaseReckons': WHATEVER THE INPUT: true; the input reads as it did. -/
def leaseReckonsSpec : ChangeSpec := { name := "leaseReckons", fn := fun _ => fun
  | [d1, d2, d3] => { results := [.lit (.bool true)], args := [d1, d2, d3] }
  | _ => none }
def leaseReckonsRow : OpenClaim := { program := "ytbfllekkbmeibaa", sum := "ea20b90bc14710b7e0231f8d75a2de791f4d71e9a8277eb3c057ce11c04cd0c8", func := "gazetteer/gazetteerlaw13.LeaseReckons", spec := "leaseReckons", unfollowed := true, recurses := true, apart := false }
def LeaseReckonsSaid : Prop := leaseReckonsRow.holds Try.pinned (OpenSpec.ofChange leaseReckonsSpec)

/-- ITS FALSE NEIGHBOUR: 'it returns false'. Refute it at one input. -/
def leaseReckonsWrong : ChangeSpec := { name := "leaseReckons", fn := fun _ => fun
  | [d1, d2, d3] => { results := [.lit (.bool false)], args := [d1, d2, d3] }
  | _ => none }
def LeaseReckonsWrongFalsely : Prop := leaseReckonsRow.holds Try.pinned (OpenSpec.ofChange leaseReckonsWrong)

/-- 'gazetteerlaw13.LeaseKnown': WHATEVER THE INPUT: true; the input reads as it did. -/
def leaseKnownSpec : ChangeSpec := { name := "leaseKnown", fn := fun _ => fun
  | [] => { results := [.lit (.bool true)], args := [] }
  | _ => none }
def leaseKnownRow : OpenClaim := { program := "ytbfllekkbmeibaa", sum := "ea20b90bc14710b7e0231f8d75a2de791f4d71e9a8277eb3c057ce11c04cd0c8", func := "gazetteer/gazetteerlaw13.LeaseKnown", spec := "leaseKnown", unfollowed := true, recurses := true, apart := false }
def LeaseKnownSaid : Prop := leaseKnownRow.holds Try.pinned (OpenSpec.ofChange leaseKnownSpec)

/-- ITS FALSE NEIGHBOUR: 'it returns false'. Refute it at one input. -/
def leaseKnownWrong : ChangeSpec := { name := "leaseKnown", fn := fun _ => fun
  | [] => { results := [.lit (.bool false)], args := [] }
  | _ => none }
def LeaseKnownWrongFalsely : Prop := leaseKnownRow.holds Try.pinned (OpenSpec.ofChange leaseKnownWrong)

/-- 'gazetteerlaw13.LeaseLater': WHATEVER THE INPUT: true; the input reads as it did. -/
def leaseLaterSpec : ChangeSpec := { name := "leaseLater", fn := fun _ => fun
  | [d1, d2, d3] => { results := [.lit (.bool true)], args := [d1, d2, d3] }
  | _ => none }
def leaseLaterRow : OpenClaim := { program := "ytbfllekkbmeibaa", sum := "ea20b90bc14710b7e0231f8d75a2de791f4d71e9a8277eb3c057ce11c04cd0c8", func := "gazetteer/gazetteerlaw13.LeaseLater", spec := "leaseLater", unfollowed := true, recurses := true, apart := false }
def LeaseLaterSaid : Prop := leaseLaterRow.holds Try.pinned (OpenSpec.ofChange leaseLaterSpec)

/-- ITS FALSE NEIGHBOUR: 'it returns false'. Refute it at one input. -/
def leaseLaterWrong : ChangeSpec := { name := "leaseLater", fn := fun _ => fun
  | [d1, d2, d3] => { results := [.lit (.bool false)], args := [d1, d2, d3] }
  | _ => none }
def LeaseLaterWrongFalsely : Prop := leaseLaterRow.holds Try.pinned (OpenSpec.ofChange leaseLaterWrong)

/- THE SECOND FORM. 'bulk': how many values and letters a reading holds, each counted each time it is reached (what is shared counts as often as it is met; a slice's spare places count too). A statement '..UptoSaid' is the law's where the arguments, and the package variables that the reading takes, are together of bulk at most 1048576: NARROWER than '..Said'. Prove '..Said' where nothing that the law and all that it calls make is longer than what came in: it says more and counts as full. Else prove '..UptoSaid'. A law counts once. -/
mutual
def uptoBulk {H : Type} : DataW H → Nat
  | .lit (.string bytes) => bytes.length + 1
  | .lit _ => 1
  | .nil => 1
  | .ptr d => uptoBulk d + 1
  | .slice elems spare => uptoBulkAll elems + uptoBulkAll spare + 1
  | .agg parts => uptoBulkAll parts + 1
  | .iface _ d => uptoBulk d + 1
  | .map entries => uptoBulkEntries entries + 1
  | .held _ => 1
def uptoBulkAll {H : Type} : List (DataW H) → Nat
  | [] => 0
  | d :: r => uptoBulk d + uptoBulkAll r
def uptoBulkEntries {H : Type} : List (Lit × DataW H) → Nat
  | [] => 0
  | x :: r => uptoBulkEntry x + uptoBulkEntries r
def uptoBulkEntry {H : Type} : Lit × DataW H → Nat
  | (.string bytes, d) => bytes.length + uptoBulk d + 1
  | (_, d) => uptoBulk d + 1
 end
def uptoSmall : (H : Type) → List (DataW H) → Bool := fun _ ds => decide (uptoBulkAll ds ≤ 1048576)
def OpenSpec.upto (s : _root_.Go.ChangeSpec) : _root_.Go.OpenSpec := { _root_.Go.OpenSpec.ofChange s with cond := some uptoSmall }

/-- 'gazetteerlaw13.LeaseEnds', WHERE WHAT IT READS IS OF BULK AT MOST 1048576: true; the input reads as it did. -/
def leaseEndsUptoRow : OpenClaim := { program := "ytbfllekkbmeibaa", sum := "ea20b90bc14710b7e0231f8d75a2de791f4d71e9a8277eb3c057ce11c04cd0c8", func := "gazetteer/gazetteerlaw13.LeaseEnds", spec := "leaseEnds", apart := false, narrowed := true }
def LeaseEndsUptoSaid : Prop := leaseEndsUptoRow.holds Try.pinned (OpenSpec.upto leaseEndsSpec)

/-- 'gazetteerlaw13.LeaseTicks', WHERE WHAT IT READS IS OF BULK AT MOST 1048576: true; the input reads as it did. -/
def leaseTicksUptoRow : OpenClaim := { program := "ytbfllekkbmeibaa", sum := "ea20b90bc14710b7e0231f8d75a2de791f4d71e9a8277eb3c057ce11c04cd0c8", func := "gazetteer/gazetteerlaw13.LeaseTicks", spec := "leaseTicks", apart := false, narrowed := true }
def LeaseTicksUptoSaid : Prop := leaseTicksUptoRow.holds Try.pinned (OpenSpec.upto leaseTicksSpec)

/-- 'gazetteerlaw5.SpanCuts', WHERE WHAT IT READS IS OF BULK AT MOST 1048576: true; the input reads as it did. -/
def spanCutsUptoRow : OpenClaim := { program := "ytbfllekkbmeibaa", sum := "ea20b90bc14710b7e0231f8d75a2de791f4d71e9a8277eb3c057ce11c04cd0c8", func := "gazetteer/gazetteerlaw5.SpanCuts", spec := "spanCuts", apart := false, narrowed := true }
def SpanCutsUptoSaid : Prop := spanCutsUptoRow.holds Try.pinned (OpenSpec.upto spanCutsSpec)

/-- 'gazetteerlaw5.SpanAsks', WHERE WHAT IT READS IS OF BULK AT MOST 1048576: true; the input reads as it did. -/
def spanAsksUptoRow : OpenClaim := { program := "ytbfllekkbmeibaa", sum := "ea20b90bc14710b7e0231f8d75a2de791f4d71e9a8277eb3c057ce11c04cd0c8", func := "gazetteer/gazetteerlaw5.SpanAsks", spec := "spanAsks", apart := false, narrowed := true }
def SpanAsksUptoSaid : Prop := spanAsksUptoRow.holds Try.pinned (OpenSpec.upto spanAsksSpec)

/-- 'gazetteerlaw5.SpanMeets', WHERE WHAT IT READS IS OF BULK AT MOST 1048576: true; the input reads as it did. -/
def spanMeetsUptoRow : OpenClaim := { program := "ytbfllekkbmeibaa", sum := "ea20b90bc14710b7e0231f8d75a2de791f4d71e9a8277eb3c057ce11c04cd0c8", func := "gazetteer/gazetteerlaw5.SpanMeets", spec := "spanMeets", apart := false, narrowed := true }
def SpanMeetsUptoSaid : Prop := spanMeetsUptoRow.holds Try.pinned (OpenSpec.upto spanMeetsSpec)

/-- 'gazetteerlaw5.SpanFinds', WHERE WHAT IT READS IS OF BULK AT MOST 1048576: true; the input reads as it did. -/
def spanFindsUptoRow : OpenClaim := { program := "ytbfllekkbmeibaa", sum := "ea20b90bc14710b7e0231f8d75a2de791f4d71e9a8277eb3c057ce11c04cd0c8", func := "gazetteer/gazetteerlaw5.SpanFinds", spec := "spanFinds", unfollowed := true, recurses := true, apart := false, narrowed := true }
def SpanFindsUptoSaid : Prop := spanFindsUptoRow.holds Try.pinned (OpenSpec.upto spanFindsSpec)

/-- 'gazetteerlaw13.LeaseReckons', WHERE WHAT IT READS IS OF BULK AT MOST 1048576: true; the input reads as it did. -/
def leaseReckonsUptoRow : OpenClaim := { program := "ytbfllekkbmeibaa", sum := "ea20b90bc14710b7e0231f8d75a2de791f4d71e9a8277eb3c057ce11c04cd0c8", func := "gazetteer/gazetteerlaw13.LeaseReckons", spec := "leaseReckons", unfollowed := true, recurses := true, apart := false, narrowed := true }
def LeaseReckonsUptoSaid : Prop := leaseReckonsUptoRow.holds Try.pinned (OpenSpec.upto leaseReckonsSpec)

/-- 'gazetteerlaw13.LeaseKnown', WHERE WHAT IT READS IS OF BULK AT MOST 1048576: true; the input reads as it did. -/
def leaseKnownUptoRow : OpenClaim := { program := "ytbfllekkbmeibaa", sum := "ea20b90bc14710b7e0231f8d75a2de791f4d71e9a8277eb3c057ce11c04cd0c8", func := "gazetteer/gazetteerlaw13.LeaseKnown", spec := "leaseKnown", unfollowed := true, recurses := true, apart := false, narrowed := true }
def LeaseKnownUptoSaid : Prop := leaseKnownUptoRow.holds Try.pinned (OpenSpec.upto leaseKnownSpec)

/-- 'gazetteerlaw13.LeaseLater', WHERE WHAT IT READS IS OF BULK AT MOST 1048576: true; the input reads as it did. -/
def leaseLaterUptoRow : OpenClaim := { program := "ytbfllekkbmeibaa", sum := "ea20b90bc14710b7e0231f8d75a2de791f4d71e9a8277eb3c057ce11c04cd0c8", func := "gazetteer/gazetteerlaw13.LeaseLater", spec := "leaseLater", unfollowed := true, recurses := true, apart := false, narrowed := true }
def LeaseLaterUptoSaid : Prop := leaseLaterUptoRow.holds Try.pinned (OpenSpec.upto leaseLaterSpec)

end Rows
end Go.Proofs.Ytbfllekkbmeibaa

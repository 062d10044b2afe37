/-
  No cell of these rows narrows 'for every input' (looked for: loops, veiled, ifaces, maps, wideKeys, modest, calm, conditions, laid).
  DERIVED. THE GIVEN ROWS OF THIS SEAT. 8 by the template 'for every input the law returns true; each argument reads behind the call as it read before'; 0 by the template 'total and deterministic' (their statements: YtkolcgofhjbebaaTotals.lean).
  GIVEN WITH THE SEED: the statements are not yours to turn. If you find one false, say at which input.
  Laid BY PROGRAM, IN A SANDBOX (cutbox-rows.mjs): the forced cells as the released guide's own fill.sh prints them over the translation 9806c04b9a1c4878… (all of the seat's roots in one cut). By AI agents, Wed Nov 11 2026. No macro, syntax, notation, axiom, sorry.
-/
import Derived.Test.YtkolcgofhjbebaaChecked
import GoSem.Claim
import GoSem.ClaimJoined
import GoSem.ClaimMapViews
import Derived.JoinedTies
import Derived.KernelRfl
namespace Go.Proofs.Ytkolcgofhjbebaa
/- THE CELL 'sum', in the pinned program and in every row, IS THE sha256 OF THE DUMP (.gsa) THAT YtkolcgofhjbebaaProg.lean LOADS. Nothing in Lean hashes anything: it is a label: what it is worth is what the hold of that sum in a sandbox is worth. -/
noncomputable def Try.pinned : Pinned := { name := "ytkolcgofhjbebaa", sum := "9806c04b9a1c487827c1e58d5c98853112a1d04203daf61f9f70f8d9bcd9688c", checked := Try.checked }
namespace Rows
def none {H : Type} : Left H := { results := [], args := [] }

/-- 'gazetteerlaw10.MediumKeeps': WHATEVER THE INPUT: true; the input reads as it did. -/
def mediumKeepsSpec : ChangeSpec := { name := "mediumKeeps", fn := fun _ => fun
  | [d1, d2, d3] => { results := [.lit (.bool true)], args := [d1, d2, d3] }
  | _ => none }
def mediumKeepsRow : OpenClaim := { program := "ytkolcgofhjbebaa", sum := "9806c04b9a1c487827c1e58d5c98853112a1d04203daf61f9f70f8d9bcd9688c", func := "gazetteer/gazetteerlaw10.MediumKeeps", spec := "mediumKeeps", apart := false }
def MediumKeepsSaid : Prop := mediumKeepsRow.holds Try.pinned (OpenSpec.ofChange mediumKeepsSpec)

/-- ITS FALSE NEIGHBOUR: 'it returns false'. Refute it at one input. -/
def mediumKeepsWrong : ChangeSpec := { name := "mediumKeeps", fn := fun _ => fun
  | [d1, d2, d3] => { results := [.lit (.bool false)], args := [d1, d2, d3] }
  | _ => none }
def MediumKeepsWrongFalsely : Prop := mediumKeepsRow.holds Try.pinned (OpenSpec.ofChange mediumKeepsWrong)

/-- 'gazetteerlaw10.MediumNone': WHATEVER THE INPUT: true; the input reads as it did. -/
def mediumNoneSpec : ChangeSpec := { name := "mediumNone", fn := fun _ => fun
  | [] => { results := [.lit (.bool true)], args := [] }
  | _ => none }
def mediumNoneRow : OpenClaim := { program := "ytkolcgofhjbebaa", sum := "9806c04b9a1c487827c1e58d5c98853112a1d04203daf61f9f70f8d9bcd9688c", func := "gazetteer/gazetteerlaw10.MediumNone", spec := "mediumNone", apart := false }
def MediumNoneSaid : Prop := mediumNoneRow.holds Try.pinned (OpenSpec.ofChange mediumNoneSpec)

/-- ITS FALSE NEIGHBOUR: 'it returns false'. Refute it at one input. -/
def mediumNoneWrong : ChangeSpec := { name := "mediumNone", fn := fun _ => fun
  | [] => { results := [.lit (.bool false)], args := [] }
  | _ => none }
def MediumNoneWrongFalsely : Prop := mediumNoneRow.holds Try.pinned (OpenSpec.ofChange mediumNoneWrong)

/-- 'gazetteerlaw8.SealFrames': WHATEVER THE INPUT: true; the input reads as it did. -/
def sealFramesSpec : ChangeSpec := { name := "sealFrames", fn := fun _ => fun
  | [d1, d2, d3] => { results := [.lit (.bool true)], args := [d1, d2, d3] }
  | _ => none }
def sealFramesRow : OpenClaim := { program := "ytkolcgofhjbebaa", sum := "9806c04b9a1c487827c1e58d5c98853112a1d04203daf61f9f70f8d9bcd9688c", func := "gazetteer/gazetteerlaw8.SealFrames", spec := "sealFrames", apart := false }
def SealFramesSaid : Prop := sealFramesRow.holds Try.pinned (OpenSpec.ofChange sealFramesSpec)

/-- ITS FALSE NEIGHBOUR: 'it returns false'. Refute it at one input. -/
def sealFramesWrong : ChangeSpec := { name := "sealFrames", fn := fun _ => fun
  | [d1, d2, d3] => { results := [.lit (.bool false)], args := [d1, d2, d3] }
  | _ => none }
def SealFramesWrongFalsely : Prop := sealFramesRow.holds Try.pinned (OpenSpec.ofChange sealFramesWrong)

/-- 'gazetteerlaw10.MediumPlays': WHATEVER THE INPUT: true; the input reads as it did. -/
def mediumPlaysSpec : ChangeSpec := { name := "mediumPlays", fn := fun _ => fun
  | [d1, d2] => { results := [.lit (.bool true)], args := [d1, d2] }
  | _ => none }
def mediumPlaysRow : OpenClaim := { program := "ytkolcgofhjbebaa", sum := "9806c04b9a1c487827c1e58d5c98853112a1d04203daf61f9f70f8d9bcd9688c", func := "gazetteer/gazetteerlaw10.MediumPlays", spec := "mediumPlays", apart := false }
def MediumPlaysSaid : Prop := mediumPlaysRow.holds Try.pinned (OpenSpec.ofChange mediumPlaysSpec)

/-- ITS FALSE NEIGHBOUR: 'it returns false'. Refute it at one input. -/
def mediumPlaysWrong : ChangeSpec := { name := "mediumPlays", fn := fun _ => fun
  | [d1, d2] => { results := [.lit (.bool false)], args := [d1, d2] }
  | _ => none }
def MediumPlaysWrongFalsely : Prop := mediumPlaysRow.holds Try.pinned (OpenSpec.ofChange mediumPlaysWrong)

/-- 'gazetteerlaw10.MediumHands': WHATEVER THE INPUT: true; the input reads as it did. -/
def mediumHandsSpec : ChangeSpec := { name := "mediumHands", fn := fun _ => fun
  | [d1, d2] => { results := [.lit (.bool true)], args := [d1, d2] }
  | _ => none }
def mediumHandsRow : OpenClaim := { program := "ytkolcgofhjbebaa", sum := "9806c04b9a1c487827c1e58d5c98853112a1d04203daf61f9f70f8d9bcd9688c", func := "gazetteer/gazetteerlaw10.MediumHands", spec := "mediumHands", apart := false }
def MediumHandsSaid : Prop := mediumHandsRow.holds Try.pinned (OpenSpec.ofChange mediumHandsSpec)

/-- ITS FALSE NEIGHBOUR: 'it returns false'. Refute it at one input. -/
def mediumHandsWrong : ChangeSpec := { name := "mediumHands", fn := fun _ => fun
  | [d1, d2] => { results := [.lit (.bool false)], args := [d1, d2] }
  | _ => none }
def MediumHandsWrongFalsely : Prop := mediumHandsRow.holds Try.pinned (OpenSpec.ofChange mediumHandsWrong)

/-- 'gazetteerlaw8.SealCuts': WHATEVER THE INPUT: true; the input reads as it did. -/
def sealCutsSpec : ChangeSpec := { name := "sealCuts", fn := fun _ => fun
  | [d1, d2, d3] => { results := [.lit (.bool true)], args := [d1, d2, d3] }
  | _ => none }
def sealCutsRow : OpenClaim := { program := "ytkolcgofhjbebaa", sum := "9806c04b9a1c487827c1e58d5c98853112a1d04203daf61f9f70f8d9bcd9688c", func := "gazetteer/gazetteerlaw8.SealCuts", spec := "sealCuts", apart := false }
def SealCutsSaid : Prop := sealCutsRow.holds Try.pinned (OpenSpec.ofChange sealCutsSpec)

/-- ITS FALSE NEIGHBOUR: 'it returns false'. Refute it at one input. -/
def sealCutsWrong : ChangeSpec := { name := "sealCuts", fn := fun _ => fun
  | [d1, d2, d3] => { results := [.lit (.bool false)], args := [d1, d2, d3] }
  | _ => none }
def SealCutsWrongFalsely : Prop := sealCutsRow.holds Try.pinned (OpenSpec.ofChange sealCutsWrong)

/-- 'gazetteerlaw8.SealKinds': WHATEVER THE INPUT: true; the input reads as it did. -/
def sealKindsSpec : ChangeSpec := { name := "sealKinds", fn := fun _ => fun
  | [d1, d2] => { results := [.lit (.bool true)], args := [d1, d2] }
  | _ => none }
def sealKindsRow : OpenClaim := { program := "ytkolcgofhjbebaa", sum := "9806c04b9a1c487827c1e58d5c98853112a1d04203daf61f9f70f8d9bcd9688c", func := "gazetteer/gazetteerlaw8.SealKinds", spec := "sealKinds", apart := false }
def SealKindsSaid : Prop := sealKindsRow.holds Try.pinned (OpenSpec.ofChange sealKindsSpec)

/-- ITS FALSE NEIGHBOUR: 'it returns false'. Refute it at one input. -/
def sealKindsWrong : ChangeSpec := { name := "sealKinds", fn := fun _ => fun
  | [d1, d2] => { results := [.lit (.bool false)], args := [d1, d2] }
  | _ => none }
def SealKindsWrongFalsely : Prop := sealKindsRow.holds Try.pinned (OpenSpec.ofChange sealKindsWrong)

/-- 'gazetteerlaw8.SealKnown': WHATEVER THE INPUT: true; the input reads as it did. -/
def sealKnownSpec : ChangeSpec := { name := "sealKnown", fn := fun _ => fun
  | [] => { results := [.lit (.bool true)], args := [] }
  | _ => none }
def sealKnownRow : OpenClaim := { program := "ytkolcgofhjbebaa", sum := "9806c04b9a1c487827c1e58d5c98853112a1d04203daf61f9f70f8d9bcd9688c", func := "gazetteer/gazetteerlaw8.SealKnown", spec := "sealKnown", apart := false }
def SealKnownSaid : Prop := sealKnownRow.holds Try.pinned (OpenSpec.ofChange sealKnownSpec)

/-- ITS FALSE NEIGHBOUR: 'it returns false'. Refute it at one input. -/
def sealKnownWrong : ChangeSpec := { name := "sealKnown", fn := fun _ => fun
  | [] => { results := [.lit (.bool false)], args := [] }
  | _ => none }
def SealKnownWrongFalsely : Prop := sealKnownRow.holds Try.pinned (OpenSpec.ofChange sealKnownWrong)

/- THE SECOND FORM. 'bulk': how many values and letters a reading holds, each counted each time it is reached (what is shared counts as often as it is met; a slice's spare places count too). A statement '..UptoSaid' is the law's where the arguments, and the package variables that the reading takes, are together of bulk at most 1048576: NARROWER than '..Said'. Prove '..Said' where nothing that the law and all that it calls make is longer than what came in: it says more and counts as full. Else prove '..UptoSaid'. A law counts once. -/
mutual
def uptoBulk {H : Type} : DataW H → Nat
  | .lit (.string bytes) => bytes.length + 1
  | .lit _ => 1
  | .nil => 1
  | .ptr d => uptoBulk d + 1
  | .slice elems spare => uptoBulkAll elems + uptoBulkAll spare + 1
  | .agg parts => uptoBulkAll parts + 1
  | .iface _ d => uptoBulk d + 1
  | .map entries => uptoBulkEntries entries + 1
  | .held _ => 1
def uptoBulkAll {H : Type} : List (DataW H) → Nat
  | [] => 0
  | d :: r => uptoBulk d + uptoBulkAll r
def uptoBulkEntries {H : Type} : List (Lit × DataW H) → Nat
  | [] => 0
  | x :: r => uptoBulkEntry x + uptoBulkEntries r
def uptoBulkEntry {H : Type} : Lit × DataW H → Nat
  | (.string bytes, d) => bytes.length + uptoBulk d + 1
  | (_, d) => uptoBulk d + 1
 end
def uptoSmall : (H : Type) → List (DataW H) → Bool := fun _ ds => decide (uptoBulkAll ds ≤ 1048576)
def OpenSpec.upto (s : _root_.Go.ChangeSpec) : _root_.Go.OpenSpec := { _root_.Go.OpenSpec.ofChange s with cond := some uptoSmall }

/-- 'gazetteerlaw10.MediumKeeps', WHERE WHAT IT READS IS OF BULK AT MOST 1048576: true; the input reads as it did. -/
def mediumKeepsUptoRow : OpenClaim := { program := "ytkolcgofhjbebaa", sum := "9806c04b9a1c487827c1e58d5c98853112a1d04203daf61f9f70f8d9bcd9688c", func := "gazetteer/gazetteerlaw10.MediumKeeps", spec := "mediumKeeps", apart := false, narrowed := true }
def MediumKeepsUptoSaid : Prop := mediumKeepsUptoRow.holds Try.pinned (OpenSpec.upto mediumKeepsSpec)

/-- 'gazetteerlaw10.MediumNone', WHERE WHAT IT READS IS OF BULK AT MOST 1048576: true; the input reads as it did. -/
def mediumNoneUptoRow : OpenClaim := { program := "ytkolcgofhjbebaa", sum := "9806c04b9a1c487827c1e58d5c98853112a1d04203daf61f9f70f8d9bcd9688c", func := "gazetteer/gazetteerlaw10.MediumNone", spec := "mediumNone", apart := false, narrowed := true }
def MediumNoneUptoSaid : Prop := mediumNoneUptoRow.holds Try.pinned (OpenSpec.upto mediumNoneSpec)

/-- 'gazetteerlaw8.SealFrames', WHERE WHAT IT READS IS OF BULK AT MOST 1048576: true; the input reads as it did. -/
def sealFramesUptoRow : OpenClaim := { program := "ytkolcgofhjbebaa", sum := "9806c04b9a1c487827c1e58d5c98853112a1d04203daf61f9f70f8d9bcd9688c", func := "gazetteer/gazetteerlaw8.SealFrames", spec := "sealFrames", apart := false, narrowed := true }
def SealFramesUptoSaid : Prop := sealFramesUptoRow.holds Try.pinned (OpenSpec.upto sealFramesSpec)

/-- 'gazetteerlaw10.MediumPlays', WHERE WHAT IT READS IS OF BULK AT MOST 1048576: true; the input reads as it did. -/
def mediumPlaysUptoRow : OpenClaim := { program := "ytkolcgofhjbebaa", sum := "9806c04b9a1c487827c1e58d5c98853112a1d04203daf61f9f70f8d9bcd9688c", func := "gazetteer/gazetteerlaw10.MediumPlays", spec := "mediumPlays", apart := false, narrowed := true }
def MediumPlaysUptoSaid : Prop := mediumPlaysUptoRow.holds Try.pinned (OpenSpec.upto mediumPlaysSpec)

/-- 'gazetteerlaw10.MediumHands', WHERE WHAT IT READS IS OF BULK AT MOST 1048576: true; the input reads as it did. -/
def mediumHandsUptoRow : OpenClaim := { program := "ytkolcgofhjbebaa", sum := "9806c04b9a1c487827c1e58d5c98853112a1d04203daf61f9f70f8d9bcd9688c", func := "gazetteer/gazetteerlaw10.MediumHands", spec := "mediumHands", apart := false, narrowed := true }
def MediumHandsUptoSaid : Prop := mediumHandsUptoRow.holds Try.pinned (OpenSpec.upto mediumHandsSpec)

/-- 'gazetteerlaw8.SealCuts', WHERE WHAT IT READS IS OF BULK AT MOST 1048576: true; the input reads as it did. -/
def sealCutsUptoRow : OpenClaim := { program := "ytkolcgofhjbebaa", sum := "9806c04b9a1c487827c1e58d5c98853112a1d04203daf61f9f70f8d9bcd9688c", func := "gazetteer/gazetteerlaw8.SealCuts", spec := "sealCuts", apart := false, narrowed := true }
def SealCutsUptoSaid : Prop := sealCutsUptoRow.holds Try.pinned (OpenSpec.upto sealCutsSpec)

/-- 'gazetteerlaw8.SealKinds', WHERE WHAT IT READS IS OF BULK AT MOST 1048576: true; the input reads as it did. -/
def sealKindsUptoRow : OpenClaim := { program := "ytkolcgofhjbebaa", sum := "9806c04b9a1c487827c1e58d5c98853112a1d04203daf61f9f70f8d9bcd9688c", func := "gazetteer/gazetteerlaw8.SealKinds", spec := "sealKinds", apart := false, narrowed := true }
def SealKindsUptoSaid : Prop := sealKindsUptoRow.holds Try.pinned (OpenSpec.upto sealKindsSpec)

/-- 'gazetteerlaw8.SealKnown', WHERE WHAT IT READS IS OF BULK AT MOST 1048576: true; the input reads as it did. -/
def sealKnownUptoRow : OpenClaim := { program := "ytkolcgofhjbebaa", sum := "9806c04b9a1c487827c1e58d5c98853112a1d04203daf61f9f70f8d9bcd9688c", func := "gazetteer/gazetteerlaw8.SealKnown", spec := "sealKnown", apart := false, narrowed := true }
def SealKnownUptoSaid : Prop := sealKnownUptoRow.holds Try.pinned (OpenSpec.upto sealKnownSpec)

end Rows
end Go.Proofs.Ytkolcgofhjbebaa

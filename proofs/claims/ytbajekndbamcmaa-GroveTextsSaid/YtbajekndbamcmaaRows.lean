/-
  No cell of these rows narrows 'for every input' (looked for: loops, veiled, ifaces, maps, wideKeys, modest, calm, conditions, laid).
  DERIVED. THE GIVEN ROWS OF THIS SEAT. 8 by the template 'for every input the law returns true; each argument reads behind the call as it read before'; 0 by the template 'total and deterministic' (their statements: YtbajekndbamcmaaTotals.lean).
  GIVEN WITH THE SEED: the statements are not yours to turn. If you find one false, say at which input.
  Laid BY PROGRAM, IN A SANDBOX (cutbox-rows.mjs): the forced cells as the released guide's own fill.sh prints them over the translation 9bde3fa63d331d85… (all of the seat's roots in one cut). By AI agents, Wed Nov 11 2026. No macro, syntax, notation, axiom, sorry.
-/
import Derived.Test.YtbajekndbamcmaaChecked
import GoSem.Claim
import GoSem.ClaimJoined
import GoSem.ClaimMapViews
import Derived.JoinedTies
import Derived.KernelRfl
namespace Go.Proofs.Ytbajekndbamcmaa
/- THE CELL 'sum', in the pinned program and in every row, IS THE sha256 OF THE DUMP (.gsa) THAT YtbajekndbamcmaaProg.lean LOADS. Nothing in Lean hashes anything: it is a label: what it is worth is what the hold of that sum in a sandbox is worth. -/
noncomputable def Try.pinned : Pinned := { name := "ytbajekndbamcmaa", sum := "9bde3fa63d331d85546cbc525c0ab138b2fb09aa4f2776697af079c98403874a", checked := Try.checked }
namespace Rows
def none {H : Type} : Left H := { results := [], args := [] }

/-- 'gazetteerlaw14.AtlasOwns': WHATEVER THE INPUT: true; the input reads as it did. -/
def atlasOwnsSpec : ChangeSpec := { name := "atlasOwns", fn := fun _ => fun
  | [d1, d2] => { results := [.lit (.bool true)], args := [d1, d2] }
  | _ => none }
def atlasOwnsRow : OpenClaim := { program := "ytbajekndbamcmaa", sum := "9bde3fa63d331d85546cbc525c0ab138b2fb09aa4f2776697af079c98403874a", func := "gazetteer/gazetteerlaw14.AtlasOwns", spec := "atlasOwns", unfollowed := true, recurses := true, apart := false }
def AtlasOwnsSaid : Prop := atlasOwnsRow.holds Try.pinned (OpenSpec.ofChange atlasOwnsSpec)

/-- ITS FALSE NEIGHBOUR: 'it returns false'. Refute it at one input. -/
def atlasOwnsWrong : ChangeSpec := { name := "atlasOwns", fn := fun _ => fun
  | [d1, d2] => { results := [.lit (.bool false)], args := [d1, d2] }
  | _ => none }
def AtlasOwnsWrongFalsely : Prop := atlasOwnsRow.holds Try.pinned (OpenSpec.ofChange atlasOwnsWrong)

/-- 'gazetteerlaw6.GroveTexts': WHATEVER THE INPUT: true; the input reads as it did. -/
def groveTextsSpec : ChangeSpec := { name := "groveTexts", fn := fun _ => fun
  | [d1, d2, d3] => { results := [.lit (.bool true)], args := [d1, d2, d3] }
  | _ => none }
def groveTextsRow : OpenClaim := { program := "ytbajekndbamcmaa", sum := "9bde3fa63d331d85546cbc525c0ab138b2fb09aa4f2776697af079c98403874a", func := "gazetteer/gazetteerlaw6.GroveTexts", spec := "groveTexts", unfollowed := true, recurses := true, apart := false }
def GroveTextsSaid : Prop := groveTextsRow.holds Try.pinned (OpenSpec.ofChange groveTextsSpec)

/-- ITS FALSE NEIGHBOUR: 'it returns false'. Refute it at one input. -/
def groveTextsWrong : ChangeSpec := { name := "groveTexts", fn := fun _ => fun
  | [d1, d2, d3] => { results := [.lit (.bool false)], args := [d1, d2, d3] }
  | _ => none }
def GroveTextsWrongFalsely : Prop := groveTextsRow.holds Try.pinned (OpenSpec.ofChange groveTextsWrong)

/-- 'gazetteerlaw14.AtlasGoes': WHATEVER THE INPUT: true; the input reads as it did. -/
def atlasGoesSpec : ChangeSpec := { name := "atlasGoes", fn := fun _ => fun
  | [d] => { results := [.lit (.bool true)], args := [d] }
  | _ => none }
def atlasGoesRow : OpenClaim := { program := "ytbajekndbamcmaa", sum := "9bde3fa63d331d85546cbc525c0ab138b2fb09aa4f2776697af079c98403874a", func := "gazetteer/gazetteerlaw14.AtlasGoes", spec := "atlasGoes", unfollowed := true, recurses := true, apart := false }
def AtlasGoesSaid : Prop := atlasGoesRow.holds Try.pinned (OpenSpec.ofChange atlasGoesSpec)

/-- ITS FALSE NEIGHBOUR: 'it returns false'. Refute it at one input. -/
def atlasGoesWrong : ChangeSpec := { name := "atlasGoes", fn := fun _ => fun
  | [d] => { results := [.lit (.bool false)], args := [d] }
  | _ => none }
def AtlasGoesWrongFalsely : Prop := atlasGoesRow.holds Try.pinned (OpenSpec.ofChange atlasGoesWrong)

/-- 'gazetteerlaw14.AtlasKnown': WHATEVER THE INPUT: true; the input reads as it did. -/
def atlasKnownSpec : ChangeSpec := { name := "atlasKnown", fn := fun _ => fun
  | [] => { results := [.lit (.bool true)], args := [] }
  | _ => none }
def atlasKnownRow : OpenClaim := { program := "ytbajekndbamcmaa", sum := "9bde3fa63d331d85546cbc525c0ab138b2fb09aa4f2776697af079c98403874a", func := "gazetteer/gazetteerlaw14.AtlasKnown", spec := "atlasKnown", unfollowed := true, recurses := true, apart := false }
def AtlasKnownSaid : Prop := atlasKnownRow.holds Try.pinned (OpenSpec.ofChange atlasKnownSpec)

/-- ITS FALSE NEIGHBOUR: 'it returns false'. Refute it at one input. -/
def atlasKnownWrong : ChangeSpec := { name := "atlasKnown", fn := fun _ => fun
  | [] => { results := [.lit (.bool false)], args := [] }
  | _ => none }
def AtlasKnownWrongFalsely : Prop := atlasKnownRow.holds Try.pinned (OpenSpec.ofChange atlasKnownWrong)

/-- 'gazetteerlaw14.AtlasBack': WHATEVER THE INPUT: true; the input reads as it did. -/
def atlasBackSpec : ChangeSpec := { name := "atlasBack", fn := fun _ => fun
  | [d1, d2, d3] => { results := [.lit (.bool true)], args := [d1, d2, d3] }
  | _ => none }
def atlasBackRow : OpenClaim := { program := "ytbajekndbamcmaa", sum := "9bde3fa63d331d85546cbc525c0ab138b2fb09aa4f2776697af079c98403874a", func := "gazetteer/gazetteerlaw14.AtlasBack", spec := "atlasBack", unfollowed := true, recurses := true, apart := false }
def AtlasBackSaid : Prop := atlasBackRow.holds Try.pinned (OpenSpec.ofChange atlasBackSpec)

/-- ITS FALSE NEIGHBOUR: 'it returns false'. Refute it at one input. -/
def atlasBackWrong : ChangeSpec := { name := "atlasBack", fn := fun _ => fun
  | [d1, d2, d3] => { results := [.lit (.bool false)], args := [d1, d2, d3] }
  | _ => none }
def AtlasBackWrongFalsely : Prop := atlasBackRow.holds Try.pinned (OpenSpec.ofChange atlasBackWrong)

/-- 'gazetteerlaw6.GroveNone': WHATEVER THE INPUT: true; the input reads as it did. -/
def groveNoneSpec : ChangeSpec := { name := "groveNone", fn := fun _ => fun
  | [] => { results := [.lit (.bool true)], args := [] }
  | _ => none }
def groveNoneRow : OpenClaim := { program := "ytbajekndbamcmaa", sum := "9bde3fa63d331d85546cbc525c0ab138b2fb09aa4f2776697af079c98403874a", func := "gazetteer/gazetteerlaw6.GroveNone", spec := "groveNone", unfollowed := true, recurses := true, apart := false }
def GroveNoneSaid : Prop := groveNoneRow.holds Try.pinned (OpenSpec.ofChange groveNoneSpec)

/-- ITS FALSE NEIGHBOUR: 'it returns false'. Refute it at one input. -/
def groveNoneWrong : ChangeSpec := { name := "groveNone", fn := fun _ => fun
  | [] => { results := [.lit (.bool false)], args := [] }
  | _ => none }
def GroveNoneWrongFalsely : Prop := groveNoneRow.holds Try.pinned (OpenSpec.ofChange groveNoneWrong)

/-- 'gazetteerlaw6.GroveRows': WHATEVER THE INPUT: true; the input reads as it did. -/
def groveRowsSpec : ChangeSpec := { name := "groveRows", fn := fun _ => fun
  | [d1, d2, d3] => { results := [.lit (.bool true)], args := [d1, d2, d3] }
  | _ => none }
def groveRowsRow : OpenClaim := { program := "ytbajekndbamcmaa", sum := "9bde3fa63d331d85546cbc525c0ab138b2fb09aa4f2776697af079c98403874a", func := "gazetteer/gazetteerlaw6.GroveRows", spec := "groveRows", unfollowed := true, recurses := true, apart := false }
def GroveRowsSaid : Prop := groveRowsRow.holds Try.pinned (OpenSpec.ofChange groveRowsSpec)

/-- ITS FALSE NEIGHBOUR: 'it returns false'. Refute it at one input. -/
def groveRowsWrong : ChangeSpec := { name := "groveRows", fn := fun _ => fun
  | [d1, d2, d3] => { results := [.lit (.bool false)], args := [d1, d2, d3] }
  | _ => none }
def GroveRowsWrongFalsely : Prop := groveRowsRow.holds Try.pinned (OpenSpec.ofChange groveRowsWrong)

/-- 'gazetteerlaw6.GroveTakes': WHATEVER THE INPUT: true; the input reads as it did. -/
def groveTakesSpec : ChangeSpec := { name := "groveTakes", fn := fun _ => fun
  | [d1, d2, d3] => { results := [.lit (.bool true)], args := [d1, d2, d3] }
  | _ => none }
def groveTakesRow : OpenClaim := { program := "ytbajekndbamcmaa", sum := "9bde3fa63d331d85546cbc525c0ab138b2fb09aa4f2776697af079c98403874a", func := "gazetteer/gazetteerlaw6.GroveTakes", spec := "groveTakes", unfollowed := true, recurses := true, apart := false }
def GroveTakesSaid : Prop := groveTakesRow.holds Try.pinned (OpenSpec.ofChange groveTakesSpec)

/-- ITS FALSE NEIGHBOUR: 'it returns false'. Refute it at one input. -/
def groveTakesWrong : ChangeSpec := { name := "groveTakes", fn := fun _ => fun
  | [d1, d2, d3] => { results := [.lit (.bool false)], args := [d1, d2, d3] }
  | _ => none }
def GroveTakesWrongFalsely : Prop := groveTakesRow.holds Try.pinned (OpenSpec.ofChange groveTakesWrong)

/- THE SECOND FORM. 'bulk': how many values and letters a reading holds, each counted each time it is reached (what is shared counts as often as it is met; a slice's spare places count too). A statement '..UptoSaid' is the law's where the arguments, and the package variables that the reading takes, are together of bulk at most 1048576: NARROWER than '..Said'. Prove '..Said' where nothing that the law and all that it calls make is longer than what came in: it says more and counts as full. Else prove '..UptoSaid'. A law counts once. -/
mutual
def uptoBulk {H : Type} : DataW H → Nat
  | .lit (.string bytes) => bytes.length + 1
  | .lit _ => 1
  | .nil => 1
  | .ptr d => uptoBulk d + 1
  | .slice elems spare => uptoBulkAll elems + uptoBulkAll spare + 1
  | .agg parts => uptoBulkAll parts + 1
  | .iface _ d => uptoBulk d + 1
  | .map entries => uptoBulkEntries entries + 1
  | .held _ => 1
def uptoBulkAll {H : Type} : List (DataW H) → Nat
  | [] => 0
  | d :: r => uptoBulk d + uptoBulkAll r
def uptoBulkEntries {H : Type} : List (Lit × DataW H) → Nat
  | [] => 0
  | x :: r => uptoBulkEntry x + uptoBulkEntries r
def uptoBulkEntry {H : Type} : Lit × DataW H → Nat
  | (.string bytes, d) => bytes.length + uptoBulk d + 1
  | (_, d) => uptoBulk d + 1
 end
def uptoSmall : (H : Type) → List (DataW H) → Bool := fun _ ds => decide (uptoBulkAll ds ≤ 1048576)
def OpenSpec.upto (s : _root_.Go.ChangeSpec) : _root_.Go.OpenSpec := { _root_.Go.OpenSpec.ofChange s with cond := some uptoSmall }

/-- 'gazetteerlaw14.AtlasOwns', WHERE WHAT IT READS IS OF BULK AT MOST 1048576: true; the input reads as it did. -/
def atlasOwnsUptoRow : OpenClaim := { program := "ytbajekndbamcmaa", sum := "9bde3fa63d331d85546cbc525c0ab138b2fb09aa4f2776697af079c98403874a", func := "gazetteer/gazetteerlaw14.AtlasOwns", spec := "atlasOwns", unfollowed := true, recurses := true, apart := false, narrowed := true }
def AtlasOwnsUptoSaid : Prop := atlasOwnsUptoRow.holds Try.pinned (OpenSpec.upto atlasOwnsSpec)

/-- 'gazetteerlaw6.GroveTexts', WHERE WHAT IT READS IS OF BULK AT MOST 1048576: true; the input reads as it did. -/
def groveTextsUptoRow : OpenClaim := { program := "ytbajekndbamcmaa", sum := "9bde3fa63d331d85546cbc525c0ab138b2fb09aa4f2776697af079c98403874a", func := "gazetteer/gazetteerlaw6.GroveTexts", spec := "groveTexts", unfollowed := true, recurses := true, apart := false, narrowed := true }
def GroveTextsUptoSaid : Prop := groveTextsUptoRow.holds Try.pinned (OpenSpec.upto groveTextsSpec)

/-- 'gazetteerlaw14.AtlasGoes', WHERE WHAT IT READS IS OF BULK AT MOST 1048576: true; the input reads as it did. -/
def atlasGoesUptoRow : OpenClaim := { program := "ytbajekndbamcmaa", sum := "9bde3fa63d331d85546cbc525c0ab138b2fb09aa4f2776697af079c98403874a", func := "gazetteer/gazetteerlaw14.AtlasGoes", spec := "atlasGoes", unfollowed := true, recurses := true, apart := false, narrowed := true }
def AtlasGoesUptoSaid : Prop := atlasGoesUptoRow.holds Try.pinned (OpenSpec.upto atlasGoesSpec)

/-- 'gazetteerlaw14.AtlasKnown', WHERE WHAT IT READS IS OF BULK AT MOST 1048576: true; the input reads as it did. -/
def atlasKnownUptoRow : OpenClaim := { program := "ytbajekndbamcmaa", sum := "9bde3fa63d331d85546cbc525c0ab138b2fb09aa4f2776697af079c98403874a", func := "gazetteer/gazetteerlaw14.AtlasKnown", spec := "atlasKnown", unfollowed := true, recurses := true, apart := false, narrowed := true }
def AtlasKnownUptoSaid : Prop := atlasKnownUptoRow.holds Try.pinned (OpenSpec.upto atlasKnownSpec)

/-- 'gazetteerlaw14.AtlasBack', WHERE WHAT IT READS IS OF BULK AT MOST 1048576: true; the input reads as it did. -/
def atlasBackUptoRow : OpenClaim := { program := "ytbajekndbamcmaa", sum := "9bde3fa63d331d85546cbc525c0ab138b2fb09aa4f2776697af079c98403874a", func := "gazetteer/gazetteerlaw14.AtlasBack", spec := "atlasBack", unfollowed := true, recurses := true, apart := false, narrowed := true }
def AtlasBackUptoSaid : Prop := atlasBackUptoRow.holds Try.pinned (OpenSpec.upto atlasBackSpec)

/-- 'gazetteerlaw6.GroveNone', WHERE WHAT IT READS IS OF BULK AT MOST 1048576: true; the input reads as it did. -/
def groveNoneUptoRow : OpenClaim := { program := "ytbajekndbamcmaa", sum := "9bde3fa63d331d85546cbc525c0ab138b2fb09aa4f2776697af079c98403874a", func := "gazetteer/gazetteerlaw6.GroveNone", spec := "groveNone", unfollowed := true, recurses := true, apart := false, narrowed := true }
def GroveNoneUptoSaid : Prop := groveNoneUptoRow.holds Try.pinned (OpenSpec.upto groveNoneSpec)

/-- 'gazetteerlaw6.GroveRows', WHERE WHAT IT READS IS OF BULK AT MOST 1048576: true; the input reads as it did. -/
def groveRowsUptoRow : OpenClaim := { program := "ytbajekndbamcmaa", sum := "9bde3fa63d331d85546cbc525c0ab138b2fb09aa4f2776697af079c98403874a", func := "gazetteer/gazetteerlaw6.GroveRows", spec := "groveRows", unfollowed := true, recurses := true, apart := false, narrowed := true }
def GroveRowsUptoSaid : Prop := groveRowsUptoRow.holds Try.pinned (OpenSpec.upto groveRowsSpec)

/-- 'gazetteerlaw6.GroveTakes', WHERE WHAT IT READS IS OF BULK AT MOST 1048576: true; the input reads as it did. -/
def groveTakesUptoRow : OpenClaim := { program := "ytbajekndbamcmaa", sum := "9bde3fa63d331d85546cbc525c0ab138b2fb09aa4f2776697af079c98403874a", func := "gazetteer/gazetteerlaw6.GroveTakes", spec := "groveTakes", unfollowed := true, recurses := true, apart := false, narrowed := true }
def GroveTakesUptoSaid : Prop := groveTakesUptoRow.holds Try.pinned (OpenSpec.upto groveTakesSpec)

end Rows
end Go.Proofs.Ytbajekndbamcmaa

/-
  DERIVED. GIVEN WITH THE SEED: THE CARDS: each row of YtdmahdgcfaieoaaDoorRows.lean that lists a variable, with what it lists TIED to the program's text (the seventh form; the later family's looks); each row that meets fmt, with fmt's text TOLD by the authors' own Lean function (tested against real Go, not proved from fmt's source: count such statements apart). THE CARD IS WHAT COUNTS. Prove the row's statement (the work); the ties are given (YtdmahdgcfaieoaaDoorTie.lean); close each card by the builder's one call (the guide's Derived/Test/ToyasCard.lean, 'card_holds'). Laid BY PROGRAM, IN A SANDBOX (cutbox-door.mjs). By AI agents, Wed Nov 11 2026. No macro, syntax, notation, axiom, sorry.
-/
import Derived.Test.YtdmahdgcfaieoaaDoorRows
import GoSem.ClaimSeven
namespace Go.Proofs.YtdmahdgcfaieoaaDoor
namespace Rows

/-- THE TIED CARD OF 'gazetteerlaw1.ScalarReads'. -/
def scalarReadsCard : Claim7 := { stood := { row := scalarReadsRow, standIns := [], harness := (true, "5fbb706cee8a1504be52028656dff34062289e35fc36ab9c1eb7595a8835f472"), looks := false }, kinds := [], alts := [], laidByText := true, laidKinds := [.data, .pinned], laidTests := true, laidLooks := .later }
def ScalarReadsCardSaid : Prop := Claim7.holds Tryd.pinned (.plain (OpenSpec.ofChange scalarReadsSpec)) scalarReadsCard

/-- THE TIED CARD OF 'gazetteerlaw1.ScalarWrites'. -/
def scalarWritesCard : Claim7 := { stood := { row := scalarWritesRow, standIns := [], harness := (true, "5fbb706cee8a1504be52028656dff34062289e35fc36ab9c1eb7595a8835f472"), looks := false }, kinds := [], alts := [], laidByText := true, laidKinds := [.data, .pinned], laidTests := true, laidLooks := .later }
def ScalarWritesCardSaid : Prop := Claim7.holds Tryd.pinned (.plain (OpenSpec.ofChange scalarWritesSpec)) scalarWritesCard

/-- THE TIED CARD OF 'gazetteerlaw1.ScalarKnown'. -/
def scalarKnownCard : Claim7 := { stood := { row := scalarKnownRow, standIns := [], harness := (true, "5fbb706cee8a1504be52028656dff34062289e35fc36ab9c1eb7595a8835f472"), looks := false }, kinds := [], alts := [], laidByText := true, laidKinds := [.data, .pinned], laidTests := true, laidLooks := .later }
def ScalarKnownCardSaid : Prop := Claim7.holds Tryd.pinned (.plain (OpenSpec.ofChange scalarKnownSpec)) scalarKnownCard

/-- THE TIED CARD OF 'gazetteerlaw1.ScalarJoins'. -/
def scalarJoinsCard : Claim7 := { stood := { row := scalarJoinsRow, standIns := [], harness := (true, "5fbb706cee8a1504be52028656dff34062289e35fc36ab9c1eb7595a8835f472"), looks := false }, kinds := [], alts := [], laidByText := true, laidKinds := [.data, .pinned], laidTests := true, laidLooks := .later }
def ScalarJoinsCardSaid : Prop := Claim7.holds Tryd.pinned (.plain (OpenSpec.ofChange scalarJoinsSpec)) scalarJoinsCard

/-- THE TIED CARD OF 'gazetteerlaw1.ScalarCuts'. -/
def scalarCutsCard : Claim7 := { stood := { row := scalarCutsRow, standIns := [], harness := (true, "5fbb706cee8a1504be52028656dff34062289e35fc36ab9c1eb7595a8835f472"), looks := false }, kinds := [], alts := [], laidByText := true, laidKinds := [.data, .pinned], laidTests := true, laidLooks := .later }
def ScalarCutsCardSaid : Prop := Claim7.holds Tryd.pinned (.plain (OpenSpec.ofChange scalarCutsSpec)) scalarCutsCard

/-- THE SECOND FORM's CARD OF 'gazetteerlaw1.ScalarReads'. -/
def scalarReadsUptoCard : Claim7 := { stood := { row := scalarReadsUptoRow, standIns := [], harness := (true, "5fbb706cee8a1504be52028656dff34062289e35fc36ab9c1eb7595a8835f472"), looks := false }, kinds := [], alts := [], laidByText := true, laidKinds := [.data, .pinned], laidTests := true, laidLooks := .later }
def ScalarReadsUptoCardSaid : Prop := Claim7.holds Tryd.pinned (.plain (OpenSpec.upto scalarReadsSpec)) scalarReadsUptoCard

/-- THE SECOND FORM's CARD OF 'gazetteerlaw1.ScalarWrites'. -/
def scalarWritesUptoCard : Claim7 := { stood := { row := scalarWritesUptoRow, standIns := [], harness := (true, "5fbb706cee8a1504be52028656dff34062289e35fc36ab9c1eb7595a8835f472"), looks := false }, kinds := [], alts := [], laidByText := true, laidKinds := [.data, .pinned], laidTests := true, laidLooks := .later }
def ScalarWritesUptoCardSaid : Prop := Claim7.holds Tryd.pinned (.plain (OpenSpec.upto scalarWritesSpec)) scalarWritesUptoCard

/-- THE SECOND FORM's CARD OF 'gazetteerlaw1.ScalarKnown'. -/
def scalarKnownUptoCard : Claim7 := { stood := { row := scalarKnownUptoRow, standIns := [], harness := (true, "5fbb706cee8a1504be52028656dff34062289e35fc36ab9c1eb7595a8835f472"), looks := false }, kinds := [], alts := [], laidByText := true, laidKinds := [.data, .pinned], laidTests := true, laidLooks := .later }
def ScalarKnownUptoCardSaid : Prop := Claim7.holds Tryd.pinned (.plain (OpenSpec.upto scalarKnownSpec)) scalarKnownUptoCard

/-- THE SECOND FORM's CARD OF 'gazetteerlaw1.ScalarJoins'. -/
def scalarJoinsUptoCard : Claim7 := { stood := { row := scalarJoinsUptoRow, standIns := [], harness := (true, "5fbb706cee8a1504be52028656dff34062289e35fc36ab9c1eb7595a8835f472"), looks := false }, kinds := [], alts := [], laidByText := true, laidKinds := [.data, .pinned], laidTests := true, laidLooks := .later }
def ScalarJoinsUptoCardSaid : Prop := Claim7.holds Tryd.pinned (.plain (OpenSpec.upto scalarJoinsSpec)) scalarJoinsUptoCard

/-- THE SECOND FORM's CARD OF 'gazetteerlaw1.ScalarCuts'. -/
def scalarCutsUptoCard : Claim7 := { stood := { row := scalarCutsUptoRow, standIns := [], harness := (true, "5fbb706cee8a1504be52028656dff34062289e35fc36ab9c1eb7595a8835f472"), looks := false }, kinds := [], alts := [], laidByText := true, laidKinds := [.data, .pinned], laidTests := true, laidLooks := .later }
def ScalarCutsUptoCardSaid : Prop := Claim7.holds Tryd.pinned (.plain (OpenSpec.upto scalarCutsSpec)) scalarCutsUptoCard
end Rows
end Go.Proofs.YtdmahdgcfaieoaaDoor

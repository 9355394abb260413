/-
  DERIVED. GIVEN WITH THE SEED: THE CARDS: each row of YtddjhemncniidaaDoorRows.lean that lists a variable, with what it lists TIED to the program's text (the seventh form; the later family's looks); each row that meets fmt, with fmt's text TOLD by the authors' own Lean function (tested against real Go, not proved from fmt's source: count such statements apart). THE CARD IS WHAT COUNTS. Prove the row's statement (the work); the ties are given (YtddjhemncniidaaDoorTie.lean); close each card by the builder's one call (the guide's Derived/Test/ToyasCard.lean, 'card_holds'). Laid BY PROGRAM, IN A SANDBOX (cutbox-door.mjs). By AI agents, Wed Nov 11 2026. No macro, syntax, notation, axiom, sorry.
-/
import Derived.Test.YtddjhemncniidaaDoorRows
import GoSem.ClaimSeven
namespace Go.Proofs.YtddjhemncniidaaDoor
namespace Rows

/-- THE TIED CARD OF 'skipgraphlaw1.KeyspaceBounds'. -/
def keyspaceBoundsCard : Claim7 := { stood := { row := keyspaceBoundsRow, standIns := [], harness := (true, "c60b8d7b1b6d83ba130f009c755d829040b296025bf1ebe08d4587deae294ccc"), looks := false }, kinds := [], alts := [], laidByText := true, laidKinds := [.data], laidTests := true, laidLooks := .later }
def KeyspaceBoundsCardSaid : Prop := Claim7.holds Tryd.pinned (.plain (OpenSpec.ofChange keyspaceBoundsSpec)) keyspaceBoundsCard

/-- THE TIED CARD OF 'skipgraphlaw1.KeyspaceTilings'. -/
def keyspaceTilingsCard : Claim7 := { stood := { row := keyspaceTilingsRow, standIns := [], harness := (true, "c60b8d7b1b6d83ba130f009c755d829040b296025bf1ebe08d4587deae294ccc"), looks := false }, kinds := [], alts := [], laidByText := true, laidKinds := [.data], laidTests := true, laidLooks := .later }
def KeyspaceTilingsCardSaid : Prop := Claim7.holds Tryd.pinned (.plain (OpenSpec.ofChange keyspaceTilingsSpec)) keyspaceTilingsCard

/-- THE TIED CARD OF 'skipgraphlaw1.KeyspaceLattice'. -/
def keyspaceLatticeCard : Claim7 := { stood := { row := keyspaceLatticeRow, standIns := [], harness := (true, "c60b8d7b1b6d83ba130f009c755d829040b296025bf1ebe08d4587deae294ccc"), looks := false }, kinds := [], alts := [], laidByText := true, laidKinds := [.data], laidTests := true, laidLooks := .later }
def KeyspaceLatticeCardSaid : Prop := Claim7.holds Tryd.pinned (.plain (OpenSpec.ofChange keyspaceLatticeSpec)) keyspaceLatticeCard

/-- THE TIED CARD OF 'skipgraphlaw1.KeyspacePrefixes'. -/
def keyspacePrefixesCard : Claim7 := { stood := { row := keyspacePrefixesRow, standIns := [], harness := (true, "c60b8d7b1b6d83ba130f009c755d829040b296025bf1ebe08d4587deae294ccc"), looks := false }, kinds := [], alts := [], laidByText := true, laidKinds := [.data], laidTests := true, laidLooks := .later }
def KeyspacePrefixesCardSaid : Prop := Claim7.holds Tryd.pinned (.plain (OpenSpec.ofChange keyspacePrefixesSpec)) keyspacePrefixesCard

/-- THE TIED CARD OF 'skipgraphlaw1.KeyspacePoints'. -/
def keyspacePointsCard : Claim7 := { stood := { row := keyspacePointsRow, standIns := [], harness := (true, "c60b8d7b1b6d83ba130f009c755d829040b296025bf1ebe08d4587deae294ccc"), looks := false }, kinds := [], alts := [], laidByText := true, laidKinds := [.data], laidTests := true, laidLooks := .later }
def KeyspacePointsCardSaid : Prop := Claim7.holds Tryd.pinned (.plain (OpenSpec.ofChange keyspacePointsSpec)) keyspacePointsCard

/-- THE TIED CARD OF 'skipgraphlaw1.KeyspaceRanges'. -/
def keyspaceRangesCard : Claim7 := { stood := { row := keyspaceRangesRow, standIns := [], harness := (true, "c60b8d7b1b6d83ba130f009c755d829040b296025bf1ebe08d4587deae294ccc"), looks := false }, kinds := [], alts := [], laidByText := true, laidKinds := [.data], laidTests := true, laidLooks := .later }
def KeyspaceRangesCardSaid : Prop := Claim7.holds Tryd.pinned (.plain (OpenSpec.ofChange keyspaceRangesSpec)) keyspaceRangesCard

/-- THE TIED CARD OF 'skipgraphlaw1.KeyspaceCovers'. -/
def keyspaceCoversCard : Claim7 := { stood := { row := keyspaceCoversRow, standIns := [], harness := (true, "c60b8d7b1b6d83ba130f009c755d829040b296025bf1ebe08d4587deae294ccc"), looks := false }, kinds := [], alts := [], laidByText := true, laidKinds := [.data], laidTests := true, laidLooks := .later }
def KeyspaceCoversCardSaid : Prop := Claim7.holds Tryd.pinned (.plain (OpenSpec.ofChange keyspaceCoversSpec)) keyspaceCoversCard

/-- THE TIED CARD OF 'skipgraphlaw1.KeyspaceCuts'. -/
def keyspaceCutsCard : Claim7 := { stood := { row := keyspaceCutsRow, standIns := [], harness := (true, "c60b8d7b1b6d83ba130f009c755d829040b296025bf1ebe08d4587deae294ccc"), looks := false }, kinds := [], alts := [], laidByText := true, laidKinds := [.data], laidTests := true, laidLooks := .later }
def KeyspaceCutsCardSaid : Prop := Claim7.holds Tryd.pinned (.plain (OpenSpec.ofChange keyspaceCutsSpec)) keyspaceCutsCard

/-- THE TIED CARD OF 'skipgraphlaw1.KeyspaceUnions'. -/
def keyspaceUnionsCard : Claim7 := { stood := { row := keyspaceUnionsRow, standIns := [], harness := (true, "c60b8d7b1b6d83ba130f009c755d829040b296025bf1ebe08d4587deae294ccc"), looks := false }, kinds := [], alts := [], laidByText := true, laidKinds := [.data], laidTests := true, laidLooks := .later }
def KeyspaceUnionsCardSaid : Prop := Claim7.holds Tryd.pinned (.plain (OpenSpec.ofChange keyspaceUnionsSpec)) keyspaceUnionsCard

/-- THE TIED CARD OF 'skipgraphlaw1.KeyspaceJoins'. -/
def keyspaceJoinsCard : Claim7 := { stood := { row := keyspaceJoinsRow, standIns := [], harness := (true, "c60b8d7b1b6d83ba130f009c755d829040b296025bf1ebe08d4587deae294ccc"), looks := false }, kinds := [], alts := [], laidByText := true, laidKinds := [.data], laidTests := true, laidLooks := .later }
def KeyspaceJoinsCardSaid : Prop := Claim7.holds Tryd.pinned (.plain (OpenSpec.ofChange keyspaceJoinsSpec)) keyspaceJoinsCard

/-- THE SECOND FORM's CARD OF 'skipgraphlaw1.KeyspaceBounds'. -/
def keyspaceBoundsUptoCard : Claim7 := { stood := { row := keyspaceBoundsUptoRow, standIns := [], harness := (true, "c60b8d7b1b6d83ba130f009c755d829040b296025bf1ebe08d4587deae294ccc"), looks := false }, kinds := [], alts := [], laidByText := true, laidKinds := [.data], laidTests := true, laidLooks := .later }
def KeyspaceBoundsUptoCardSaid : Prop := Claim7.holds Tryd.pinned (.plain (OpenSpec.upto keyspaceBoundsSpec)) keyspaceBoundsUptoCard

/-- THE SECOND FORM's CARD OF 'skipgraphlaw1.KeyspaceTilings'. -/
def keyspaceTilingsUptoCard : Claim7 := { stood := { row := keyspaceTilingsUptoRow, standIns := [], harness := (true, "c60b8d7b1b6d83ba130f009c755d829040b296025bf1ebe08d4587deae294ccc"), looks := false }, kinds := [], alts := [], laidByText := true, laidKinds := [.data], laidTests := true, laidLooks := .later }
def KeyspaceTilingsUptoCardSaid : Prop := Claim7.holds Tryd.pinned (.plain (OpenSpec.upto keyspaceTilingsSpec)) keyspaceTilingsUptoCard

/-- THE SECOND FORM's CARD OF 'skipgraphlaw1.KeyspaceLattice'. -/
def keyspaceLatticeUptoCard : Claim7 := { stood := { row := keyspaceLatticeUptoRow, standIns := [], harness := (true, "c60b8d7b1b6d83ba130f009c755d829040b296025bf1ebe08d4587deae294ccc"), looks := false }, kinds := [], alts := [], laidByText := true, laidKinds := [.data], laidTests := true, laidLooks := .later }
def KeyspaceLatticeUptoCardSaid : Prop := Claim7.holds Tryd.pinned (.plain (OpenSpec.upto keyspaceLatticeSpec)) keyspaceLatticeUptoCard

/-- THE SECOND FORM's CARD OF 'skipgraphlaw1.KeyspacePrefixes'. -/
def keyspacePrefixesUptoCard : Claim7 := { stood := { row := keyspacePrefixesUptoRow, standIns := [], harness := (true, "c60b8d7b1b6d83ba130f009c755d829040b296025bf1ebe08d4587deae294ccc"), looks := false }, kinds := [], alts := [], laidByText := true, laidKinds := [.data], laidTests := true, laidLooks := .later }
def KeyspacePrefixesUptoCardSaid : Prop := Claim7.holds Tryd.pinned (.plain (OpenSpec.upto keyspacePrefixesSpec)) keyspacePrefixesUptoCard

/-- THE SECOND FORM's CARD OF 'skipgraphlaw1.KeyspacePoints'. -/
def keyspacePointsUptoCard : Claim7 := { stood := { row := keyspacePointsUptoRow, standIns := [], harness := (true, "c60b8d7b1b6d83ba130f009c755d829040b296025bf1ebe08d4587deae294ccc"), looks := false }, kinds := [], alts := [], laidByText := true, laidKinds := [.data], laidTests := true, laidLooks := .later }
def KeyspacePointsUptoCardSaid : Prop := Claim7.holds Tryd.pinned (.plain (OpenSpec.upto keyspacePointsSpec)) keyspacePointsUptoCard

/-- THE SECOND FORM's CARD OF 'skipgraphlaw1.KeyspaceRanges'. -/
def keyspaceRangesUptoCard : Claim7 := { stood := { row := keyspaceRangesUptoRow, standIns := [], harness := (true, "c60b8d7b1b6d83ba130f009c755d829040b296025bf1ebe08d4587deae294ccc"), looks := false }, kinds := [], alts := [], laidByText := true, laidKinds := [.data], laidTests := true, laidLooks := .later }
def KeyspaceRangesUptoCardSaid : Prop := Claim7.holds Tryd.pinned (.plain (OpenSpec.upto keyspaceRangesSpec)) keyspaceRangesUptoCard

/-- THE SECOND FORM's CARD OF 'skipgraphlaw1.KeyspaceCovers'. -/
def keyspaceCoversUptoCard : Claim7 := { stood := { row := keyspaceCoversUptoRow, standIns := [], harness := (true, "c60b8d7b1b6d83ba130f009c755d829040b296025bf1ebe08d4587deae294ccc"), looks := false }, kinds := [], alts := [], laidByText := true, laidKinds := [.data], laidTests := true, laidLooks := .later }
def KeyspaceCoversUptoCardSaid : Prop := Claim7.holds Tryd.pinned (.plain (OpenSpec.upto keyspaceCoversSpec)) keyspaceCoversUptoCard

/-- THE SECOND FORM's CARD OF 'skipgraphlaw1.KeyspaceCuts'. -/
def keyspaceCutsUptoCard : Claim7 := { stood := { row := keyspaceCutsUptoRow, standIns := [], harness := (true, "c60b8d7b1b6d83ba130f009c755d829040b296025bf1ebe08d4587deae294ccc"), looks := false }, kinds := [], alts := [], laidByText := true, laidKinds := [.data], laidTests := true, laidLooks := .later }
def KeyspaceCutsUptoCardSaid : Prop := Claim7.holds Tryd.pinned (.plain (OpenSpec.upto keyspaceCutsSpec)) keyspaceCutsUptoCard

/-- THE SECOND FORM's CARD OF 'skipgraphlaw1.KeyspaceUnions'. -/
def keyspaceUnionsUptoCard : Claim7 := { stood := { row := keyspaceUnionsUptoRow, standIns := [], harness := (true, "c60b8d7b1b6d83ba130f009c755d829040b296025bf1ebe08d4587deae294ccc"), looks := false }, kinds := [], alts := [], laidByText := true, laidKinds := [.data], laidTests := true, laidLooks := .later }
def KeyspaceUnionsUptoCardSaid : Prop := Claim7.holds Tryd.pinned (.plain (OpenSpec.upto keyspaceUnionsSpec)) keyspaceUnionsUptoCard

/-- THE SECOND FORM's CARD OF 'skipgraphlaw1.KeyspaceJoins'. -/
def keyspaceJoinsUptoCard : Claim7 := { stood := { row := keyspaceJoinsUptoRow, standIns := [], harness := (true, "c60b8d7b1b6d83ba130f009c755d829040b296025bf1ebe08d4587deae294ccc"), looks := false }, kinds := [], alts := [], laidByText := true, laidKinds := [.data], laidTests := true, laidLooks := .later }
def KeyspaceJoinsUptoCardSaid : Prop := Claim7.holds Tryd.pinned (.plain (OpenSpec.upto keyspaceJoinsSpec)) keyspaceJoinsUptoCard
end Rows
end Go.Proofs.YtddjhemncniidaaDoor

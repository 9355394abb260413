/-
  DERIVED. GIVEN WITH THE SEED: THE CARDS: each row of YtjnnkpkbgdknmaaDoorRows.lean that lists a variable, with what it lists TIED to the program's text (the seventh form; the later family's looks); each row that meets fmt, with fmt's text TOLD by the authors' own Lean function (tested against real Go, not proved from fmt's source: count such statements apart). THE CARD IS WHAT COUNTS. Prove the row's statement (the work); the ties are given (YtjnnkpkbgdknmaaDoorTie.lean); close each card by the builder's one call (the guide's Derived/Test/ToyasCard.lean, 'card_holds'). Laid BY PROGRAM, IN A SANDBOX (cutbox-door.mjs). By AI agents, Wed Nov 11 2026. No macro, syntax, notation, axiom, sorry.
-/
import Derived.Test.YtjnnkpkbgdknmaaDoorRows
import GoSem.ClaimSeven
namespace Go.Proofs.YtjnnkpkbgdknmaaDoor
namespace Rows

/-- THE TIED CARD OF 'skipgraphlaw22.QueryChecks'. -/
def queryChecksCard : Claim7 := { stood := { row := queryChecksRow, standIns := [], harness := (true, "b1466841e0fbaa80210c6dcf73c780c3c77b7b731fa92516edebe7774fd1b45f"), looks := false }, kinds := [], alts := [], laidByText := true, laidKinds := [.data], laidTests := true, laidLooks := .later }
def QueryChecksCardSaid : Prop := Claim7.holds Tryd.pinned (.plain (OpenSpec.ofChange queryChecksSpec)) queryChecksCard

/-- THE TIED CARD OF 'skipgraphlaw22.QueryAnswers'. -/
def queryAnswersCard : Claim7 := { stood := { row := queryAnswersRow, standIns := [], harness := (true, "b1466841e0fbaa80210c6dcf73c780c3c77b7b731fa92516edebe7774fd1b45f"), looks := false }, kinds := [], alts := [], laidByText := true, laidKinds := [.data], laidTests := true, laidLooks := .later }
def QueryAnswersCardSaid : Prop := Claim7.holds Tryd.pinned (.plain (OpenSpec.ofChange queryAnswersSpec)) queryAnswersCard

/-- THE TIED CARD OF 'skipgraphlaw22.QueryUnion'. -/
def queryUnionCard : Claim7 := { stood := { row := queryUnionRow, standIns := [], harness := (true, "b1466841e0fbaa80210c6dcf73c780c3c77b7b731fa92516edebe7774fd1b45f"), looks := false }, kinds := [], alts := [], laidByText := true, laidKinds := [.data], laidTests := true, laidLooks := .later }
def QueryUnionCardSaid : Prop := Claim7.holds Tryd.pinned (.plain (OpenSpec.ofChange queryUnionSpec)) queryUnionCard

/-- THE TIED CARD OF 'skipgraphlaw22.QueryNearest'. -/
def queryNearestCard : Claim7 := { stood := { row := queryNearestRow, standIns := [], harness := (true, "b1466841e0fbaa80210c6dcf73c780c3c77b7b731fa92516edebe7774fd1b45f"), looks := false }, kinds := [], alts := [], laidByText := true, laidKinds := [.data], laidTests := true, laidLooks := .later }
def QueryNearestCardSaid : Prop := Claim7.holds Tryd.pinned (.plain (OpenSpec.ofChange queryNearestSpec)) queryNearestCard

/-- THE TIED CARD OF 'skipgraphlaw22.QueryRanges'. -/
def queryRangesCard : Claim7 := { stood := { row := queryRangesRow, standIns := [], harness := (true, "b1466841e0fbaa80210c6dcf73c780c3c77b7b731fa92516edebe7774fd1b45f"), looks := false }, kinds := [], alts := [], laidByText := true, laidKinds := [.data], laidTests := true, laidLooks := .later }
def QueryRangesCardSaid : Prop := Claim7.holds Tryd.pinned (.plain (OpenSpec.ofChange queryRangesSpec)) queryRangesCard

/-- THE TIED CARD OF 'skipgraphlaw22.QueryTakes'. -/
def queryTakesCard : Claim7 := { stood := { row := queryTakesRow, standIns := [], harness := (true, "b1466841e0fbaa80210c6dcf73c780c3c77b7b731fa92516edebe7774fd1b45f"), looks := false }, kinds := [], alts := [], laidByText := true, laidKinds := [.data], laidTests := true, laidLooks := .later }
def QueryTakesCardSaid : Prop := Claim7.holds Tryd.pinned (.plain (OpenSpec.ofChange queryTakesSpec)) queryTakesCard

/-- THE TIED CARD OF 'skipgraphlaw22.QuerySame'. -/
def querySameCard : Claim7 := { stood := { row := querySameRow, standIns := [], harness := (true, "b1466841e0fbaa80210c6dcf73c780c3c77b7b731fa92516edebe7774fd1b45f"), looks := false }, kinds := [], alts := [], laidByText := true, laidKinds := [.data], laidTests := true, laidLooks := .later }
def QuerySameCardSaid : Prop := Claim7.holds Tryd.pinned (.plain (OpenSpec.ofChange querySameSpec)) querySameCard

/-- THE SECOND FORM's CARD OF 'skipgraphlaw22.QueryChecks'. -/
def queryChecksUptoCard : Claim7 := { stood := { row := queryChecksUptoRow, standIns := [], harness := (true, "b1466841e0fbaa80210c6dcf73c780c3c77b7b731fa92516edebe7774fd1b45f"), looks := false }, kinds := [], alts := [], laidByText := true, laidKinds := [.data], laidTests := true, laidLooks := .later }
def QueryChecksUptoCardSaid : Prop := Claim7.holds Tryd.pinned (.plain (OpenSpec.upto queryChecksSpec)) queryChecksUptoCard

/-- THE SECOND FORM's CARD OF 'skipgraphlaw22.QueryAnswers'. -/
def queryAnswersUptoCard : Claim7 := { stood := { row := queryAnswersUptoRow, standIns := [], harness := (true, "b1466841e0fbaa80210c6dcf73c780c3c77b7b731fa92516edebe7774fd1b45f"), looks := false }, kinds := [], alts := [], laidByText := true, laidKinds := [.data], laidTests := true, laidLooks := .later }
def QueryAnswersUptoCardSaid : Prop := Claim7.holds Tryd.pinned (.plain (OpenSpec.upto queryAnswersSpec)) queryAnswersUptoCard

/-- THE SECOND FORM's CARD OF 'skipgraphlaw22.QueryUnion'. -/
def queryUnionUptoCard : Claim7 := { stood := { row := queryUnionUptoRow, standIns := [], harness := (true, "b1466841e0fbaa80210c6dcf73c780c3c77b7b731fa92516edebe7774fd1b45f"), looks := false }, kinds := [], alts := [], laidByText := true, laidKinds := [.data], laidTests := true, laidLooks := .later }
def QueryUnionUptoCardSaid : Prop := Claim7.holds Tryd.pinned (.plain (OpenSpec.upto queryUnionSpec)) queryUnionUptoCard

/-- THE SECOND FORM's CARD OF 'skipgraphlaw22.QueryNearest'. -/
def queryNearestUptoCard : Claim7 := { stood := { row := queryNearestUptoRow, standIns := [], harness := (true, "b1466841e0fbaa80210c6dcf73c780c3c77b7b731fa92516edebe7774fd1b45f"), looks := false }, kinds := [], alts := [], laidByText := true, laidKinds := [.data], laidTests := true, laidLooks := .later }
def QueryNearestUptoCardSaid : Prop := Claim7.holds Tryd.pinned (.plain (OpenSpec.upto queryNearestSpec)) queryNearestUptoCard

/-- THE SECOND FORM's CARD OF 'skipgraphlaw22.QueryRanges'. -/
def queryRangesUptoCard : Claim7 := { stood := { row := queryRangesUptoRow, standIns := [], harness := (true, "b1466841e0fbaa80210c6dcf73c780c3c77b7b731fa92516edebe7774fd1b45f"), looks := false }, kinds := [], alts := [], laidByText := true, laidKinds := [.data], laidTests := true, laidLooks := .later }
def QueryRangesUptoCardSaid : Prop := Claim7.holds Tryd.pinned (.plain (OpenSpec.upto queryRangesSpec)) queryRangesUptoCard

/-- THE SECOND FORM's CARD OF 'skipgraphlaw22.QueryTakes'. -/
def queryTakesUptoCard : Claim7 := { stood := { row := queryTakesUptoRow, standIns := [], harness := (true, "b1466841e0fbaa80210c6dcf73c780c3c77b7b731fa92516edebe7774fd1b45f"), looks := false }, kinds := [], alts := [], laidByText := true, laidKinds := [.data], laidTests := true, laidLooks := .later }
def QueryTakesUptoCardSaid : Prop := Claim7.holds Tryd.pinned (.plain (OpenSpec.upto queryTakesSpec)) queryTakesUptoCard

/-- THE SECOND FORM's CARD OF 'skipgraphlaw22.QuerySame'. -/
def querySameUptoCard : Claim7 := { stood := { row := querySameUptoRow, standIns := [], harness := (true, "b1466841e0fbaa80210c6dcf73c780c3c77b7b731fa92516edebe7774fd1b45f"), looks := false }, kinds := [], alts := [], laidByText := true, laidKinds := [.data], laidTests := true, laidLooks := .later }
def QuerySameUptoCardSaid : Prop := Claim7.holds Tryd.pinned (.plain (OpenSpec.upto querySameSpec)) querySameUptoCard
end Rows
end Go.Proofs.YtjnnkpkbgdknmaaDoor

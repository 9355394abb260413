/-
  DERIVED. GIVEN WITH THE SEED: THE CARDS: each row of YtlbnhhfaedhgfaaGreatDoorRows.lean that lists a variable, with what it lists TIED to the program's text (the seventh form; the later family's looks); each row that meets fmt, with fmt's text TOLD by the authors' own Lean function (tested against real Go, not proved from fmt's source: count such statements apart). THE CARD IS WHAT COUNTS. Prove the row's statement (the work); the ties are given (YtlbnhhfaedhgfaaGreatDoorTie.lean); close each card by the builder's one call (the guide's Derived/Test/ToyasCard.lean, 'card_holds'). Laid BY PROGRAM, IN A SANDBOX (cutbox-door.mjs). By AI agents, Wed Nov 11 2026. No macro, syntax, notation, axiom, sorry.
-/
import Derived.Test.YtlbnhhfaedhgfaaGreatDoorRows
import GoSem.ClaimSeven
namespace Go.Proofs.YtlbnhhfaedhgfaaGreatDoor
namespace Rows

/-- THE TIED CARD OF 'skipgraphlaw28.WalkSteps'. -/
def walkStepsCard : Claim7 := { stood := { row := walkStepsRow, standIns := [], harness := (true, "0ea29d9787dfe4c25a5789c6aa0c11fd3558b184b80648f316a0dc3675bc2a0b"), looks := false }, kinds := [], alts := [], laidByText := true, laidKinds := [.data], laidTests := true, laidLooks := .later }
def WalkStepsCardSaid : Prop := Claim7.holds Tryz.pinned (.plain (OpenSpec.ofChange walkStepsSpec)) walkStepsCard

/-- THE TIED CARD OF 'skipgraphlaw28.WalkCovers'. -/
def walkCoversCard : Claim7 := { stood := { row := walkCoversRow, standIns := [], harness := (true, "0ea29d9787dfe4c25a5789c6aa0c11fd3558b184b80648f316a0dc3675bc2a0b"), looks := false }, kinds := [], alts := [], laidByText := true, laidKinds := [.data], laidTests := true, laidLooks := .later }
def WalkCoversCardSaid : Prop := Claim7.holds Tryz.pinned (.plain (OpenSpec.ofChange walkCoversSpec)) walkCoversCard

/-- THE TIED CARD OF 'skipgraphlaw28.WalkReads'. -/
def walkReadsCard : Claim7 := { stood := { row := walkReadsRow, standIns := [], harness := (true, "0ea29d9787dfe4c25a5789c6aa0c11fd3558b184b80648f316a0dc3675bc2a0b"), looks := false }, kinds := [], alts := [], laidByText := true, laidKinds := [.data], laidTests := true, laidLooks := .later }
def WalkReadsCardSaid : Prop := Claim7.holds Tryz.pinned (.plain (OpenSpec.ofChange walkReadsSpec)) walkReadsCard

/-- THE TIED CARD OF 'skipgraphlaw29.ReceiptChecks'. -/
def receiptChecksCard : Claim7 := { stood := { row := receiptChecksRow, standIns := [], harness := (true, "0ea29d9787dfe4c25a5789c6aa0c11fd3558b184b80648f316a0dc3675bc2a0b"), looks := false }, kinds := [], alts := [], laidByText := true, laidKinds := [.data], laidTests := true, laidLooks := .later }
def ReceiptChecksCardSaid : Prop := Claim7.holds Tryz.pinned (.plain (OpenSpec.ofChange receiptChecksSpec)) receiptChecksCard

/-- THE TIED CARD OF 'skipgraphlaw29.ReceiptAny'. -/
def receiptAnyCard : Claim7 := { stood := { row := receiptAnyRow, standIns := [], harness := (true, "0ea29d9787dfe4c25a5789c6aa0c11fd3558b184b80648f316a0dc3675bc2a0b"), looks := false }, kinds := [], alts := [], laidByText := true, laidKinds := [.data], laidTests := true, laidLooks := .later }
def ReceiptAnyCardSaid : Prop := Claim7.holds Tryz.pinned (.plain (OpenSpec.ofChange receiptAnySpec)) receiptAnyCard

/-- THE TIED CARD OF 'skipgraphlaw29.ReceiptProves'. -/
def receiptProvesCard : Claim7 := { stood := { row := receiptProvesRow, standIns := [], harness := (true, "0ea29d9787dfe4c25a5789c6aa0c11fd3558b184b80648f316a0dc3675bc2a0b"), looks := false }, kinds := [], alts := [], laidByText := true, laidKinds := [.data], laidTests := true, laidLooks := .later }
def ReceiptProvesCardSaid : Prop := Claim7.holds Tryz.pinned (.plain (OpenSpec.ofChange receiptProvesSpec)) receiptProvesCard

/-- THE TIED CARD OF 'skipgraphlaw29.ReceiptRefuses'. -/
def receiptRefusesCard : Claim7 := { stood := { row := receiptRefusesRow, standIns := [], harness := (true, "0ea29d9787dfe4c25a5789c6aa0c11fd3558b184b80648f316a0dc3675bc2a0b"), looks := false }, kinds := [], alts := [], laidByText := true, laidKinds := [.data], laidTests := true, laidLooks := .later }
def ReceiptRefusesCardSaid : Prop := Claim7.holds Tryz.pinned (.plain (OpenSpec.ofChange receiptRefusesSpec)) receiptRefusesCard

/-- THE TIED CARD OF 'skipgraphlaw29.ReceiptHonest'. -/
def receiptHonestCard : Claim7 := { stood := { row := receiptHonestRow, standIns := [], harness := (true, "0ea29d9787dfe4c25a5789c6aa0c11fd3558b184b80648f316a0dc3675bc2a0b"), looks := false }, kinds := [], alts := [], laidByText := true, laidKinds := [.data], laidTests := true, laidLooks := .later }
def ReceiptHonestCardSaid : Prop := Claim7.holds Tryz.pinned (.plain (OpenSpec.ofChange receiptHonestSpec)) receiptHonestCard

/-- THE TIED CARD OF 'skipgraphlaw29.ReceiptMakes'. -/
def receiptMakesCard : Claim7 := { stood := { row := receiptMakesRow, standIns := [], harness := (true, "0ea29d9787dfe4c25a5789c6aa0c11fd3558b184b80648f316a0dc3675bc2a0b"), looks := false }, kinds := [], alts := [], laidByText := true, laidKinds := [.data], laidTests := true, laidLooks := .later }
def ReceiptMakesCardSaid : Prop := Claim7.holds Tryz.pinned (.plain (OpenSpec.ofChange receiptMakesSpec)) receiptMakesCard

/-- THE TIED CARD OF 'skipgraphlaw30.PathsSplits'. -/
def pathsSplitsCard : Claim7 := { stood := { row := pathsSplitsRow, standIns := [], harness := (true, "0ea29d9787dfe4c25a5789c6aa0c11fd3558b184b80648f316a0dc3675bc2a0b"), looks := false }, kinds := [], alts := [], laidByText := true, laidKinds := [.data], laidTests := true, laidLooks := .later }
def PathsSplitsCardSaid : Prop := Claim7.holds Tryz.pinned (.plain (OpenSpec.ofChange pathsSplitsSpec)) pathsSplitsCard

/-- THE TIED CARD OF 'skipgraphlaw30.PathsStarts'. -/
def pathsStartsCard : Claim7 := { stood := { row := pathsStartsRow, standIns := [], harness := (true, "0ea29d9787dfe4c25a5789c6aa0c11fd3558b184b80648f316a0dc3675bc2a0b"), looks := false }, kinds := [], alts := [], laidByText := true, laidKinds := [.data], laidTests := true, laidLooks := .later }
def PathsStartsCardSaid : Prop := Claim7.holds Tryz.pinned (.plain (OpenSpec.ofChange pathsStartsSpec)) pathsStartsCard

/-- THE SECOND FORM's CARD OF 'skipgraphlaw28.WalkSteps'. -/
def walkStepsUptoCard : Claim7 := { stood := { row := walkStepsUptoRow, standIns := [], harness := (true, "0ea29d9787dfe4c25a5789c6aa0c11fd3558b184b80648f316a0dc3675bc2a0b"), looks := false }, kinds := [], alts := [], laidByText := true, laidKinds := [.data], laidTests := true, laidLooks := .later }
def WalkStepsUptoCardSaid : Prop := Claim7.holds Tryz.pinned (.plain (OpenSpec.upto walkStepsSpec)) walkStepsUptoCard

/-- THE SECOND FORM's CARD OF 'skipgraphlaw28.WalkCovers'. -/
def walkCoversUptoCard : Claim7 := { stood := { row := walkCoversUptoRow, standIns := [], harness := (true, "0ea29d9787dfe4c25a5789c6aa0c11fd3558b184b80648f316a0dc3675bc2a0b"), looks := false }, kinds := [], alts := [], laidByText := true, laidKinds := [.data], laidTests := true, laidLooks := .later }
def WalkCoversUptoCardSaid : Prop := Claim7.holds Tryz.pinned (.plain (OpenSpec.upto walkCoversSpec)) walkCoversUptoCard

/-- THE SECOND FORM's CARD OF 'skipgraphlaw28.WalkReads'. -/
def walkReadsUptoCard : Claim7 := { stood := { row := walkReadsUptoRow, standIns := [], harness := (true, "0ea29d9787dfe4c25a5789c6aa0c11fd3558b184b80648f316a0dc3675bc2a0b"), looks := false }, kinds := [], alts := [], laidByText := true, laidKinds := [.data], laidTests := true, laidLooks := .later }
def WalkReadsUptoCardSaid : Prop := Claim7.holds Tryz.pinned (.plain (OpenSpec.upto walkReadsSpec)) walkReadsUptoCard

/-- THE SECOND FORM's CARD OF 'skipgraphlaw29.ReceiptChecks'. -/
def receiptChecksUptoCard : Claim7 := { stood := { row := receiptChecksUptoRow, standIns := [], harness := (true, "0ea29d9787dfe4c25a5789c6aa0c11fd3558b184b80648f316a0dc3675bc2a0b"), looks := false }, kinds := [], alts := [], laidByText := true, laidKinds := [.data], laidTests := true, laidLooks := .later }
def ReceiptChecksUptoCardSaid : Prop := Claim7.holds Tryz.pinned (.plain (OpenSpec.upto receiptChecksSpec)) receiptChecksUptoCard

/-- THE SECOND FORM's CARD OF 'skipgraphlaw29.ReceiptAny'. -/
def receiptAnyUptoCard : Claim7 := { stood := { row := receiptAnyUptoRow, standIns := [], harness := (true, "0ea29d9787dfe4c25a5789c6aa0c11fd3558b184b80648f316a0dc3675bc2a0b"), looks := false }, kinds := [], alts := [], laidByText := true, laidKinds := [.data], laidTests := true, laidLooks := .later }
def ReceiptAnyUptoCardSaid : Prop := Claim7.holds Tryz.pinned (.plain (OpenSpec.upto receiptAnySpec)) receiptAnyUptoCard

/-- THE SECOND FORM's CARD OF 'skipgraphlaw29.ReceiptProves'. -/
def receiptProvesUptoCard : Claim7 := { stood := { row := receiptProvesUptoRow, standIns := [], harness := (true, "0ea29d9787dfe4c25a5789c6aa0c11fd3558b184b80648f316a0dc3675bc2a0b"), looks := false }, kinds := [], alts := [], laidByText := true, laidKinds := [.data], laidTests := true, laidLooks := .later }
def ReceiptProvesUptoCardSaid : Prop := Claim7.holds Tryz.pinned (.plain (OpenSpec.upto receiptProvesSpec)) receiptProvesUptoCard

/-- THE SECOND FORM's CARD OF 'skipgraphlaw29.ReceiptRefuses'. -/
def receiptRefusesUptoCard : Claim7 := { stood := { row := receiptRefusesUptoRow, standIns := [], harness := (true, "0ea29d9787dfe4c25a5789c6aa0c11fd3558b184b80648f316a0dc3675bc2a0b"), looks := false }, kinds := [], alts := [], laidByText := true, laidKinds := [.data], laidTests := true, laidLooks := .later }
def ReceiptRefusesUptoCardSaid : Prop := Claim7.holds Tryz.pinned (.plain (OpenSpec.upto receiptRefusesSpec)) receiptRefusesUptoCard

/-- THE SECOND FORM's CARD OF 'skipgraphlaw29.ReceiptHonest'. -/
def receiptHonestUptoCard : Claim7 := { stood := { row := receiptHonestUptoRow, standIns := [], harness := (true, "0ea29d9787dfe4c25a5789c6aa0c11fd3558b184b80648f316a0dc3675bc2a0b"), looks := false }, kinds := [], alts := [], laidByText := true, laidKinds := [.data], laidTests := true, laidLooks := .later }
def ReceiptHonestUptoCardSaid : Prop := Claim7.holds Tryz.pinned (.plain (OpenSpec.upto receiptHonestSpec)) receiptHonestUptoCard

/-- THE SECOND FORM's CARD OF 'skipgraphlaw29.ReceiptMakes'. -/
def receiptMakesUptoCard : Claim7 := { stood := { row := receiptMakesUptoRow, standIns := [], harness := (true, "0ea29d9787dfe4c25a5789c6aa0c11fd3558b184b80648f316a0dc3675bc2a0b"), looks := false }, kinds := [], alts := [], laidByText := true, laidKinds := [.data], laidTests := true, laidLooks := .later }
def ReceiptMakesUptoCardSaid : Prop := Claim7.holds Tryz.pinned (.plain (OpenSpec.upto receiptMakesSpec)) receiptMakesUptoCard

/-- THE SECOND FORM's CARD OF 'skipgraphlaw30.PathsSplits'. -/
def pathsSplitsUptoCard : Claim7 := { stood := { row := pathsSplitsUptoRow, standIns := [], harness := (true, "0ea29d9787dfe4c25a5789c6aa0c11fd3558b184b80648f316a0dc3675bc2a0b"), looks := false }, kinds := [], alts := [], laidByText := true, laidKinds := [.data], laidTests := true, laidLooks := .later }
def PathsSplitsUptoCardSaid : Prop := Claim7.holds Tryz.pinned (.plain (OpenSpec.upto pathsSplitsSpec)) pathsSplitsUptoCard

/-- THE SECOND FORM's CARD OF 'skipgraphlaw30.PathsStarts'. -/
def pathsStartsUptoCard : Claim7 := { stood := { row := pathsStartsUptoRow, standIns := [], harness := (true, "0ea29d9787dfe4c25a5789c6aa0c11fd3558b184b80648f316a0dc3675bc2a0b"), looks := false }, kinds := [], alts := [], laidByText := true, laidKinds := [.data], laidTests := true, laidLooks := .later }
def PathsStartsUptoCardSaid : Prop := Claim7.holds Tryz.pinned (.plain (OpenSpec.upto pathsStartsSpec)) pathsStartsUptoCard
end Rows
end Go.Proofs.YtlbnhhfaedhgfaaGreatDoor

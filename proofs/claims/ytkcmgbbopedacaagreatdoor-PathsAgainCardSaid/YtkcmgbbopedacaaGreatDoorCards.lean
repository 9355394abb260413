/-
  DERIVED. GIVEN WITH THE SEED: THE CARDS: each row of YtkcmgbbopedacaaGreatDoorRows.lean that lists a variable, with what it lists TIED to the program's text (the seventh form; the later family's looks); each row that meets fmt, with fmt's text TOLD by the authors' own Lean function (tested against real Go, not proved from fmt's source: count such statements apart). THE CARD IS WHAT COUNTS. Prove the row's statement (the work); the ties are given (YtkcmgbbopedacaaGreatDoorTie.lean); close each card by the builder's one call (the guide's Derived/Test/ToyasCard.lean, 'card_holds'). Laid BY PROGRAM, IN A SANDBOX (cutbox-door.mjs). By AI agents, Wed Nov 11 2026. No macro, syntax, notation, axiom, sorry.
-/
import Derived.Test.YtkcmgbbopedacaaGreatDoorRows
import GoSem.ClaimSeven
namespace Go.Proofs.YtkcmgbbopedacaaGreatDoor
namespace Rows

/-- THE TIED CARD OF 'skipgraphlaw30.PathsSplits'. -/
def pathsSplitsCard : Claim7 := { stood := { row := pathsSplitsRow, standIns := [], harness := (true, "bc52ba4cca4e3e1b91e25d3f1fabfa31604fe2cca83b10bd1cfa13474e53fd42"), looks := false }, kinds := [], alts := [], laidByText := true, laidKinds := [.data], laidTests := true, laidLooks := .later }
def PathsSplitsCardSaid : Prop := Claim7.holds Tryz.pinned (.plain (OpenSpec.ofChange pathsSplitsSpec)) pathsSplitsCard

/-- THE TIED CARD OF 'skipgraphlaw30.PathsStarts'. -/
def pathsStartsCard : Claim7 := { stood := { row := pathsStartsRow, standIns := [], harness := (true, "bc52ba4cca4e3e1b91e25d3f1fabfa31604fe2cca83b10bd1cfa13474e53fd42"), looks := false }, kinds := [], alts := [], laidByText := true, laidKinds := [.data], laidTests := true, laidLooks := .later }
def PathsStartsCardSaid : Prop := Claim7.holds Tryz.pinned (.plain (OpenSpec.ofChange pathsStartsSpec)) pathsStartsCard

/-- THE TIED CARD OF 'skipgraphlaw37.AuditTables'. -/
def auditTablesCard : Claim7 := { stood := { row := auditTablesRow, standIns := [], harness := (true, "bc52ba4cca4e3e1b91e25d3f1fabfa31604fe2cca83b10bd1cfa13474e53fd42"), looks := false }, kinds := [], alts := [], laidByText := true, laidKinds := [.data], laidTests := true, laidLooks := .later }
def AuditTablesCardSaid : Prop := Claim7.holds Tryz.pinned (.plain (OpenSpec.ofChange auditTablesSpec)) auditTablesCard

/-- THE TIED CARD OF 'skipgraphlaw30.PathsCuts'. -/
def pathsCutsCard : Claim7 := { stood := { row := pathsCutsRow, standIns := [], harness := (true, "bc52ba4cca4e3e1b91e25d3f1fabfa31604fe2cca83b10bd1cfa13474e53fd42"), looks := false }, kinds := [], alts := [], laidByText := true, laidKinds := [.data], laidTests := true, laidLooks := .later }
def PathsCutsCardSaid : Prop := Claim7.holds Tryz.pinned (.plain (OpenSpec.ofChange pathsCutsSpec)) pathsCutsCard

/-- THE TIED CARD OF 'skipgraphlaw30.PathsMoment'. -/
def pathsMomentCard : Claim7 := { stood := { row := pathsMomentRow, standIns := [], harness := (true, "bc52ba4cca4e3e1b91e25d3f1fabfa31604fe2cca83b10bd1cfa13474e53fd42"), looks := false }, kinds := [], alts := [], laidByText := true, laidKinds := [.data], laidTests := true, laidLooks := .later }
def PathsMomentCardSaid : Prop := Claim7.holds Tryz.pinned (.plain (OpenSpec.ofChange pathsMomentSpec)) pathsMomentCard

/-- THE TIED CARD OF 'skipgraphlaw30.PathsAgain'. -/
def pathsAgainCard : Claim7 := { stood := { row := pathsAgainRow, standIns := [], harness := (true, "bc52ba4cca4e3e1b91e25d3f1fabfa31604fe2cca83b10bd1cfa13474e53fd42"), looks := false }, kinds := [], alts := [], laidByText := true, laidKinds := [.data], laidTests := true, laidLooks := .later }
def PathsAgainCardSaid : Prop := Claim7.holds Tryz.pinned (.plain (OpenSpec.ofChange pathsAgainSpec)) pathsAgainCard

/-- THE TIED CARD OF 'skipgraphlaw30.PathsSteps'. -/
def pathsStepsCard : Claim7 := { stood := { row := pathsStepsRow, standIns := [], harness := (true, "bc52ba4cca4e3e1b91e25d3f1fabfa31604fe2cca83b10bd1cfa13474e53fd42"), looks := false }, kinds := [], alts := [], laidByText := true, laidKinds := [.data], laidTests := true, laidLooks := .later }
def PathsStepsCardSaid : Prop := Claim7.holds Tryz.pinned (.plain (OpenSpec.ofChange pathsStepsSpec)) pathsStepsCard

/-- THE SECOND FORM's CARD OF 'skipgraphlaw30.PathsSplits'. -/
def pathsSplitsUptoCard : Claim7 := { stood := { row := pathsSplitsUptoRow, standIns := [], harness := (true, "bc52ba4cca4e3e1b91e25d3f1fabfa31604fe2cca83b10bd1cfa13474e53fd42"), looks := false }, kinds := [], alts := [], laidByText := true, laidKinds := [.data], laidTests := true, laidLooks := .later }
def PathsSplitsUptoCardSaid : Prop := Claim7.holds Tryz.pinned (.plain (OpenSpec.upto pathsSplitsSpec)) pathsSplitsUptoCard

/-- THE SECOND FORM's CARD OF 'skipgraphlaw30.PathsStarts'. -/
def pathsStartsUptoCard : Claim7 := { stood := { row := pathsStartsUptoRow, standIns := [], harness := (true, "bc52ba4cca4e3e1b91e25d3f1fabfa31604fe2cca83b10bd1cfa13474e53fd42"), looks := false }, kinds := [], alts := [], laidByText := true, laidKinds := [.data], laidTests := true, laidLooks := .later }
def PathsStartsUptoCardSaid : Prop := Claim7.holds Tryz.pinned (.plain (OpenSpec.upto pathsStartsSpec)) pathsStartsUptoCard

/-- THE SECOND FORM's CARD OF 'skipgraphlaw37.AuditTables'. -/
def auditTablesUptoCard : Claim7 := { stood := { row := auditTablesUptoRow, standIns := [], harness := (true, "bc52ba4cca4e3e1b91e25d3f1fabfa31604fe2cca83b10bd1cfa13474e53fd42"), looks := false }, kinds := [], alts := [], laidByText := true, laidKinds := [.data], laidTests := true, laidLooks := .later }
def AuditTablesUptoCardSaid : Prop := Claim7.holds Tryz.pinned (.plain (OpenSpec.upto auditTablesSpec)) auditTablesUptoCard

/-- THE SECOND FORM's CARD OF 'skipgraphlaw30.PathsCuts'. -/
def pathsCutsUptoCard : Claim7 := { stood := { row := pathsCutsUptoRow, standIns := [], harness := (true, "bc52ba4cca4e3e1b91e25d3f1fabfa31604fe2cca83b10bd1cfa13474e53fd42"), looks := false }, kinds := [], alts := [], laidByText := true, laidKinds := [.data], laidTests := true, laidLooks := .later }
def PathsCutsUptoCardSaid : Prop := Claim7.holds Tryz.pinned (.plain (OpenSpec.upto pathsCutsSpec)) pathsCutsUptoCard

/-- THE SECOND FORM's CARD OF 'skipgraphlaw30.PathsMoment'. -/
def pathsMomentUptoCard : Claim7 := { stood := { row := pathsMomentUptoRow, standIns := [], harness := (true, "bc52ba4cca4e3e1b91e25d3f1fabfa31604fe2cca83b10bd1cfa13474e53fd42"), looks := false }, kinds := [], alts := [], laidByText := true, laidKinds := [.data], laidTests := true, laidLooks := .later }
def PathsMomentUptoCardSaid : Prop := Claim7.holds Tryz.pinned (.plain (OpenSpec.upto pathsMomentSpec)) pathsMomentUptoCard

/-- THE SECOND FORM's CARD OF 'skipgraphlaw30.PathsAgain'. -/
def pathsAgainUptoCard : Claim7 := { stood := { row := pathsAgainUptoRow, standIns := [], harness := (true, "bc52ba4cca4e3e1b91e25d3f1fabfa31604fe2cca83b10bd1cfa13474e53fd42"), looks := false }, kinds := [], alts := [], laidByText := true, laidKinds := [.data], laidTests := true, laidLooks := .later }
def PathsAgainUptoCardSaid : Prop := Claim7.holds Tryz.pinned (.plain (OpenSpec.upto pathsAgainSpec)) pathsAgainUptoCard

/-- THE SECOND FORM's CARD OF 'skipgraphlaw30.PathsSteps'. -/
def pathsStepsUptoCard : Claim7 := { stood := { row := pathsStepsUptoRow, standIns := [], harness := (true, "bc52ba4cca4e3e1b91e25d3f1fabfa31604fe2cca83b10bd1cfa13474e53fd42"), looks := false }, kinds := [], alts := [], laidByText := true, laidKinds := [.data], laidTests := true, laidLooks := .later }
def PathsStepsUptoCardSaid : Prop := Claim7.holds Tryz.pinned (.plain (OpenSpec.upto pathsStepsSpec)) pathsStepsUptoCard
end Rows
end Go.Proofs.YtkcmgbbopedacaaGreatDoor

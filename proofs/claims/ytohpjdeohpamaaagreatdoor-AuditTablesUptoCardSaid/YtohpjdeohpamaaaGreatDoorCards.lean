/-
  DERIVED. GIVEN WITH THE SEED: THE CARDS: each row of YtohpjdeohpamaaaGreatDoorRows.lean that lists a variable, with what it lists TIED to the program's text (the seventh form; the later family's looks); each row that meets fmt, with fmt's text TOLD by the authors' own Lean function (tested against real Go, not proved from fmt's source: count such statements apart). THE CARD IS WHAT COUNTS. Prove the row's statement (the work); the ties are given (YtohpjdeohpamaaaGreatDoorTie.lean); close each card by the builder's one call (the guide's Derived/Test/ToyasCard.lean, 'card_holds'). Laid BY PROGRAM, IN A SANDBOX (cutbox-door.mjs). By AI agents, Wed Nov 11 2026. No macro, syntax, notation, axiom, sorry.
-/
import Derived.Test.YtohpjdeohpamaaaGreatDoorRows
import GoSem.ClaimSeven
namespace Go.Proofs.YtohpjdeohpamaaaGreatDoor
namespace Rows

/-- THE TIED CARD OF 'skipgraphlaw37.AuditMoments'. -/
def auditMomentsCard : Claim7 := { stood := { row := auditMomentsRow, standIns := [], harness := (true, "d2d3107b0820a9f5091fd01a3d6d275d01920ea36263fdb044ad119475e566b0"), looks := false }, kinds := [], alts := [], laidByText := true, laidKinds := [.data], laidTests := true, laidLooks := .later }
def AuditMomentsCardSaid : Prop := Claim7.holds Tryz.pinned (.plain (OpenSpec.ofChange auditMomentsSpec)) auditMomentsCard

/-- THE TIED CARD OF 'skipgraphlaw37.AuditChecks'. -/
def auditChecksCard : Claim7 := { stood := { row := auditChecksRow, standIns := [], harness := (true, "d2d3107b0820a9f5091fd01a3d6d275d01920ea36263fdb044ad119475e566b0"), looks := false }, kinds := [], alts := [], laidByText := true, laidKinds := [.data], laidTests := true, laidLooks := .later }
def AuditChecksCardSaid : Prop := Claim7.holds Tryz.pinned (.plain (OpenSpec.ofChange auditChecksSpec)) auditChecksCard

/-- THE TIED CARD OF 'skipgraphlaw37.AuditPrefix'. -/
def auditPrefixCard : Claim7 := { stood := { row := auditPrefixRow, standIns := [], harness := (true, "d2d3107b0820a9f5091fd01a3d6d275d01920ea36263fdb044ad119475e566b0"), looks := false }, kinds := [], alts := [], laidByText := true, laidKinds := [.data], laidTests := true, laidLooks := .later }
def AuditPrefixCardSaid : Prop := Claim7.holds Tryz.pinned (.plain (OpenSpec.ofChange auditPrefixSpec)) auditPrefixCard

/-- THE TIED CARD OF 'skipgraphlaw37.AuditFinds'. -/
def auditFindsCard : Claim7 := { stood := { row := auditFindsRow, standIns := [], harness := (true, "d2d3107b0820a9f5091fd01a3d6d275d01920ea36263fdb044ad119475e566b0"), looks := false }, kinds := [], alts := [], laidByText := true, laidKinds := [.data], laidTests := true, laidLooks := .later }
def AuditFindsCardSaid : Prop := Claim7.holds Tryz.pinned (.plain (OpenSpec.ofChange auditFindsSpec)) auditFindsCard

/-- THE TIED CARD OF 'skipgraphlaw37.AuditRefuses'. -/
def auditRefusesCard : Claim7 := { stood := { row := auditRefusesRow, standIns := [], harness := (true, "d2d3107b0820a9f5091fd01a3d6d275d01920ea36263fdb044ad119475e566b0"), looks := false }, kinds := [], alts := [], laidByText := true, laidKinds := [.data], laidTests := true, laidLooks := .later }
def AuditRefusesCardSaid : Prop := Claim7.holds Tryz.pinned (.plain (OpenSpec.ofChange auditRefusesSpec)) auditRefusesCard

/-- THE TIED CARD OF 'skipgraphlaw37.AuditTables'. -/
def auditTablesCard : Claim7 := { stood := { row := auditTablesRow, standIns := [], harness := (true, "d2d3107b0820a9f5091fd01a3d6d275d01920ea36263fdb044ad119475e566b0"), looks := false }, kinds := [], alts := [], laidByText := true, laidKinds := [.data], laidTests := true, laidLooks := .later }
def AuditTablesCardSaid : Prop := Claim7.holds Tryz.pinned (.plain (OpenSpec.ofChange auditTablesSpec)) auditTablesCard

/-- THE SECOND FORM's CARD OF 'skipgraphlaw37.AuditMoments'. -/
def auditMomentsUptoCard : Claim7 := { stood := { row := auditMomentsUptoRow, standIns := [], harness := (true, "d2d3107b0820a9f5091fd01a3d6d275d01920ea36263fdb044ad119475e566b0"), looks := false }, kinds := [], alts := [], laidByText := true, laidKinds := [.data], laidTests := true, laidLooks := .later }
def AuditMomentsUptoCardSaid : Prop := Claim7.holds Tryz.pinned (.plain (OpenSpec.upto auditMomentsSpec)) auditMomentsUptoCard

/-- THE SECOND FORM's CARD OF 'skipgraphlaw37.AuditChecks'. -/
def auditChecksUptoCard : Claim7 := { stood := { row := auditChecksUptoRow, standIns := [], harness := (true, "d2d3107b0820a9f5091fd01a3d6d275d01920ea36263fdb044ad119475e566b0"), looks := false }, kinds := [], alts := [], laidByText := true, laidKinds := [.data], laidTests := true, laidLooks := .later }
def AuditChecksUptoCardSaid : Prop := Claim7.holds Tryz.pinned (.plain (OpenSpec.upto auditChecksSpec)) auditChecksUptoCard

/-- THE SECOND FORM's CARD OF 'skipgraphlaw37.AuditPrefix'. -/
def auditPrefixUptoCard : Claim7 := { stood := { row := auditPrefixUptoRow, standIns := [], harness := (true, "d2d3107b0820a9f5091fd01a3d6d275d01920ea36263fdb044ad119475e566b0"), looks := false }, kinds := [], alts := [], laidByText := true, laidKinds := [.data], laidTests := true, laidLooks := .later }
def AuditPrefixUptoCardSaid : Prop := Claim7.holds Tryz.pinned (.plain (OpenSpec.upto auditPrefixSpec)) auditPrefixUptoCard

/-- THE SECOND FORM's CARD OF 'skipgraphlaw37.AuditFinds'. -/
def auditFindsUptoCard : Claim7 := { stood := { row := auditFindsUptoRow, standIns := [], harness := (true, "d2d3107b0820a9f5091fd01a3d6d275d01920ea36263fdb044ad119475e566b0"), looks := false }, kinds := [], alts := [], laidByText := true, laidKinds := [.data], laidTests := true, laidLooks := .later }
def AuditFindsUptoCardSaid : Prop := Claim7.holds Tryz.pinned (.plain (OpenSpec.upto auditFindsSpec)) auditFindsUptoCard

/-- THE SECOND FORM's CARD OF 'skipgraphlaw37.AuditRefuses'. -/
def auditRefusesUptoCard : Claim7 := { stood := { row := auditRefusesUptoRow, standIns := [], harness := (true, "d2d3107b0820a9f5091fd01a3d6d275d01920ea36263fdb044ad119475e566b0"), looks := false }, kinds := [], alts := [], laidByText := true, laidKinds := [.data], laidTests := true, laidLooks := .later }
def AuditRefusesUptoCardSaid : Prop := Claim7.holds Tryz.pinned (.plain (OpenSpec.upto auditRefusesSpec)) auditRefusesUptoCard

/-- THE SECOND FORM's CARD OF 'skipgraphlaw37.AuditTables'. -/
def auditTablesUptoCard : Claim7 := { stood := { row := auditTablesUptoRow, standIns := [], harness := (true, "d2d3107b0820a9f5091fd01a3d6d275d01920ea36263fdb044ad119475e566b0"), looks := false }, kinds := [], alts := [], laidByText := true, laidKinds := [.data], laidTests := true, laidLooks := .later }
def AuditTablesUptoCardSaid : Prop := Claim7.holds Tryz.pinned (.plain (OpenSpec.upto auditTablesSpec)) auditTablesUptoCard
end Rows
end Go.Proofs.YtohpjdeohpamaaaGreatDoor

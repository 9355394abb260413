/-
  DERIVED. GIVEN WITH THE SEED: THE CARDS: each row of YtlbnhhfaedhgfaaDoorRows.lean that lists a variable, with what it lists TIED to the program's text (the seventh form; the later family's looks); each row that meets fmt, with fmt's text TOLD by the authors' own Lean function (tested against real Go, not proved from fmt's source: count such statements apart). THE CARD IS WHAT COUNTS. Prove the row's statement (the work); the ties are given (YtlbnhhfaedhgfaaDoorTie.lean); close each card by the builder's one call (the guide's Derived/Test/ToyasCard.lean, 'card_holds'). Laid BY PROGRAM, IN A SANDBOX (cutbox-door.mjs). By AI agents, Wed Nov 11 2026. No macro, syntax, notation, axiom, sorry.
-/
import Derived.Test.YtlbnhhfaedhgfaaDoorRows
import GoSem.ClaimSeven
namespace Go.Proofs.YtlbnhhfaedhgfaaDoor
namespace Rows

/-- THE TIED CARD OF 'skipgraphlaw28.WalkStarts'. -/
def walkStartsCard : Claim7 := { stood := { row := walkStartsRow, standIns := [], harness := (true, "e757ef7a579649298ac41d20f44805bbfb7a21a434e5886e1c04a1d71e65d56d"), looks := false }, kinds := [], alts := [], laidByText := true, laidKinds := [.data], laidTests := true, laidLooks := .later }
def WalkStartsCardSaid : Prop := Claim7.holds Tryd.pinned (.plain (OpenSpec.ofChange walkStartsSpec)) walkStartsCard

/-- THE SECOND FORM's CARD OF 'skipgraphlaw28.WalkStarts'. -/
def walkStartsUptoCard : Claim7 := { stood := { row := walkStartsUptoRow, standIns := [], harness := (true, "e757ef7a579649298ac41d20f44805bbfb7a21a434e5886e1c04a1d71e65d56d"), looks := false }, kinds := [], alts := [], laidByText := true, laidKinds := [.data], laidTests := true, laidLooks := .later }
def WalkStartsUptoCardSaid : Prop := Claim7.holds Tryd.pinned (.plain (OpenSpec.upto walkStartsSpec)) walkStartsUptoCard
end Rows
end Go.Proofs.YtlbnhhfaedhgfaaDoor

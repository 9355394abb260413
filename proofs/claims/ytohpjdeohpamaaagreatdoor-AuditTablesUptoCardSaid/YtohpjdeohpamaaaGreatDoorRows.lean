/-
  NARROWER THAN 'FOR EVERY INPUT', by the rows' own cells (each row's printed sentence says how): AuditMoments: laid · AuditChecks: laid · AuditPrefix: laid · AuditFinds: laid · AuditRefuses: laid · AuditTables: laid.
  DERIVED. THE GIVEN ROWS OF THIS SEAT. 6 by the template 'for every input the law returns true; each argument reads behind the call as it read before'; 0 by the template 'total and deterministic' (their statements: YtohpjdeohpamaaaGreatDoorTotals.lean).
  GIVEN WITH THE SEED: the statements are not yours to turn. If you find one false, say at which input.
  Laid BY PROGRAM, IN A SANDBOX (cutbox-rows.mjs): the forced cells as the released guide's own fill.sh prints them over the translation 54d6fb9c11d1ff7f… (all of the seat's roots in one cut). By AI agents, Wed Nov 11 2026. No macro, syntax, notation, axiom, sorry.
-/
import Derived.Test.YtohpjdeohpamaaaGreatDoorChecked
import GoSem.Claim
import GoSem.ClaimJoined
import GoSem.ClaimMapViews
import Derived.JoinedTies
import Derived.KernelRfl
namespace Go.Proofs.YtohpjdeohpamaaaGreatDoor
/- THE CELL 'sum', in the pinned program and in every row, IS THE sha256 OF THE DUMP (.gsa) THAT YtohpjdeohpamaaaGreatDoorProg.lean LOADS. Nothing in Lean hashes anything: it is a label: what it is worth is what the hold of that sum in a sandbox is worth. -/
noncomputable def Tryz.pinned : Pinned := { name := "ytohpjdeohpamaaagreatdoor", sum := "54d6fb9c11d1ff7f5376cec764affb1ac4004c77af0dfb25718522176158e152", checked := Tryz.checked }
namespace Rows
def none {H : Type} : Left H := { results := [], args := [] }

/- WHAT THE LISTED PACKAGE-LEVEL VARIABLES READ AS WHEN THE CALL BEGINS. Each datum BY PROGRAM (the guide's laid-datum.mjs) off the statement by which the dump's own 'gosem.cut.vars' lays the variable. In a bare row this is a premise. The card (YtohpjdeohpamaaaGreatDoorCards.lean) ties it to the program's text. -/
def laid_skipgraph_skipgraphworld_letters {H : Type} : DataW H := .agg [.lit (.string [97]), .lit (.string [98]), .lit (.string [99]), .lit (.string [0]), .lit (.string [255]), .lit (.string [109])]

/-- 'skipgraphlaw37.AuditMoments': WHATEVER THE INPUT: true; the input reads as it did. -/
def auditMomentsSpec : ChangeSpec := { name := "auditMoments", fn := fun _ => fun
  | [d1, d2, d3, d4] => { results := [.lit (.bool true)], args := [d1, d2, d3, d4] }
  | _ => none }
def auditMomentsRow : OpenClaim := { program := "ytohpjdeohpamaaagreatdoor", sum := "54d6fb9c11d1ff7f5376cec764affb1ac4004c77af0dfb25718522176158e152", func := "skipgraph/skipgraphlaw37.AuditMoments", spec := "auditMoments", unfollowed := true, recurses := true, named := ["skipgraph/skipgraphworld.letters"], apart := false, laid := [("skipgraph/skipgraphworld.letters", laid_skipgraph_skipgraphworld_letters)] }
def AuditMomentsSaid : Prop := auditMomentsRow.holds Tryz.pinned (OpenSpec.ofChange auditMomentsSpec)

/-- ITS FALSE NEIGHBOUR: 'it returns false'. Refute it at one input. -/
def auditMomentsWrong : ChangeSpec := { name := "auditMoments", fn := fun _ => fun
  | [d1, d2, d3, d4] => { results := [.lit (.bool false)], args := [d1, d2, d3, d4] }
  | _ => none }
def AuditMomentsWrongFalsely : Prop := auditMomentsRow.holds Tryz.pinned (OpenSpec.ofChange auditMomentsWrong)

/-- 'skipgraphlaw37.AuditChecks': WHATEVER THE INPUT: true; the input reads as it did. -/
def auditChecksSpec : ChangeSpec := { name := "auditChecks", fn := fun _ => fun
  | [d] => { results := [.lit (.bool true)], args := [d] }
  | _ => none }
def auditChecksRow : OpenClaim := { program := "ytohpjdeohpamaaagreatdoor", sum := "54d6fb9c11d1ff7f5376cec764affb1ac4004c77af0dfb25718522176158e152", func := "skipgraph/skipgraphlaw37.AuditChecks", spec := "auditChecks", unfollowed := true, recurses := true, named := ["skipgraph/skipgraphworld.letters"], apart := false, laid := [("skipgraph/skipgraphworld.letters", laid_skipgraph_skipgraphworld_letters)] }
def AuditChecksSaid : Prop := auditChecksRow.holds Tryz.pinned (OpenSpec.ofChange auditChecksSpec)

/-- ITS FALSE NEIGHBOUR: 'it returns false'. Refute it at one input. -/
def auditChecksWrong : ChangeSpec := { name := "auditChecks", fn := fun _ => fun
  | [d] => { results := [.lit (.bool false)], args := [d] }
  | _ => none }
def AuditChecksWrongFalsely : Prop := auditChecksRow.holds Tryz.pinned (OpenSpec.ofChange auditChecksWrong)

/-- 'skipgraphlaw37.AuditPrefix': WHATEVER THE INPUT: true; the input reads as it did. -/
def auditPrefixSpec : ChangeSpec := { name := "auditPrefix", fn := fun _ => fun
  | [d] => { results := [.lit (.bool true)], args := [d] }
  | _ => none }
def auditPrefixRow : OpenClaim := { program := "ytohpjdeohpamaaagreatdoor", sum := "54d6fb9c11d1ff7f5376cec764affb1ac4004c77af0dfb25718522176158e152", func := "skipgraph/skipgraphlaw37.AuditPrefix", spec := "auditPrefix", unfollowed := true, recurses := true, named := ["skipgraph/skipgraphworld.letters"], apart := false, laid := [("skipgraph/skipgraphworld.letters", laid_skipgraph_skipgraphworld_letters)] }
def AuditPrefixSaid : Prop := auditPrefixRow.holds Tryz.pinned (OpenSpec.ofChange auditPrefixSpec)

/-- ITS FALSE NEIGHBOUR: 'it returns false'. Refute it at one input. -/
def auditPrefixWrong : ChangeSpec := { name := "auditPrefix", fn := fun _ => fun
  | [d] => { results := [.lit (.bool false)], args := [d] }
  | _ => none }
def AuditPrefixWrongFalsely : Prop := auditPrefixRow.holds Tryz.pinned (OpenSpec.ofChange auditPrefixWrong)

/-- 'skipgraphlaw37.AuditFinds': WHATEVER THE INPUT: true; the input reads as it did. -/
def auditFindsSpec : ChangeSpec := { name := "auditFinds", fn := fun _ => fun
  | [d] => { results := [.lit (.bool true)], args := [d] }
  | _ => none }
def auditFindsRow : OpenClaim := { program := "ytohpjdeohpamaaagreatdoor", sum := "54d6fb9c11d1ff7f5376cec764affb1ac4004c77af0dfb25718522176158e152", func := "skipgraph/skipgraphlaw37.AuditFinds", spec := "auditFinds", unfollowed := true, recurses := true, named := ["skipgraph/skipgraphworld.letters"], apart := false, laid := [("skipgraph/skipgraphworld.letters", laid_skipgraph_skipgraphworld_letters)] }
def AuditFindsSaid : Prop := auditFindsRow.holds Tryz.pinned (OpenSpec.ofChange auditFindsSpec)

/-- ITS FALSE NEIGHBOUR: 'it returns false'. Refute it at one input. -/
def auditFindsWrong : ChangeSpec := { name := "auditFinds", fn := fun _ => fun
  | [d] => { results := [.lit (.bool false)], args := [d] }
  | _ => none }
def AuditFindsWrongFalsely : Prop := auditFindsRow.holds Tryz.pinned (OpenSpec.ofChange auditFindsWrong)

/-- 'skipgraphlaw37.AuditRefuses': WHATEVER THE INPUT: true; the input reads as it did. -/
def auditRefusesSpec : ChangeSpec := { name := "auditRefuses", fn := fun _ => fun
  | [d1, d2] => { results := [.lit (.bool true)], args := [d1, d2] }
  | _ => none }
def auditRefusesRow : OpenClaim := { program := "ytohpjdeohpamaaagreatdoor", sum := "54d6fb9c11d1ff7f5376cec764affb1ac4004c77af0dfb25718522176158e152", func := "skipgraph/skipgraphlaw37.AuditRefuses", spec := "auditRefuses", unfollowed := true, recurses := true, named := ["skipgraph/skipgraphworld.letters"], apart := false, laid := [("skipgraph/skipgraphworld.letters", laid_skipgraph_skipgraphworld_letters)] }
def AuditRefusesSaid : Prop := auditRefusesRow.holds Tryz.pinned (OpenSpec.ofChange auditRefusesSpec)

/-- ITS FALSE NEIGHBOUR: 'it returns false'. Refute it at one input. -/
def auditRefusesWrong : ChangeSpec := { name := "auditRefuses", fn := fun _ => fun
  | [d1, d2] => { results := [.lit (.bool false)], args := [d1, d2] }
  | _ => none }
def AuditRefusesWrongFalsely : Prop := auditRefusesRow.holds Tryz.pinned (OpenSpec.ofChange auditRefusesWrong)

/-- 'skipgraphlaw37.AuditTables': WHATEVER THE INPUT: true; the input reads as it did. -/
def auditTablesSpec : ChangeSpec := { name := "auditTables", fn := fun _ => fun
  | [d1, d2, d3] => { results := [.lit (.bool true)], args := [d1, d2, d3] }
  | _ => none }
def auditTablesRow : OpenClaim := { program := "ytohpjdeohpamaaagreatdoor", sum := "54d6fb9c11d1ff7f5376cec764affb1ac4004c77af0dfb25718522176158e152", func := "skipgraph/skipgraphlaw37.AuditTables", spec := "auditTables", unfollowed := true, recurses := true, named := ["skipgraph/skipgraphworld.letters"], apart := false, laid := [("skipgraph/skipgraphworld.letters", laid_skipgraph_skipgraphworld_letters)] }
def AuditTablesSaid : Prop := auditTablesRow.holds Tryz.pinned (OpenSpec.ofChange auditTablesSpec)

/-- ITS FALSE NEIGHBOUR: 'it returns false'. Refute it at one input. -/
def auditTablesWrong : ChangeSpec := { name := "auditTables", fn := fun _ => fun
  | [d1, d2, d3] => { results := [.lit (.bool false)], args := [d1, d2, d3] }
  | _ => none }
def AuditTablesWrongFalsely : Prop := auditTablesRow.holds Tryz.pinned (OpenSpec.ofChange auditTablesWrong)

/- THE SECOND FORM. 'bulk': how many values and letters a reading holds, each counted each time it is reached (what is shared counts as often as it is met; a slice's spare places count too). A statement '..UptoSaid' is the law's where the arguments, and the package variables that the reading takes, are together of bulk at most 1048576: NARROWER than '..Said'. Prove '..Said' where nothing that the law and all that it calls make is longer than what came in: it says more and counts as full. Else prove '..UptoSaid'. A law counts once. -/
mutual
def uptoBulk {H : Type} : DataW H → Nat
  | .lit (.string bytes) => bytes.length + 1
  | .lit _ => 1
  | .nil => 1
  | .ptr d => uptoBulk d + 1
  | .slice elems spare => uptoBulkAll elems + uptoBulkAll spare + 1
  | .agg parts => uptoBulkAll parts + 1
  | .iface _ d => uptoBulk d + 1
  | .map entries => uptoBulkEntries entries + 1
  | .held _ => 1
def uptoBulkAll {H : Type} : List (DataW H) → Nat
  | [] => 0
  | d :: r => uptoBulk d + uptoBulkAll r
def uptoBulkEntries {H : Type} : List (Lit × DataW H) → Nat
  | [] => 0
  | x :: r => uptoBulkEntry x + uptoBulkEntries r
def uptoBulkEntry {H : Type} : Lit × DataW H → Nat
  | (.string bytes, d) => bytes.length + uptoBulk d + 1
  | (_, d) => uptoBulk d + 1
 end
def uptoSmall : (H : Type) → List (DataW H) → Bool := fun _ ds => decide (uptoBulkAll ds ≤ 1048576)
def OpenSpec.upto (s : _root_.Go.ChangeSpec) : _root_.Go.OpenSpec := { _root_.Go.OpenSpec.ofChange s with cond := some uptoSmall }

/-- 'skipgraphlaw37.AuditMoments', WHERE WHAT IT READS IS OF BULK AT MOST 1048576: true; the input reads as it did. -/
def auditMomentsUptoRow : OpenClaim := { program := "ytohpjdeohpamaaagreatdoor", sum := "54d6fb9c11d1ff7f5376cec764affb1ac4004c77af0dfb25718522176158e152", func := "skipgraph/skipgraphlaw37.AuditMoments", spec := "auditMoments", unfollowed := true, recurses := true, named := ["skipgraph/skipgraphworld.letters"], apart := false, laid := [("skipgraph/skipgraphworld.letters", laid_skipgraph_skipgraphworld_letters)], narrowed := true }
def AuditMomentsUptoSaid : Prop := auditMomentsUptoRow.holds Tryz.pinned (OpenSpec.upto auditMomentsSpec)

/-- 'skipgraphlaw37.AuditChecks', WHERE WHAT IT READS IS OF BULK AT MOST 1048576: true; the input reads as it did. -/
def auditChecksUptoRow : OpenClaim := { program := "ytohpjdeohpamaaagreatdoor", sum := "54d6fb9c11d1ff7f5376cec764affb1ac4004c77af0dfb25718522176158e152", func := "skipgraph/skipgraphlaw37.AuditChecks", spec := "auditChecks", unfollowed := true, recurses := true, named := ["skipgraph/skipgraphworld.letters"], apart := false, laid := [("skipgraph/skipgraphworld.letters", laid_skipgraph_skipgraphworld_letters)], narrowed := true }
def AuditChecksUptoSaid : Prop := auditChecksUptoRow.holds Tryz.pinned (OpenSpec.upto auditChecksSpec)

/-- 'skipgraphlaw37.AuditPrefix', WHERE WHAT IT READS IS OF BULK AT MOST 1048576: true; the input reads as it did. -/
def auditPrefixUptoRow : OpenClaim := { program := "ytohpjdeohpamaaagreatdoor", sum := "54d6fb9c11d1ff7f5376cec764affb1ac4004c77af0dfb25718522176158e152", func := "skipgraph/skipgraphlaw37.AuditPrefix", spec := "auditPrefix", unfollowed := true, recurses := true, named := ["skipgraph/skipgraphworld.letters"], apart := false, laid := [("skipgraph/skipgraphworld.letters", laid_skipgraph_skipgraphworld_letters)], narrowed := true }
def AuditPrefixUptoSaid : Prop := auditPrefixUptoRow.holds Tryz.pinned (OpenSpec.upto auditPrefixSpec)

/-- 'skipgraphlaw37.AuditFinds', WHERE WHAT IT READS IS OF BULK AT MOST 1048576: true; the input reads as it did. -/
def auditFindsUptoRow : OpenClaim := { program := "ytohpjdeohpamaaagreatdoor", sum := "54d6fb9c11d1ff7f5376cec764affb1ac4004c77af0dfb25718522176158e152", func := "skipgraph/skipgraphlaw37.AuditFinds", spec := "auditFinds", unfollowed := true, recurses := true, named := ["skipgraph/skipgraphworld.letters"], apart := false, laid := [("skipgraph/skipgraphworld.letters", laid_skipgraph_skipgraphworld_letters)], narrowed := true }
def AuditFindsUptoSaid : Prop := auditFindsUptoRow.holds Tryz.pinned (OpenSpec.upto auditFindsSpec)

/-- 'skipgraphlaw37.AuditRefuses', WHERE WHAT IT READS IS OF BULK AT MOST 1048576: true; the input reads as it did. -/
def auditRefusesUptoRow : OpenClaim := { program := "ytohpjdeohpamaaagreatdoor", sum := "54d6fb9c11d1ff7f5376cec764affb1ac4004c77af0dfb25718522176158e152", func := "skipgraph/skipgraphlaw37.AuditRefuses", spec := "auditRefuses", unfollowed := true, recurses := true, named := ["skipgraph/skipgraphworld.letters"], apart := false, laid := [("skipgraph/skipgraphworld.letters", laid_skipgraph_skipgraphworld_letters)], narrowed := true }
def AuditRefusesUptoSaid : Prop := auditRefusesUptoRow.holds Tryz.pinned (OpenSpec.upto auditRefusesSpec)

/-- 'skipgraphlaw37.AuditTables', WHERE WHAT IT READS IS OF BULK AT MOST 1048576: true; the input reads as it did. -/
def auditTablesUptoRow : OpenClaim := { program := "ytohpjdeohpamaaagreatdoor", sum := "54d6fb9c11d1ff7f5376cec764affb1ac4004c77af0dfb25718522176158e152", func := "skipgraph/skipgraphlaw37.AuditTables", spec := "auditTables", unfollowed := true, recurses := true, named := ["skipgraph/skipgraphworld.letters"], apart := false, laid := [("skipgraph/skipgraphworld.letters", laid_skipgraph_skipgraphworld_letters)], narrowed := true }
def AuditTablesUptoSaid : Prop := auditTablesUptoRow.holds Tryz.pinned (OpenSpec.upto auditTablesSpec)

end Rows
end Go.Proofs.YtohpjdeohpamaaaGreatDoor

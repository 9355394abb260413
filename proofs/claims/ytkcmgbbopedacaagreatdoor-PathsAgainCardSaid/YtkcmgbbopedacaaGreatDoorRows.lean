/-
  NARROWER THAN 'FOR EVERY INPUT', by the rows' own cells (each row's printed sentence says how): PathsSplits: laid · PathsStarts: laid · AuditTables: laid · PathsCuts: laid · PathsMoment: laid · PathsAgain: laid · PathsSteps: laid.
  DERIVED. THE GIVEN ROWS OF THIS SEAT. 7 by the template 'for every input the law returns true; each argument reads behind the call as it read before'; 0 by the template 'total and deterministic' (their statements: YtkcmgbbopedacaaGreatDoorTotals.lean).
  GIVEN WITH THE SEED: the statements are not yours to turn. If you find one false, say at which input.
  Laid BY PROGRAM, IN A SANDBOX (cutbox-rows.mjs): the forced cells as the released guide's own fill.sh prints them over the translation 4b07ed6710418c9c… (all of the seat's roots in one cut). By AI agents, Wed Nov 11 2026. No macro, syntax, notation, axiom, sorry.
-/
import Derived.Test.YtkcmgbbopedacaaGreatDoorChecked
import GoSem.Claim
import GoSem.ClaimJoined
import GoSem.ClaimMapViews
import Derived.JoinedTies
import Derived.KernelRfl
namespace Go.Proofs.YtkcmgbbopedacaaGreatDoor
/- THE CELL 'sum', in the pinned program and in every row, IS THE sha256 OF THE DUMP (.gsa) THAT YtkcmgbbopedacaaGreatDoorProg.lean LOADS. Nothing in Lean hashes anything: it is a label: what it is worth is what the hold of that sum in a sandbox is worth. -/
noncomputable def Tryz.pinned : Pinned := { name := "ytkcmgbbopedacaagreatdoor", sum := "4b07ed6710418c9cb6b8376cb1030278aba8aa6df6b5ef81e3e0255a4bbe3339", checked := Tryz.checked }
namespace Rows
def none {H : Type} : Left H := { results := [], args := [] }

/- WHAT THE LISTED PACKAGE-LEVEL VARIABLES READ AS WHEN THE CALL BEGINS. Each datum BY PROGRAM (the guide's laid-datum.mjs) off the statement by which the dump's own 'gosem.cut.vars' lays the variable. In a bare row this is a premise. The card (YtkcmgbbopedacaaGreatDoorCards.lean) ties it to the program's text. -/
def laid_skipgraph_skipgraphworld_letters {H : Type} : DataW H := .agg [.lit (.string [97]), .lit (.string [98]), .lit (.string [99]), .lit (.string [0]), .lit (.string [255]), .lit (.string [109])]

/-- 'skipgraphlaw30.PathsSplits': WHATEVER THE INPUT: true; the input reads as it did. -/
def pathsSplitsSpec : ChangeSpec := { name := "pathsSplits", fn := fun _ => fun
  | [d1, d2, d3] => { results := [.lit (.bool true)], args := [d1, d2, d3] }
  | _ => none }
def pathsSplitsRow : OpenClaim := { program := "ytkcmgbbopedacaagreatdoor", sum := "4b07ed6710418c9cb6b8376cb1030278aba8aa6df6b5ef81e3e0255a4bbe3339", func := "skipgraph/skipgraphlaw30.PathsSplits", spec := "pathsSplits", inPlace := ["internal/reflectlite.ValueOf", "internal/reflectlite.Swapper", "(internal/reflectlite.Value).Len"], unfollowed := true, recurses := true, named := ["skipgraph/skipgraphworld.letters"], apart := false, laid := [("skipgraph/skipgraphworld.letters", laid_skipgraph_skipgraphworld_letters)] }
def PathsSplitsSaid : Prop := pathsSplitsRow.holds Tryz.pinned (OpenSpec.ofChange pathsSplitsSpec)

/-- ITS FALSE NEIGHBOUR: 'it returns false'. Refute it at one input. -/
def pathsSplitsWrong : ChangeSpec := { name := "pathsSplits", fn := fun _ => fun
  | [d1, d2, d3] => { results := [.lit (.bool false)], args := [d1, d2, d3] }
  | _ => none }
def PathsSplitsWrongFalsely : Prop := pathsSplitsRow.holds Tryz.pinned (OpenSpec.ofChange pathsSplitsWrong)

/-- 'skipgraphlaw30.PathsStarts': WHATEVER THE INPUT: true; the input reads as it did. -/
def pathsStartsSpec : ChangeSpec := { name := "pathsStarts", fn := fun _ => fun
  | [d1, d2, d3] => { results := [.lit (.bool true)], args := [d1, d2, d3] }
  | _ => none }
def pathsStartsRow : OpenClaim := { program := "ytkcmgbbopedacaagreatdoor", sum := "4b07ed6710418c9cb6b8376cb1030278aba8aa6df6b5ef81e3e0255a4bbe3339", func := "skipgraph/skipgraphlaw30.PathsStarts", spec := "pathsStarts", inPlace := ["internal/reflectlite.ValueOf", "internal/reflectlite.Swapper", "(internal/reflectlite.Value).Len"], unfollowed := true, recurses := true, named := ["skipgraph/skipgraphworld.letters"], apart := false, laid := [("skipgraph/skipgraphworld.letters", laid_skipgraph_skipgraphworld_letters)] }
def PathsStartsSaid : Prop := pathsStartsRow.holds Tryz.pinned (OpenSpec.ofChange pathsStartsSpec)

/-- ITS FALSE NEIGHBOUR: 'it returns false'. Refute it at one input. -/
def pathsStartsWrong : ChangeSpec := { name := "pathsStarts", fn := fun _ => fun
  | [d1, d2, d3] => { results := [.lit (.bool false)], args := [d1, d2, d3] }
  | _ => none }
def PathsStartsWrongFalsely : Prop := pathsStartsRow.holds Tryz.pinned (OpenSpec.ofChange pathsStartsWrong)

/-- 'skipgraphlaw37.AuditTables': WHATEVER THE INPUT: true; the input reads as it did. -/
def auditTablesSpec : ChangeSpec := { name := "auditTables", fn := fun _ => fun
  | [d1, d2, d3] => { results := [.lit (.bool true)], args := [d1, d2, d3] }
  | _ => none }
def auditTablesRow : OpenClaim := { program := "ytkcmgbbopedacaagreatdoor", sum := "4b07ed6710418c9cb6b8376cb1030278aba8aa6df6b5ef81e3e0255a4bbe3339", func := "skipgraph/skipgraphlaw37.AuditTables", spec := "auditTables", unfollowed := true, recurses := true, named := ["skipgraph/skipgraphworld.letters"], apart := false, laid := [("skipgraph/skipgraphworld.letters", laid_skipgraph_skipgraphworld_letters)] }
def AuditTablesSaid : Prop := auditTablesRow.holds Tryz.pinned (OpenSpec.ofChange auditTablesSpec)

/-- ITS FALSE NEIGHBOUR: 'it returns false'. Refute it at one input. -/
def auditTablesWrong : ChangeSpec := { name := "auditTables", fn := fun _ => fun
  | [d1, d2, d3] => { results := [.lit (.bool false)], args := [d1, d2, d3] }
  | _ => none }
def AuditTablesWrongFalsely : Prop := auditTablesRow.holds Tryz.pinned (OpenSpec.ofChange auditTablesWrong)

/-- 'skipgraphlaw30.PathsCuts': WHATEVER THE INPUT: true; the input reads as it did. -/
def pathsCutsSpec : ChangeSpec := { name := "pathsCuts", fn := fun _ => fun
  | [d] => { results := [.lit (.bool true)], args := [d] }
  | _ => none }
def pathsCutsRow : OpenClaim := { program := "ytkcmgbbopedacaagreatdoor", sum := "4b07ed6710418c9cb6b8376cb1030278aba8aa6df6b5ef81e3e0255a4bbe3339", func := "skipgraph/skipgraphlaw30.PathsCuts", spec := "pathsCuts", inPlace := ["internal/reflectlite.ValueOf", "internal/reflectlite.Swapper", "(internal/reflectlite.Value).Len"], unfollowed := true, recurses := true, named := ["skipgraph/skipgraphworld.letters"], apart := false, laid := [("skipgraph/skipgraphworld.letters", laid_skipgraph_skipgraphworld_letters)] }
def PathsCutsSaid : Prop := pathsCutsRow.holds Tryz.pinned (OpenSpec.ofChange pathsCutsSpec)

/-- ITS FALSE NEIGHBOUR: 'it returns false'. Refute it at one input. -/
def pathsCutsWrong : ChangeSpec := { name := "pathsCuts", fn := fun _ => fun
  | [d] => { results := [.lit (.bool false)], args := [d] }
  | _ => none }
def PathsCutsWrongFalsely : Prop := pathsCutsRow.holds Tryz.pinned (OpenSpec.ofChange pathsCutsWrong)

/-- 'skipgraphlaw30.PathsMoment': WHATEVER THE INPUT: true; the input reads as it did. -/
def pathsMomentSpec : ChangeSpec := { name := "pathsMoment", fn := fun _ => fun
  | [d] => { results := [.lit (.bool true)], args := [d] }
  | _ => none }
def pathsMomentRow : OpenClaim := { program := "ytkcmgbbopedacaagreatdoor", sum := "4b07ed6710418c9cb6b8376cb1030278aba8aa6df6b5ef81e3e0255a4bbe3339", func := "skipgraph/skipgraphlaw30.PathsMoment", spec := "pathsMoment", inPlace := ["internal/reflectlite.ValueOf", "internal/reflectlite.Swapper", "(internal/reflectlite.Value).Len"], unfollowed := true, recurses := true, named := ["skipgraph/skipgraphworld.letters"], apart := false, laid := [("skipgraph/skipgraphworld.letters", laid_skipgraph_skipgraphworld_letters)] }
def PathsMomentSaid : Prop := pathsMomentRow.holds Tryz.pinned (OpenSpec.ofChange pathsMomentSpec)

/-- ITS FALSE NEIGHBOUR: 'it returns false'. Refute it at one input. -/
def pathsMomentWrong : ChangeSpec := { name := "pathsMoment", fn := fun _ => fun
  | [d] => { results := [.lit (.bool false)], args := [d] }
  | _ => none }
def PathsMomentWrongFalsely : Prop := pathsMomentRow.holds Tryz.pinned (OpenSpec.ofChange pathsMomentWrong)

/-- 'skipgraphlaw30.PathsAgain': WHATEVER THE INPUT: true; the input reads as it did. -/
def pathsAgainSpec : ChangeSpec := { name := "pathsAgain", fn := fun _ => fun
  | [d] => { results := [.lit (.bool true)], args := [d] }
  | _ => none }
def pathsAgainRow : OpenClaim := { program := "ytkcmgbbopedacaagreatdoor", sum := "4b07ed6710418c9cb6b8376cb1030278aba8aa6df6b5ef81e3e0255a4bbe3339", func := "skipgraph/skipgraphlaw30.PathsAgain", spec := "pathsAgain", inPlace := ["internal/reflectlite.ValueOf", "internal/reflectlite.Swapper", "(internal/reflectlite.Value).Len"], unfollowed := true, recurses := true, named := ["skipgraph/skipgraphworld.letters"], apart := false, laid := [("skipgraph/skipgraphworld.letters", laid_skipgraph_skipgraphworld_letters)] }
def PathsAgainSaid : Prop := pathsAgainRow.holds Tryz.pinned (OpenSpec.ofChange pathsAgainSpec)

/-- ITS FALSE NEIGHBOUR: 'it returns false'. Refute it at one input. -/
def pathsAgainWrong : ChangeSpec := { name := "pathsAgain", fn := fun _ => fun
  | [d] => { results := [.lit (.bool false)], args := [d] }
  | _ => none }
def PathsAgainWrongFalsely : Prop := pathsAgainRow.holds Tryz.pinned (OpenSpec.ofChange pathsAgainWrong)

/-- 'skipgraphlaw30.PathsSteps': WHATEVER THE INPUT: true; the input reads as it did. -/
def pathsStepsSpec : ChangeSpec := { name := "pathsSteps", fn := fun _ => fun
  | [d] => { results := [.lit (.bool true)], args := [d] }
  | _ => none }
def pathsStepsRow : OpenClaim := { program := "ytkcmgbbopedacaagreatdoor", sum := "4b07ed6710418c9cb6b8376cb1030278aba8aa6df6b5ef81e3e0255a4bbe3339", func := "skipgraph/skipgraphlaw30.PathsSteps", spec := "pathsSteps", inPlace := ["internal/reflectlite.ValueOf", "internal/reflectlite.Swapper", "(internal/reflectlite.Value).Len"], unfollowed := true, recurses := true, named := ["skipgraph/skipgraphworld.letters"], apart := false, laid := [("skipgraph/skipgraphworld.letters", laid_skipgraph_skipgraphworld_letters)] }
def PathsStepsSaid : Prop := pathsStepsRow.holds Tryz.pinned (OpenSpec.ofChange pathsStepsSpec)

/-- ITS FALSE NEIGHBOUR: 'it returns false'. Refute it at one input. -/
def pathsStepsWrong : ChangeSpec := { name := "pathsSteps", fn := fun _ => fun
  | [d] => { results := [.lit (.bool false)], args := [d] }
  | _ => none }
def PathsStepsWrongFalsely : Prop := pathsStepsRow.holds Tryz.pinned (OpenSpec.ofChange pathsStepsWrong)

/- THE SECOND FORM. 'bulk': how many values and letters a reading holds, each counted each time it is reached (what is shared counts as often as it is met; a slice's spare places count too). A statement '..UptoSaid' is the law's where the arguments, and the package variables that the reading takes, are together of bulk at most 1048576: NARROWER than '..Said'. Prove '..Said' where nothing that the law and all that it calls make is longer than what came in: it says more and counts as full. Else prove '..UptoSaid'. A law counts once. -/
mutual
def uptoBulk {H : Type} : DataW H → Nat
  | .lit (.string bytes) => bytes.length + 1
  | .lit _ => 1
  | .nil => 1
  | .ptr d => uptoBulk d + 1
  | .slice elems spare => uptoBulkAll elems + uptoBulkAll spare + 1
  | .agg parts => uptoBulkAll parts + 1
  | .iface _ d => uptoBulk d + 1
  | .map entries => uptoBulkEntries entries + 1
  | .held _ => 1
def uptoBulkAll {H : Type} : List (DataW H) → Nat
  | [] => 0
  | d :: r => uptoBulk d + uptoBulkAll r
def uptoBulkEntries {H : Type} : List (Lit × DataW H) → Nat
  | [] => 0
  | x :: r => uptoBulkEntry x + uptoBulkEntries r
def uptoBulkEntry {H : Type} : Lit × DataW H → Nat
  | (.string bytes, d) => bytes.length + uptoBulk d + 1
  | (_, d) => uptoBulk d + 1
 end
def uptoSmall : (H : Type) → List (DataW H) → Bool := fun _ ds => decide (uptoBulkAll ds ≤ 1048576)
def OpenSpec.upto (s : _root_.Go.ChangeSpec) : _root_.Go.OpenSpec := { _root_.Go.OpenSpec.ofChange s with cond := some uptoSmall }

/-- 'skipgraphlaw30.PathsSplits', WHERE WHAT IT READS IS OF BULK AT MOST 1048576: true; the input reads as it did. -/
def pathsSplitsUptoRow : OpenClaim := { program := "ytkcmgbbopedacaagreatdoor", sum := "4b07ed6710418c9cb6b8376cb1030278aba8aa6df6b5ef81e3e0255a4bbe3339", func := "skipgraph/skipgraphlaw30.PathsSplits", spec := "pathsSplits", inPlace := ["internal/reflectlite.ValueOf", "internal/reflectlite.Swapper", "(internal/reflectlite.Value).Len"], unfollowed := true, recurses := true, named := ["skipgraph/skipgraphworld.letters"], apart := false, laid := [("skipgraph/skipgraphworld.letters", laid_skipgraph_skipgraphworld_letters)], narrowed := true }
def PathsSplitsUptoSaid : Prop := pathsSplitsUptoRow.holds Tryz.pinned (OpenSpec.upto pathsSplitsSpec)

/-- 'skipgraphlaw30.PathsStarts', WHERE WHAT IT READS IS OF BULK AT MOST 1048576: true; the input reads as it did. -/
def pathsStartsUptoRow : OpenClaim := { program := "ytkcmgbbopedacaagreatdoor", sum := "4b07ed6710418c9cb6b8376cb1030278aba8aa6df6b5ef81e3e0255a4bbe3339", func := "skipgraph/skipgraphlaw30.PathsStarts", spec := "pathsStarts", inPlace := ["internal/reflectlite.ValueOf", "internal/reflectlite.Swapper", "(internal/reflectlite.Value).Len"], unfollowed := true, recurses := true, named := ["skipgraph/skipgraphworld.letters"], apart := false, laid := [("skipgraph/skipgraphworld.letters", laid_skipgraph_skipgraphworld_letters)], narrowed := true }
def PathsStartsUptoSaid : Prop := pathsStartsUptoRow.holds Tryz.pinned (OpenSpec.upto pathsStartsSpec)

/-- 'skipgraphlaw37.AuditTables', WHERE WHAT IT READS IS OF BULK AT MOST 1048576: true; the input reads as it did. -/
def auditTablesUptoRow : OpenClaim := { program := "ytkcmgbbopedacaagreatdoor", sum := "4b07ed6710418c9cb6b8376cb1030278aba8aa6df6b5ef81e3e0255a4bbe3339", func := "skipgraph/skipgraphlaw37.AuditTables", spec := "auditTables", unfollowed := true, recurses := true, named := ["skipgraph/skipgraphworld.letters"], apart := false, laid := [("skipgraph/skipgraphworld.letters", laid_skipgraph_skipgraphworld_letters)], narrowed := true }
def AuditTablesUptoSaid : Prop := auditTablesUptoRow.holds Tryz.pinned (OpenSpec.upto auditTablesSpec)

/-- 'skipgraphlaw30.PathsCuts', WHERE WHAT IT READS IS OF BULK AT MOST 1048576: true; the input reads as it did. -/
def pathsCutsUptoRow : OpenClaim := { program := "ytkcmgbbopedacaagreatdoor", sum := "4b07ed6710418c9cb6b8376cb1030278aba8aa6df6b5ef81e3e0255a4bbe3339", func := "skipgraph/skipgraphlaw30.PathsCuts", spec := "pathsCuts", inPlace := ["internal/reflectlite.ValueOf", "internal/reflectlite.Swapper", "(internal/reflectlite.Value).Len"], unfollowed := true, recurses := true, named := ["skipgraph/skipgraphworld.letters"], apart := false, laid := [("skipgraph/skipgraphworld.letters", laid_skipgraph_skipgraphworld_letters)], narrowed := true }
def PathsCutsUptoSaid : Prop := pathsCutsUptoRow.holds Tryz.pinned (OpenSpec.upto pathsCutsSpec)

/-- 'skipgraphlaw30.PathsMoment', WHERE WHAT IT READS IS OF BULK AT MOST 1048576: true; the input reads as it did. -/
def pathsMomentUptoRow : OpenClaim := { program := "ytkcmgbbopedacaagreatdoor", sum := "4b07ed6710418c9cb6b8376cb1030278aba8aa6df6b5ef81e3e0255a4bbe3339", func := "skipgraph/skipgraphlaw30.PathsMoment", spec := "pathsMoment", inPlace := ["internal/reflectlite.ValueOf", "internal/reflectlite.Swapper", "(internal/reflectlite.Value).Len"], unfollowed := true, recurses := true, named := ["skipgraph/skipgraphworld.letters"], apart := false, laid := [("skipgraph/skipgraphworld.letters", laid_skipgraph_skipgraphworld_letters)], narrowed := true }
def PathsMomentUptoSaid : Prop := pathsMomentUptoRow.holds Tryz.pinned (OpenSpec.upto pathsMomentSpec)

/-- 'skipgraphlaw30.PathsAgain', WHERE WHAT IT READS IS OF BULK AT MOST 1048576: true; the input reads as it did. -/
def pathsAgainUptoRow : OpenClaim := { program := "ytkcmgbbopedacaagreatdoor", sum := "4b07ed6710418c9cb6b8376cb1030278aba8aa6df6b5ef81e3e0255a4bbe3339", func := "skipgraph/skipgraphlaw30.PathsAgain", spec := "pathsAgain", inPlace := ["internal/reflectlite.ValueOf", "internal/reflectlite.Swapper", "(internal/reflectlite.Value).Len"], unfollowed := true, recurses := true, named := ["skipgraph/skipgraphworld.letters"], apart := false, laid := [("skipgraph/skipgraphworld.letters", laid_skipgraph_skipgraphworld_letters)], narrowed := true }
def PathsAgainUptoSaid : Prop := pathsAgainUptoRow.holds Tryz.pinned (OpenSpec.upto pathsAgainSpec)

/-- 'skipgraphlaw30.PathsSteps', WHERE WHAT IT READS IS OF BULK AT MOST 1048576: true; the input reads as it did. -/
def pathsStepsUptoRow : OpenClaim := { program := "ytkcmgbbopedacaagreatdoor", sum := "4b07ed6710418c9cb6b8376cb1030278aba8aa6df6b5ef81e3e0255a4bbe3339", func := "skipgraph/skipgraphlaw30.PathsSteps", spec := "pathsSteps", inPlace := ["internal/reflectlite.ValueOf", "internal/reflectlite.Swapper", "(internal/reflectlite.Value).Len"], unfollowed := true, recurses := true, named := ["skipgraph/skipgraphworld.letters"], apart := false, laid := [("skipgraph/skipgraphworld.letters", laid_skipgraph_skipgraphworld_letters)], narrowed := true }
def PathsStepsUptoSaid : Prop := pathsStepsUptoRow.holds Tryz.pinned (OpenSpec.upto pathsStepsSpec)

end Rows
end Go.Proofs.YtkcmgbbopedacaaGreatDoor

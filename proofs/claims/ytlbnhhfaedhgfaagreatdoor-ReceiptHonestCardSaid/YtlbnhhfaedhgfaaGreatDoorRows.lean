/-
  NARROWER THAN 'FOR EVERY INPUT', by the rows' own cells (each row's printed sentence says how): WalkSteps: laid · WalkCovers: laid · WalkReads: laid · ReceiptChecks: laid · ReceiptAny: laid · ReceiptProves: laid · ReceiptRefuses: laid · ReceiptHonest: laid · ReceiptMakes: laid · PathsSplits: laid · PathsStarts: laid.
  DERIVED. THE GIVEN ROWS OF THIS SEAT. 11 by the template 'for every input the law returns true; each argument reads behind the call as it read before'; 0 by the template 'total and deterministic' (their statements: YtlbnhhfaedhgfaaGreatDoorTotals.lean).
  GIVEN WITH THE SEED: the statements are not yours to turn. If you find one false, say at which input.
  Laid BY PROGRAM, IN A SANDBOX (cutbox-rows.mjs): the forced cells as the released guide's own fill.sh prints them over the translation b60748d17ba43d8b… (all of the seat's roots in one cut). By AI agents, Wed Nov 11 2026. No macro, syntax, notation, axiom, sorry.
-/
import Derived.Test.YtlbnhhfaedhgfaaGreatDoorChecked
import GoSem.Claim
import GoSem.ClaimJoined
import GoSem.ClaimMapViews
import Derived.JoinedTies
import Derived.KernelRfl
namespace Go.Proofs.YtlbnhhfaedhgfaaGreatDoor
/- THE CELL 'sum', in the pinned program and in every row, IS THE sha256 OF THE DUMP (.gsa) THAT YtlbnhhfaedhgfaaGreatDoorProg.lean LOADS. Nothing in Lean hashes anything: it is a label: what it is worth is what the hold of that sum in a sandbox is worth. -/
noncomputable def Tryz.pinned : Pinned := { name := "ytlbnhhfaedhgfaagreatdoor", sum := "b60748d17ba43d8b2a9016a600aab43689806f3c627bb66b8fa531151b033535", checked := Tryz.checked }
namespace Rows
def none {H : Type} : Left H := { results := [], args := [] }

/- WHAT THE LISTED PACKAGE-LEVEL VARIABLES READ AS WHEN THE CALL BEGINS. Each datum BY PROGRAM (the guide's laid-datum.mjs) off the statement by which the dump's own 'gosem.cut.vars' lays the variable. In a bare row this is a premise. The card (YtlbnhhfaedhgfaaGreatDoorCards.lean) ties it to the program's text. -/
def laid_skipgraph_skipgraphworld_letters {H : Type} : DataW H := .agg [.lit (.string [97]), .lit (.string [98]), .lit (.string [99]), .lit (.string [0]), .lit (.string [255]), .lit (.string [109])]

/-- 'skipgraphlaw28.WalkSteps': WHATEVER THE INPUT: true; the input reads as it did. -/
def walkStepsSpec : ChangeSpec := { name := "walkSteps", fn := fun _ => fun
  | [d] => { results := [.lit (.bool true)], args := [d] }
  | _ => none }
def walkStepsRow : OpenClaim := { program := "ytlbnhhfaedhgfaagreatdoor", sum := "b60748d17ba43d8b2a9016a600aab43689806f3c627bb66b8fa531151b033535", func := "skipgraph/skipgraphlaw28.WalkSteps", spec := "walkSteps", unfollowed := true, recurses := true, named := ["skipgraph/skipgraphworld.letters"], apart := false, laid := [("skipgraph/skipgraphworld.letters", laid_skipgraph_skipgraphworld_letters)] }
def WalkStepsSaid : Prop := walkStepsRow.holds Tryz.pinned (OpenSpec.ofChange walkStepsSpec)

/-- ITS FALSE NEIGHBOUR: 'it returns false'. Refute it at one input. -/
def walkStepsWrong : ChangeSpec := { name := "walkSteps", fn := fun _ => fun
  | [d] => { results := [.lit (.bool false)], args := [d] }
  | _ => none }
def WalkStepsWrongFalsely : Prop := walkStepsRow.holds Tryz.pinned (OpenSpec.ofChange walkStepsWrong)

/-- 'skipgraphlaw28.WalkCovers': WHATEVER THE INPUT: true; the input reads as it did. -/
def walkCoversSpec : ChangeSpec := { name := "walkCovers", fn := fun _ => fun
  | [d] => { results := [.lit (.bool true)], args := [d] }
  | _ => none }
def walkCoversRow : OpenClaim := { program := "ytlbnhhfaedhgfaagreatdoor", sum := "b60748d17ba43d8b2a9016a600aab43689806f3c627bb66b8fa531151b033535", func := "skipgraph/skipgraphlaw28.WalkCovers", spec := "walkCovers", unfollowed := true, recurses := true, named := ["skipgraph/skipgraphworld.letters"], apart := false, laid := [("skipgraph/skipgraphworld.letters", laid_skipgraph_skipgraphworld_letters)] }
def WalkCoversSaid : Prop := walkCoversRow.holds Tryz.pinned (OpenSpec.ofChange walkCoversSpec)

/-- ITS FALSE NEIGHBOUR: 'it returns false'. Refute it at one input. -/
def walkCoversWrong : ChangeSpec := { name := "walkCovers", fn := fun _ => fun
  | [d] => { results := [.lit (.bool false)], args := [d] }
  | _ => none }
def WalkCoversWrongFalsely : Prop := walkCoversRow.holds Tryz.pinned (OpenSpec.ofChange walkCoversWrong)

/-- 'skipgraphlaw28.WalkReads': WHATEVER THE INPUT: true; the input reads as it did. -/
def walkReadsSpec : ChangeSpec := { name := "walkReads", fn := fun _ => fun
  | [d] => { results := [.lit (.bool true)], args := [d] }
  | _ => none }
def walkReadsRow : OpenClaim := { program := "ytlbnhhfaedhgfaagreatdoor", sum := "b60748d17ba43d8b2a9016a600aab43689806f3c627bb66b8fa531151b033535", func := "skipgraph/skipgraphlaw28.WalkReads", spec := "walkReads", unfollowed := true, recurses := true, named := ["skipgraph/skipgraphworld.letters"], apart := false, laid := [("skipgraph/skipgraphworld.letters", laid_skipgraph_skipgraphworld_letters)] }
def WalkReadsSaid : Prop := walkReadsRow.holds Tryz.pinned (OpenSpec.ofChange walkReadsSpec)

/-- ITS FALSE NEIGHBOUR: 'it returns false'. Refute it at one input. -/
def walkReadsWrong : ChangeSpec := { name := "walkReads", fn := fun _ => fun
  | [d] => { results := [.lit (.bool false)], args := [d] }
  | _ => none }
def WalkReadsWrongFalsely : Prop := walkReadsRow.holds Tryz.pinned (OpenSpec.ofChange walkReadsWrong)

/-- 'skipgraphlaw29.ReceiptChecks': WHATEVER THE INPUT: true; the input reads as it did. -/
def receiptChecksSpec : ChangeSpec := { name := "receiptChecks", fn := fun _ => fun
  | [d] => { results := [.lit (.bool true)], args := [d] }
  | _ => none }
def receiptChecksRow : OpenClaim := { program := "ytlbnhhfaedhgfaagreatdoor", sum := "b60748d17ba43d8b2a9016a600aab43689806f3c627bb66b8fa531151b033535", func := "skipgraph/skipgraphlaw29.ReceiptChecks", spec := "receiptChecks", unfollowed := true, recurses := true, named := ["skipgraph/skipgraphworld.letters"], apart := false, laid := [("skipgraph/skipgraphworld.letters", laid_skipgraph_skipgraphworld_letters)] }
def ReceiptChecksSaid : Prop := receiptChecksRow.holds Tryz.pinned (OpenSpec.ofChange receiptChecksSpec)

/-- ITS FALSE NEIGHBOUR: 'it returns false'. Refute it at one input. -/
def receiptChecksWrong : ChangeSpec := { name := "receiptChecks", fn := fun _ => fun
  | [d] => { results := [.lit (.bool false)], args := [d] }
  | _ => none }
def ReceiptChecksWrongFalsely : Prop := receiptChecksRow.holds Tryz.pinned (OpenSpec.ofChange receiptChecksWrong)

/-- 'skipgraphlaw29.ReceiptAny': WHATEVER THE INPUT: true; the input reads as it did. -/
def receiptAnySpec : ChangeSpec := { name := "receiptAny", fn := fun _ => fun
  | [d1, d2] => { results := [.lit (.bool true)], args := [d1, d2] }
  | _ => none }
def receiptAnyRow : OpenClaim := { program := "ytlbnhhfaedhgfaagreatdoor", sum := "b60748d17ba43d8b2a9016a600aab43689806f3c627bb66b8fa531151b033535", func := "skipgraph/skipgraphlaw29.ReceiptAny", spec := "receiptAny", unfollowed := true, recurses := true, named := ["skipgraph/skipgraphworld.letters"], apart := false, laid := [("skipgraph/skipgraphworld.letters", laid_skipgraph_skipgraphworld_letters)] }
def ReceiptAnySaid : Prop := receiptAnyRow.holds Tryz.pinned (OpenSpec.ofChange receiptAnySpec)

/-- ITS FALSE NEIGHBOUR: 'it returns false'. Refute it at one input. -/
def receiptAnyWrong : ChangeSpec := { name := "receiptAny", fn := fun _ => fun
  | [d1, d2] => { results := [.lit (.bool false)], args := [d1, d2] }
  | _ => none }
def ReceiptAnyWrongFalsely : Prop := receiptAnyRow.holds Tryz.pinned (OpenSpec.ofChange receiptAnyWrong)

/-- 'skipgraphlaw29.ReceiptProves': WHATEVER THE INPUT: true; the input reads as it did. -/
def receiptProvesSpec : ChangeSpec := { name := "receiptProves", fn := fun _ => fun
  | [d] => { results := [.lit (.bool true)], args := [d] }
  | _ => none }
def receiptProvesRow : OpenClaim := { program := "ytlbnhhfaedhgfaagreatdoor", sum := "b60748d17ba43d8b2a9016a600aab43689806f3c627bb66b8fa531151b033535", func := "skipgraph/skipgraphlaw29.ReceiptProves", spec := "receiptProves", unfollowed := true, recurses := true, named := ["skipgraph/skipgraphworld.letters"], apart := false, laid := [("skipgraph/skipgraphworld.letters", laid_skipgraph_skipgraphworld_letters)] }
def ReceiptProvesSaid : Prop := receiptProvesRow.holds Tryz.pinned (OpenSpec.ofChange receiptProvesSpec)

/-- ITS FALSE NEIGHBOUR: 'it returns false'. Refute it at one input. -/
def receiptProvesWrong : ChangeSpec := { name := "receiptProves", fn := fun _ => fun
  | [d] => { results := [.lit (.bool false)], args := [d] }
  | _ => none }
def ReceiptProvesWrongFalsely : Prop := receiptProvesRow.holds Tryz.pinned (OpenSpec.ofChange receiptProvesWrong)

/-- 'skipgraphlaw29.ReceiptRefuses': WHATEVER THE INPUT: true; the input reads as it did. -/
def receiptRefusesSpec : ChangeSpec := { name := "receiptRefuses", fn := fun _ => fun
  | [d1, d2] => { results := [.lit (.bool true)], args := [d1, d2] }
  | _ => none }
def receiptRefusesRow : OpenClaim := { program := "ytlbnhhfaedhgfaagreatdoor", sum := "b60748d17ba43d8b2a9016a600aab43689806f3c627bb66b8fa531151b033535", func := "skipgraph/skipgraphlaw29.ReceiptRefuses", spec := "receiptRefuses", unfollowed := true, recurses := true, named := ["skipgraph/skipgraphworld.letters"], apart := false, laid := [("skipgraph/skipgraphworld.letters", laid_skipgraph_skipgraphworld_letters)] }
def ReceiptRefusesSaid : Prop := receiptRefusesRow.holds Tryz.pinned (OpenSpec.ofChange receiptRefusesSpec)

/-- ITS FALSE NEIGHBOUR: 'it returns false'. Refute it at one input. -/
def receiptRefusesWrong : ChangeSpec := { name := "receiptRefuses", fn := fun _ => fun
  | [d1, d2] => { results := [.lit (.bool false)], args := [d1, d2] }
  | _ => none }
def ReceiptRefusesWrongFalsely : Prop := receiptRefusesRow.holds Tryz.pinned (OpenSpec.ofChange receiptRefusesWrong)

/-- 'skipgraphlaw29.ReceiptHonest': WHATEVER THE INPUT: true; the input reads as it did. -/
def receiptHonestSpec : ChangeSpec := { name := "receiptHonest", fn := fun _ => fun
  | [d1, d2] => { results := [.lit (.bool true)], args := [d1, d2] }
  | _ => none }
def receiptHonestRow : OpenClaim := { program := "ytlbnhhfaedhgfaagreatdoor", sum := "b60748d17ba43d8b2a9016a600aab43689806f3c627bb66b8fa531151b033535", func := "skipgraph/skipgraphlaw29.ReceiptHonest", spec := "receiptHonest", unfollowed := true, recurses := true, named := ["skipgraph/skipgraphworld.letters"], apart := false, laid := [("skipgraph/skipgraphworld.letters", laid_skipgraph_skipgraphworld_letters)] }
def ReceiptHonestSaid : Prop := receiptHonestRow.holds Tryz.pinned (OpenSpec.ofChange receiptHonestSpec)

/-- ITS FALSE NEIGHBOUR: 'it returns false'. Refute it at one input. -/
def receiptHonestWrong : ChangeSpec := { name := "receiptHonest", fn := fun _ => fun
  | [d1, d2] => { results := [.lit (.bool false)], args := [d1, d2] }
  | _ => none }
def ReceiptHonestWrongFalsely : Prop := receiptHonestRow.holds Tryz.pinned (OpenSpec.ofChange receiptHonestWrong)

/-- 'skipgraphlaw29.ReceiptMakes': WHATEVER THE INPUT: true; the input reads as it did. -/
def receiptMakesSpec : ChangeSpec := { name := "receiptMakes", fn := fun _ => fun
  | [d1, d2, d3] => { results := [.lit (.bool true)], args := [d1, d2, d3] }
  | _ => none }
def receiptMakesRow : OpenClaim := { program := "ytlbnhhfaedhgfaagreatdoor", sum := "b60748d17ba43d8b2a9016a600aab43689806f3c627bb66b8fa531151b033535", func := "skipgraph/skipgraphlaw29.ReceiptMakes", spec := "receiptMakes", unfollowed := true, recurses := true, named := ["skipgraph/skipgraphworld.letters"], apart := false, laid := [("skipgraph/skipgraphworld.letters", laid_skipgraph_skipgraphworld_letters)] }
def ReceiptMakesSaid : Prop := receiptMakesRow.holds Tryz.pinned (OpenSpec.ofChange receiptMakesSpec)

/-- ITS FALSE NEIGHBOUR: 'it returns false'. Refute it at one input. -/
def receiptMakesWrong : ChangeSpec := { name := "receiptMakes", fn := fun _ => fun
  | [d1, d2, d3] => { results := [.lit (.bool false)], args := [d1, d2, d3] }
  | _ => none }
def ReceiptMakesWrongFalsely : Prop := receiptMakesRow.holds Tryz.pinned (OpenSpec.ofChange receiptMakesWrong)

/-- 'skipgraphlaw30.PathsSplits': WHATEVER THE INPUT: true; the input reads as it did. -/
def pathsSplitsSpec : ChangeSpec := { name := "pathsSplits", fn := fun _ => fun
  | [d1, d2, d3] => { results := [.lit (.bool true)], args := [d1, d2, d3] }
  | _ => none }
def pathsSplitsRow : OpenClaim := { program := "ytlbnhhfaedhgfaagreatdoor", sum := "b60748d17ba43d8b2a9016a600aab43689806f3c627bb66b8fa531151b033535", func := "skipgraph/skipgraphlaw30.PathsSplits", spec := "pathsSplits", inPlace := ["internal/reflectlite.ValueOf", "internal/reflectlite.Swapper", "(internal/reflectlite.Value).Len"], unfollowed := true, recurses := true, named := ["skipgraph/skipgraphworld.letters"], apart := false, laid := [("skipgraph/skipgraphworld.letters", laid_skipgraph_skipgraphworld_letters)] }
def PathsSplitsSaid : Prop := pathsSplitsRow.holds Tryz.pinned (OpenSpec.ofChange pathsSplitsSpec)

/-- ITS FALSE NEIGHBOUR: 'it returns false'. Refute it at one input. -/
def pathsSplitsWrong : ChangeSpec := { name := "pathsSplits", fn := fun _ => fun
  | [d1, d2, d3] => { results := [.lit (.bool false)], args := [d1, d2, d3] }
  | _ => none }
def PathsSplitsWrongFalsely : Prop := pathsSplitsRow.holds Tryz.pinned (OpenSpec.ofChange pathsSplitsWrong)

/-- 'skipgraphlaw30.PathsStarts': WHATEVER THE INPUT: true; the input reads as it did. -/
def pathsStartsSpec : ChangeSpec := { name := "pathsStarts", fn := fun _ => fun
  | [d1, d2, d3] => { results := [.lit (.bool true)], args := [d1, d2, d3] }
  | _ => none }
def pathsStartsRow : OpenClaim := { program := "ytlbnhhfaedhgfaagreatdoor", sum := "b60748d17ba43d8b2a9016a600aab43689806f3c627bb66b8fa531151b033535", func := "skipgraph/skipgraphlaw30.PathsStarts", spec := "pathsStarts", inPlace := ["internal/reflectlite.ValueOf", "internal/reflectlite.Swapper", "(internal/reflectlite.Value).Len"], unfollowed := true, recurses := true, named := ["skipgraph/skipgraphworld.letters"], apart := false, laid := [("skipgraph/skipgraphworld.letters", laid_skipgraph_skipgraphworld_letters)] }
def PathsStartsSaid : Prop := pathsStartsRow.holds Tryz.pinned (OpenSpec.ofChange pathsStartsSpec)

/-- ITS FALSE NEIGHBOUR: 'it returns false'. Refute it at one input. -/
def pathsStartsWrong : ChangeSpec := { name := "pathsStarts", fn := fun _ => fun
  | [d1, d2, d3] => { results := [.lit (.bool false)], args := [d1, d2, d3] }
  | _ => none }
def PathsStartsWrongFalsely : Prop := pathsStartsRow.holds Tryz.pinned (OpenSpec.ofChange pathsStartsWrong)

/- THE SECOND FORM. 'bulk': how many values and letters a reading holds, each counted each time it is reached (what is shared counts as often as it is met; a slice's spare places count too). A statement '..UptoSaid' is the law's where the arguments, and the package variables that the reading takes, are together of bulk at most 1048576: NARROWER than '..Said'. Prove '..Said' where nothing that the law and all that it calls make is longer than what came in: it says more and counts as full. Else prove '..UptoSaid'. A law counts once. -/
mutual
def uptoBulk {H : Type} : DataW H → Nat
  | .lit (.string bytes) => bytes.length + 1
  | .lit _ => 1
  | .nil => 1
  | .ptr d => uptoBulk d + 1
  | .slice elems spare => uptoBulkAll elems + uptoBulkAll spare + 1
  | .agg parts => uptoBulkAll parts + 1
  | .iface _ d => uptoBulk d + 1
  | .map entries => uptoBulkEntries entries + 1
  | .held _ => 1
def uptoBulkAll {H : Type} : List (DataW H) → Nat
  | [] => 0
  | d :: r => uptoBulk d + uptoBulkAll r
def uptoBulkEntries {H : Type} : List (Lit × DataW H) → Nat
  | [] => 0
  | x :: r => uptoBulkEntry x + uptoBulkEntries r
def uptoBulkEntry {H : Type} : Lit × DataW H → Nat
  | (.string bytes, d) => bytes.length + uptoBulk d + 1
  | (_, d) => uptoBulk d + 1
 end
def uptoSmall : (H : Type) → List (DataW H) → Bool := fun _ ds => decide (uptoBulkAll ds ≤ 1048576)
def OpenSpec.upto (s : _root_.Go.ChangeSpec) : _root_.Go.OpenSpec := { _root_.Go.OpenSpec.ofChange s with cond := some uptoSmall }

/-- 'skipgraphlaw28.WalkSteps', WHERE WHAT IT READS IS OF BULK AT MOST 1048576: true; the input reads as it did. -/
def walkStepsUptoRow : OpenClaim := { program := "ytlbnhhfaedhgfaagreatdoor", sum := "b60748d17ba43d8b2a9016a600aab43689806f3c627bb66b8fa531151b033535", func := "skipgraph/skipgraphlaw28.WalkSteps", spec := "walkSteps", unfollowed := true, recurses := true, named := ["skipgraph/skipgraphworld.letters"], apart := false, laid := [("skipgraph/skipgraphworld.letters", laid_skipgraph_skipgraphworld_letters)], narrowed := true }
def WalkStepsUptoSaid : Prop := walkStepsUptoRow.holds Tryz.pinned (OpenSpec.upto walkStepsSpec)

/-- 'skipgraphlaw28.WalkCovers', WHERE WHAT IT READS IS OF BULK AT MOST 1048576: true; the input reads as it did. -/
def walkCoversUptoRow : OpenClaim := { program := "ytlbnhhfaedhgfaagreatdoor", sum := "b60748d17ba43d8b2a9016a600aab43689806f3c627bb66b8fa531151b033535", func := "skipgraph/skipgraphlaw28.WalkCovers", spec := "walkCovers", unfollowed := true, recurses := true, named := ["skipgraph/skipgraphworld.letters"], apart := false, laid := [("skipgraph/skipgraphworld.letters", laid_skipgraph_skipgraphworld_letters)], narrowed := true }
def WalkCoversUptoSaid : Prop := walkCoversUptoRow.holds Tryz.pinned (OpenSpec.upto walkCoversSpec)

/-- 'skipgraphlaw28.WalkReads', WHERE WHAT IT READS IS OF BULK AT MOST 1048576: true; the input reads as it did. -/
def walkReadsUptoRow : OpenClaim := { program := "ytlbnhhfaedhgfaagreatdoor", sum := "b60748d17ba43d8b2a9016a600aab43689806f3c627bb66b8fa531151b033535", func := "skipgraph/skipgraphlaw28.WalkReads", spec := "walkReads", unfollowed := true, recurses := true, named := ["skipgraph/skipgraphworld.letters"], apart := false, laid := [("skipgraph/skipgraphworld.letters", laid_skipgraph_skipgraphworld_letters)], narrowed := true }
def WalkReadsUptoSaid : Prop := walkReadsUptoRow.holds Tryz.pinned (OpenSpec.upto walkReadsSpec)

/-- 'skipgraphlaw29.ReceiptChecks', WHERE WHAT IT READS IS OF BULK AT MOST 1048576: true; the input reads as it did. -/
def receiptChecksUptoRow : OpenClaim := { program := "ytlbnhhfaedhgfaagreatdoor", sum := "b60748d17ba43d8b2a9016a600aab43689806f3c627bb66b8fa531151b033535", func := "skipgraph/skipgraphlaw29.ReceiptChecks", spec := "receiptChecks", unfollowed := true, recurses := true, named := ["skipgraph/skipgraphworld.letters"], apart := false, laid := [("skipgraph/skipgraphworld.letters", laid_skipgraph_skipgraphworld_letters)], narrowed := true }
def ReceiptChecksUptoSaid : Prop := receiptChecksUptoRow.holds Tryz.pinned (OpenSpec.upto receiptChecksSpec)

/-- 'skipgraphlaw29.ReceiptAny', WHERE WHAT IT READS IS OF BULK AT MOST 1048576: true; the input reads as it did. -/
def receiptAnyUptoRow : OpenClaim := { program := "ytlbnhhfaedhgfaagreatdoor", sum := "b60748d17ba43d8b2a9016a600aab43689806f3c627bb66b8fa531151b033535", func := "skipgraph/skipgraphlaw29.ReceiptAny", spec := "receiptAny", unfollowed := true, recurses := true, named := ["skipgraph/skipgraphworld.letters"], apart := false, laid := [("skipgraph/skipgraphworld.letters", laid_skipgraph_skipgraphworld_letters)], narrowed := true }
def ReceiptAnyUptoSaid : Prop := receiptAnyUptoRow.holds Tryz.pinned (OpenSpec.upto receiptAnySpec)

/-- 'skipgraphlaw29.ReceiptProves', WHERE WHAT IT READS IS OF BULK AT MOST 1048576: true; the input reads as it did. -/
def receiptProvesUptoRow : OpenClaim := { program := "ytlbnhhfaedhgfaagreatdoor", sum := "b60748d17ba43d8b2a9016a600aab43689806f3c627bb66b8fa531151b033535", func := "skipgraph/skipgraphlaw29.ReceiptProves", spec := "receiptProves", unfollowed := true, recurses := true, named := ["skipgraph/skipgraphworld.letters"], apart := false, laid := [("skipgraph/skipgraphworld.letters", laid_skipgraph_skipgraphworld_letters)], narrowed := true }
def ReceiptProvesUptoSaid : Prop := receiptProvesUptoRow.holds Tryz.pinned (OpenSpec.upto receiptProvesSpec)

/-- 'skipgraphlaw29.ReceiptRefuses', WHERE WHAT IT READS IS OF BULK AT MOST 1048576: true; the input reads as it did. -/
def receiptRefusesUptoRow : OpenClaim := { program := "ytlbnhhfaedhgfaagreatdoor", sum := "b60748d17ba43d8b2a9016a600aab43689806f3c627bb66b8fa531151b033535", func := "skipgraph/skipgraphlaw29.ReceiptRefuses", spec := "receiptRefuses", unfollowed := true, recurses := true, named := ["skipgraph/skipgraphworld.letters"], apart := false, laid := [("skipgraph/skipgraphworld.letters", laid_skipgraph_skipgraphworld_letters)], narrowed := true }
def ReceiptRefusesUptoSaid : Prop := receiptRefusesUptoRow.holds Tryz.pinned (OpenSpec.upto receiptRefusesSpec)

/-- 'skipgraphlaw29.ReceiptHonest', WHERE WHAT IT READS IS OF BULK AT MOST 1048576: true; the input reads as it did. -/
def receiptHonestUptoRow : OpenClaim := { program := "ytlbnhhfaedhgfaagreatdoor", sum := "b60748d17ba43d8b2a9016a600aab43689806f3c627bb66b8fa531151b033535", func := "skipgraph/skipgraphlaw29.ReceiptHonest", spec := "receiptHonest", unfollowed := true, recurses := true, named := ["skipgraph/skipgraphworld.letters"], apart := false, laid := [("skipgraph/skipgraphworld.letters", laid_skipgraph_skipgraphworld_letters)], narrowed := true }
def ReceiptHonestUptoSaid : Prop := receiptHonestUptoRow.holds Tryz.pinned (OpenSpec.upto receiptHonestSpec)

/-- 'skipgraphlaw29.ReceiptMakes', WHERE WHAT IT READS IS OF BULK AT MOST 1048576: true; the input reads as it did. -/
def receiptMakesUptoRow : OpenClaim := { program := "ytlbnhhfaedhgfaagreatdoor", sum := "b60748d17ba43d8b2a9016a600aab43689806f3c627bb66b8fa531151b033535", func := "skipgraph/skipgraphlaw29.ReceiptMakes", spec := "receiptMakes", unfollowed := true, recurses := true, named := ["skipgraph/skipgraphworld.letters"], apart := false, laid := [("skipgraph/skipgraphworld.letters", laid_skipgraph_skipgraphworld_letters)], narrowed := true }
def ReceiptMakesUptoSaid : Prop := receiptMakesUptoRow.holds Tryz.pinned (OpenSpec.upto receiptMakesSpec)

/-- 'skipgraphlaw30.PathsSplits', WHERE WHAT IT READS IS OF BULK AT MOST 1048576: true; the input reads as it did. -/
def pathsSplitsUptoRow : OpenClaim := { program := "ytlbnhhfaedhgfaagreatdoor", sum := "b60748d17ba43d8b2a9016a600aab43689806f3c627bb66b8fa531151b033535", func := "skipgraph/skipgraphlaw30.PathsSplits", spec := "pathsSplits", inPlace := ["internal/reflectlite.ValueOf", "internal/reflectlite.Swapper", "(internal/reflectlite.Value).Len"], unfollowed := true, recurses := true, named := ["skipgraph/skipgraphworld.letters"], apart := false, laid := [("skipgraph/skipgraphworld.letters", laid_skipgraph_skipgraphworld_letters)], narrowed := true }
def PathsSplitsUptoSaid : Prop := pathsSplitsUptoRow.holds Tryz.pinned (OpenSpec.upto pathsSplitsSpec)

/-- 'skipgraphlaw30.PathsStarts', WHERE WHAT IT READS IS OF BULK AT MOST 1048576: true; the input reads as it did. -/
def pathsStartsUptoRow : OpenClaim := { program := "ytlbnhhfaedhgfaagreatdoor", sum := "b60748d17ba43d8b2a9016a600aab43689806f3c627bb66b8fa531151b033535", func := "skipgraph/skipgraphlaw30.PathsStarts", spec := "pathsStarts", inPlace := ["internal/reflectlite.ValueOf", "internal/reflectlite.Swapper", "(internal/reflectlite.Value).Len"], unfollowed := true, recurses := true, named := ["skipgraph/skipgraphworld.letters"], apart := false, laid := [("skipgraph/skipgraphworld.letters", laid_skipgraph_skipgraphworld_letters)], narrowed := true }
def PathsStartsUptoSaid : Prop := pathsStartsUptoRow.holds Tryz.pinned (OpenSpec.upto pathsStartsSpec)

end Rows
end Go.Proofs.YtlbnhhfaedhgfaaGreatDoor

/-
  NARROWER THAN 'FOR EVERY INPUT', by the rows' own cells (each row's printed sentence says how): QueryChecks: laid · QueryAnswers: laid · QueryUnion: laid · QueryNearest: laid · QueryRanges: laid · QueryTakes: laid · QuerySame: laid.
  DERIVED. THE GIVEN ROWS OF THIS SEAT. 7 by the template 'for every input the law returns true; each argument reads behind the call as it read before'; 0 by the template 'total and deterministic' (their statements: YtjnnkpkbgdknmaaDoorTotals.lean).
  GIVEN WITH THE SEED: the statements are not yours to turn. If you find one false, say at which input.
  Laid BY PROGRAM, IN A SANDBOX (cutbox-rows.mjs): the forced cells as the released guide's own fill.sh prints them over the translation 937c32af621aac72… (all of the seat's roots in one cut). By AI agents, Wed Nov 11 2026. No macro, syntax, notation, axiom, sorry.
-/
import Derived.Test.YtjnnkpkbgdknmaaDoorChecked
import GoSem.Claim
import GoSem.ClaimJoined
import GoSem.ClaimMapViews
import Derived.JoinedTies
import Derived.KernelRfl
namespace Go.Proofs.YtjnnkpkbgdknmaaDoor
/- THE CELL 'sum', in the pinned program and in every row, IS THE sha256 OF THE DUMP (.gsa) THAT YtjnnkpkbgdknmaaDoorProg.lean LOADS. Nothing in Lean hashes anything: it is a label: what it is worth is what the hold of that sum in a sandbox is worth. -/
noncomputable def Tryd.pinned : Pinned := { name := "ytjnnkpkbgdknmaadoor", sum := "937c32af621aac724d91a1acd55565c52f72fab1e030b02a76f6f09e830d8e7d", checked := Tryd.checked }
namespace Rows
def none {H : Type} : Left H := { results := [], args := [] }

/- WHAT THE LISTED PACKAGE-LEVEL VARIABLES READ AS WHEN THE CALL BEGINS. Each datum BY PROGRAM (the guide's laid-datum.mjs) off the statement by which the dump's own 'gosem.cut.vars' lays the variable. In a bare row this is a premise. The card (YtjnnkpkbgdknmaaDoorCards.lean) ties it to the program's text. -/
def laid_skipgraph_skipgraphworld_letters {H : Type} : DataW H := .agg [.lit (.string [97]), .lit (.string [98]), .lit (.string [99]), .lit (.string [0]), .lit (.string [255]), .lit (.string [109])]

/-- 'skipgraphlaw22.QueryChecks': WHATEVER THE INPUT: true; the input reads as it did. -/
def queryChecksSpec : ChangeSpec := { name := "queryChecks", fn := fun _ => fun
  | [d1, d2] => { results := [.lit (.bool true)], args := [d1, d2] }
  | _ => none }
def queryChecksRow : OpenClaim := { program := "ytjnnkpkbgdknmaadoor", sum := "937c32af621aac724d91a1acd55565c52f72fab1e030b02a76f6f09e830d8e7d", func := "skipgraph/skipgraphlaw22.QueryChecks", spec := "queryChecks", unfollowed := true, recurses := true, named := ["skipgraph/skipgraphworld.letters"], apart := false, laid := [("skipgraph/skipgraphworld.letters", laid_skipgraph_skipgraphworld_letters)] }
def QueryChecksSaid : Prop := queryChecksRow.holds Tryd.pinned (OpenSpec.ofChange queryChecksSpec)

/-- ITS FALSE NEIGHBOUR: 'it returns false'. Refute it at one input. -/
def queryChecksWrong : ChangeSpec := { name := "queryChecks", fn := fun _ => fun
  | [d1, d2] => { results := [.lit (.bool false)], args := [d1, d2] }
  | _ => none }
def QueryChecksWrongFalsely : Prop := queryChecksRow.holds Tryd.pinned (OpenSpec.ofChange queryChecksWrong)

/-- 'skipgraphlaw22.QueryAnswers': WHATEVER THE INPUT: true; the input reads as it did. -/
def queryAnswersSpec : ChangeSpec := { name := "queryAnswers", fn := fun _ => fun
  | [d1, d2, d3] => { results := [.lit (.bool true)], args := [d1, d2, d3] }
  | _ => none }
def queryAnswersRow : OpenClaim := { program := "ytjnnkpkbgdknmaadoor", sum := "937c32af621aac724d91a1acd55565c52f72fab1e030b02a76f6f09e830d8e7d", func := "skipgraph/skipgraphlaw22.QueryAnswers", spec := "queryAnswers", unfollowed := true, recurses := true, named := ["skipgraph/skipgraphworld.letters"], apart := false, laid := [("skipgraph/skipgraphworld.letters", laid_skipgraph_skipgraphworld_letters)] }
def QueryAnswersSaid : Prop := queryAnswersRow.holds Tryd.pinned (OpenSpec.ofChange queryAnswersSpec)

/-- ITS FALSE NEIGHBOUR: 'it returns false'. Refute it at one input. -/
def queryAnswersWrong : ChangeSpec := { name := "queryAnswers", fn := fun _ => fun
  | [d1, d2, d3] => { results := [.lit (.bool false)], args := [d1, d2, d3] }
  | _ => none }
def QueryAnswersWrongFalsely : Prop := queryAnswersRow.holds Tryd.pinned (OpenSpec.ofChange queryAnswersWrong)

/-- 'skipgraphlaw22.QueryUnion': WHATEVER THE INPUT: true; the input reads as it did. -/
def queryUnionSpec : ChangeSpec := { name := "queryUnion", fn := fun _ => fun
  | [d] => { results := [.lit (.bool true)], args := [d] }
  | _ => none }
def queryUnionRow : OpenClaim := { program := "ytjnnkpkbgdknmaadoor", sum := "937c32af621aac724d91a1acd55565c52f72fab1e030b02a76f6f09e830d8e7d", func := "skipgraph/skipgraphlaw22.QueryUnion", spec := "queryUnion", unfollowed := true, recurses := true, named := ["skipgraph/skipgraphworld.letters"], apart := false, laid := [("skipgraph/skipgraphworld.letters", laid_skipgraph_skipgraphworld_letters)] }
def QueryUnionSaid : Prop := queryUnionRow.holds Tryd.pinned (OpenSpec.ofChange queryUnionSpec)

/-- ITS FALSE NEIGHBOUR: 'it returns false'. Refute it at one input. -/
def queryUnionWrong : ChangeSpec := { name := "queryUnion", fn := fun _ => fun
  | [d] => { results := [.lit (.bool false)], args := [d] }
  | _ => none }
def QueryUnionWrongFalsely : Prop := queryUnionRow.holds Tryd.pinned (OpenSpec.ofChange queryUnionWrong)

/-- 'skipgraphlaw22.QueryNearest': WHATEVER THE INPUT: true; the input reads as it did. -/
def queryNearestSpec : ChangeSpec := { name := "queryNearest", fn := fun _ => fun
  | [d1, d2] => { results := [.lit (.bool true)], args := [d1, d2] }
  | _ => none }
def queryNearestRow : OpenClaim := { program := "ytjnnkpkbgdknmaadoor", sum := "937c32af621aac724d91a1acd55565c52f72fab1e030b02a76f6f09e830d8e7d", func := "skipgraph/skipgraphlaw22.QueryNearest", spec := "queryNearest", unfollowed := true, recurses := true, named := ["skipgraph/skipgraphworld.letters"], apart := false, laid := [("skipgraph/skipgraphworld.letters", laid_skipgraph_skipgraphworld_letters)] }
def QueryNearestSaid : Prop := queryNearestRow.holds Tryd.pinned (OpenSpec.ofChange queryNearestSpec)

/-- ITS FALSE NEIGHBOUR: 'it returns false'. Refute it at one input. -/
def queryNearestWrong : ChangeSpec := { name := "queryNearest", fn := fun _ => fun
  | [d1, d2] => { results := [.lit (.bool false)], args := [d1, d2] }
  | _ => none }
def QueryNearestWrongFalsely : Prop := queryNearestRow.holds Tryd.pinned (OpenSpec.ofChange queryNearestWrong)

/-- 'skipgraphlaw22.QueryRanges': WHATEVER THE INPUT: true; the input reads as it did. -/
def queryRangesSpec : ChangeSpec := { name := "queryRanges", fn := fun _ => fun
  | [d1, d2] => { results := [.lit (.bool true)], args := [d1, d2] }
  | _ => none }
def queryRangesRow : OpenClaim := { program := "ytjnnkpkbgdknmaadoor", sum := "937c32af621aac724d91a1acd55565c52f72fab1e030b02a76f6f09e830d8e7d", func := "skipgraph/skipgraphlaw22.QueryRanges", spec := "queryRanges", unfollowed := true, recurses := true, named := ["skipgraph/skipgraphworld.letters"], apart := false, laid := [("skipgraph/skipgraphworld.letters", laid_skipgraph_skipgraphworld_letters)] }
def QueryRangesSaid : Prop := queryRangesRow.holds Tryd.pinned (OpenSpec.ofChange queryRangesSpec)

/-- ITS FALSE NEIGHBOUR: 'it returns false'. Refute it at one input. -/
def queryRangesWrong : ChangeSpec := { name := "queryRanges", fn := fun _ => fun
  | [d1, d2] => { results := [.lit (.bool false)], args := [d1, d2] }
  | _ => none }
def QueryRangesWrongFalsely : Prop := queryRangesRow.holds Tryd.pinned (OpenSpec.ofChange queryRangesWrong)

/-- 'skipgraphlaw22.QueryTakes': WHATEVER THE INPUT: true; the input reads as it did. -/
def queryTakesSpec : ChangeSpec := { name := "queryTakes", fn := fun _ => fun
  | [d1, d2, d3, d4] => { results := [.lit (.bool true)], args := [d1, d2, d3, d4] }
  | _ => none }
def queryTakesRow : OpenClaim := { program := "ytjnnkpkbgdknmaadoor", sum := "937c32af621aac724d91a1acd55565c52f72fab1e030b02a76f6f09e830d8e7d", func := "skipgraph/skipgraphlaw22.QueryTakes", spec := "queryTakes", unfollowed := true, recurses := true, named := ["skipgraph/skipgraphworld.letters"], apart := false, laid := [("skipgraph/skipgraphworld.letters", laid_skipgraph_skipgraphworld_letters)] }
def QueryTakesSaid : Prop := queryTakesRow.holds Tryd.pinned (OpenSpec.ofChange queryTakesSpec)

/-- ITS FALSE NEIGHBOUR: 'it returns false'. Refute it at one input. -/
def queryTakesWrong : ChangeSpec := { name := "queryTakes", fn := fun _ => fun
  | [d1, d2, d3, d4] => { results := [.lit (.bool false)], args := [d1, d2, d3, d4] }
  | _ => none }
def QueryTakesWrongFalsely : Prop := queryTakesRow.holds Tryd.pinned (OpenSpec.ofChange queryTakesWrong)

/-- 'skipgraphlaw22.QuerySame': WHATEVER THE INPUT: true; the input reads as it did. -/
def querySameSpec : ChangeSpec := { name := "querySame", fn := fun _ => fun
  | [d1, d2, d3] => { results := [.lit (.bool true)], args := [d1, d2, d3] }
  | _ => none }
def querySameRow : OpenClaim := { program := "ytjnnkpkbgdknmaadoor", sum := "937c32af621aac724d91a1acd55565c52f72fab1e030b02a76f6f09e830d8e7d", func := "skipgraph/skipgraphlaw22.QuerySame", spec := "querySame", unfollowed := true, recurses := true, named := ["skipgraph/skipgraphworld.letters"], apart := false, laid := [("skipgraph/skipgraphworld.letters", laid_skipgraph_skipgraphworld_letters)] }
def QuerySameSaid : Prop := querySameRow.holds Tryd.pinned (OpenSpec.ofChange querySameSpec)

/-- ITS FALSE NEIGHBOUR: 'it returns false'. Refute it at one input. -/
def querySameWrong : ChangeSpec := { name := "querySame", fn := fun _ => fun
  | [d1, d2, d3] => { results := [.lit (.bool false)], args := [d1, d2, d3] }
  | _ => none }
def QuerySameWrongFalsely : Prop := querySameRow.holds Tryd.pinned (OpenSpec.ofChange querySameWrong)

/- THE SECOND FORM. 'bulk': how many values and letters a reading holds, each counted each time it is reached (what is shared counts as often as it is met; a slice's spare places count too). A statement '..UptoSaid' is the law's where the arguments, and the package variables that the reading takes, are together of bulk at most 1048576: NARROWER than '..Said'. Prove '..Said' where nothing that the law and all that it calls make is longer than what came in: it says more and counts as full. Else prove '..UptoSaid'. A law counts once. -/
mutual
def uptoBulk {H : Type} : DataW H → Nat
  | .lit (.string bytes) => bytes.length + 1
  | .lit _ => 1
  | .nil => 1
  | .ptr d => uptoBulk d + 1
  | .slice elems spare => uptoBulkAll elems + uptoBulkAll spare + 1
  | .agg parts => uptoBulkAll parts + 1
  | .iface _ d => uptoBulk d + 1
  | .map entries => uptoBulkEntries entries + 1
  | .held _ => 1
def uptoBulkAll {H : Type} : List (DataW H) → Nat
  | [] => 0
  | d :: r => uptoBulk d + uptoBulkAll r
def uptoBulkEntries {H : Type} : List (Lit × DataW H) → Nat
  | [] => 0
  | x :: r => uptoBulkEntry x + uptoBulkEntries r
def uptoBulkEntry {H : Type} : Lit × DataW H → Nat
  | (.string bytes, d) => bytes.length + uptoBulk d + 1
  | (_, d) => uptoBulk d + 1
 end
def uptoSmall : (H : Type) → List (DataW H) → Bool := fun _ ds => decide (uptoBulkAll ds ≤ 1048576)
def OpenSpec.upto (s : _root_.Go.ChangeSpec) : _root_.Go.OpenSpec := { _root_.Go.OpenSpec.ofChange s with cond := some uptoSmall }

/-- 'skipgraphlaw22.QueryChecks', WHERE WHAT IT READS IS OF BULK AT MOST 1048576: true; the input reads as it did. -/
def queryChecksUptoRow : OpenClaim := { program := "ytjnnkpkbgdknmaadoor", sum := "937c32af621aac724d91a1acd55565c52f72fab1e030b02a76f6f09e830d8e7d", func := "skipgraph/skipgraphlaw22.QueryChecks", spec := "queryChecks", unfollowed := true, recurses := true, named := ["skipgraph/skipgraphworld.letters"], apart := false, laid := [("skipgraph/skipgraphworld.letters", laid_skipgraph_skipgraphworld_letters)], narrowed := true }
def QueryChecksUptoSaid : Prop := queryChecksUptoRow.holds Tryd.pinned (OpenSpec.upto queryChecksSpec)

/-- 'skipgraphlaw22.QueryAnswers', WHERE WHAT IT READS IS OF BULK AT MOST 1048576: true; the input reads as it did. -/
def queryAnswersUptoRow : OpenClaim := { program := "ytjnnkpkbgdknmaadoor", sum := "937c32af621aac724d91a1acd55565c52f72fab1e030b02a76f6f09e830d8e7d", func := "skipgraph/skipgraphlaw22.QueryAnswers", spec := "queryAnswers", unfollowed := true, recurses := true, named := ["skipgraph/skipgraphworld.letters"], apart := false, laid := [("skipgraph/skipgraphworld.letters", laid_skipgraph_skipgraphworld_letters)], narrowed := true }
def QueryAnswersUptoSaid : Prop := queryAnswersUptoRow.holds Tryd.pinned (OpenSpec.upto queryAnswersSpec)

/-- 'skipgraphlaw22.QueryUnion', WHERE WHAT IT READS IS OF BULK AT MOST 1048576: true; the input reads as it did. -/
def queryUnionUptoRow : OpenClaim := { program := "ytjnnkpkbgdknmaadoor", sum := "937c32af621aac724d91a1acd55565c52f72fab1e030b02a76f6f09e830d8e7d", func := "skipgraph/skipgraphlaw22.QueryUnion", spec := "queryUnion", unfollowed := true, recurses := true, named := ["skipgraph/skipgraphworld.letters"], apart := false, laid := [("skipgraph/skipgraphworld.letters", laid_skipgraph_skipgraphworld_letters)], narrowed := true }
def QueryUnionUptoSaid : Prop := queryUnionUptoRow.holds Tryd.pinned (OpenSpec.upto queryUnionSpec)

/-- 'skipgraphlaw22.QueryNearest', WHERE WHAT IT READS IS OF BULK AT MOST 1048576: true; the input reads as it did. -/
def queryNearestUptoRow : OpenClaim := { program := "ytjnnkpkbgdknmaadoor", sum := "937c32af621aac724d91a1acd55565c52f72fab1e030b02a76f6f09e830d8e7d", func := "skipgraph/skipgraphlaw22.QueryNearest", spec := "queryNearest", unfollowed := true, recurses := true, named := ["skipgraph/skipgraphworld.letters"], apart := false, laid := [("skipgraph/skipgraphworld.letters", laid_skipgraph_skipgraphworld_letters)], narrowed := true }
def QueryNearestUptoSaid : Prop := queryNearestUptoRow.holds Tryd.pinned (OpenSpec.upto queryNearestSpec)

/-- 'skipgraphlaw22.QueryRanges', WHERE WHAT IT READS IS OF BULK AT MOST 1048576: true; the input reads as it did. -/
def queryRangesUptoRow : OpenClaim := { program := "ytjnnkpkbgdknmaadoor", sum := "937c32af621aac724d91a1acd55565c52f72fab1e030b02a76f6f09e830d8e7d", func := "skipgraph/skipgraphlaw22.QueryRanges", spec := "queryRanges", unfollowed := true, recurses := true, named := ["skipgraph/skipgraphworld.letters"], apart := false, laid := [("skipgraph/skipgraphworld.letters", laid_skipgraph_skipgraphworld_letters)], narrowed := true }
def QueryRangesUptoSaid : Prop := queryRangesUptoRow.holds Tryd.pinned (OpenSpec.upto queryRangesSpec)

/-- 'skipgraphlaw22.QueryTakes', WHERE WHAT IT READS IS OF BULK AT MOST 1048576: true; the input reads as it did. -/
def queryTakesUptoRow : OpenClaim := { program := "ytjnnkpkbgdknmaadoor", sum := "937c32af621aac724d91a1acd55565c52f72fab1e030b02a76f6f09e830d8e7d", func := "skipgraph/skipgraphlaw22.QueryTakes", spec := "queryTakes", unfollowed := true, recurses := true, named := ["skipgraph/skipgraphworld.letters"], apart := false, laid := [("skipgraph/skipgraphworld.letters", laid_skipgraph_skipgraphworld_letters)], narrowed := true }
def QueryTakesUptoSaid : Prop := queryTakesUptoRow.holds Tryd.pinned (OpenSpec.upto queryTakesSpec)

/-- 'skipgraphlaw22.QuerySame', WHERE WHAT IT READS IS OF BULK AT MOST 1048576: true; the input reads as it did. -/
def querySameUptoRow : OpenClaim := { program := "ytjnnkpkbgdknmaadoor", sum := "937c32af621aac724d91a1acd55565c52f72fab1e030b02a76f6f09e830d8e7d", func := "skipgraph/skipgraphlaw22.QuerySame", spec := "querySame", unfollowed := true, recurses := true, named := ["skipgraph/skipgraphworld.letters"], apart := false, laid := [("skipgraph/skipgraphworld.letters", laid_skipgraph_skipgraphworld_letters)], narrowed := true }
def QuerySameUptoSaid : Prop := querySameUptoRow.holds Tryd.pinned (OpenSpec.upto querySameSpec)

end Rows
end Go.Proofs.YtjnnkpkbgdknmaaDoor

/-
  NARROWER THAN 'FOR EVERY INPUT', by the rows' own cells (each row's printed sentence says how): KeyspaceBounds: laid · KeyspaceTilings: laid · KeyspaceLattice: laid · KeyspacePrefixes: laid · KeyspacePoints: laid · KeyspaceRanges: laid · KeyspaceCovers: laid · KeyspaceCuts: laid · KeyspaceUnions: laid · KeyspaceJoins: laid.
  DERIVED. THE GIVEN ROWS OF THIS SEAT. 10 by the template 'for every input the law returns true; each argument reads behind the call as it read before'; 0 by the template 'total and deterministic' (their statements: YtddjhemncniidaaDoorTotals.lean).
  GIVEN WITH THE SEED: the statements are not yours to turn. If you find one false, say at which input.
  Laid BY PROGRAM, IN A SANDBOX (cutbox-rows.mjs): the forced cells as the released guide's own fill.sh prints them over the translation febf0bd0d944dc50… (all of the seat's roots in one cut). By AI agents, Wed Nov 11 2026. No macro, syntax, notation, axiom, sorry.
-/
import Derived.Test.YtddjhemncniidaaDoorChecked
import GoSem.Claim
import GoSem.ClaimJoined
import GoSem.ClaimMapViews
import Derived.JoinedTies
import Derived.KernelRfl
namespace Go.Proofs.YtddjhemncniidaaDoor
/- THE CELL 'sum', in the pinned program and in every row, IS THE sha256 OF THE DUMP (.gsa) THAT YtddjhemncniidaaDoorProg.lean LOADS. Nothing in Lean hashes anything: it is a label: what it is worth is what the hold of that sum in a sandbox is worth. -/
noncomputable def Tryd.pinned : Pinned := { name := "ytddjhemncniidaadoor", sum := "febf0bd0d944dc50099eaa417185da68ba68eb2f6fc6fe87797d083a42dc7afc", checked := Tryd.checked }
namespace Rows
def none {H : Type} : Left H := { results := [], args := [] }

/- WHAT THE LISTED PACKAGE-LEVEL VARIABLES READ AS WHEN THE CALL BEGINS. Each datum BY PROGRAM (the guide's laid-datum.mjs) off the statement by which the dump's own 'gosem.cut.vars' lays the variable. In a bare row this is a premise. The card (YtddjhemncniidaaDoorCards.lean) ties it to the program's text. -/
def laid_skipgraph_skipgraphworld_letters {H : Type} : DataW H := .agg [.lit (.string [97]), .lit (.string [98]), .lit (.string [99]), .lit (.string [0]), .lit (.string [255]), .lit (.string [109])]

/-- 'skipgraphlaw1.KeyspaceBounds': WHATEVER THE INPUT: true; the input reads as it did. -/
def keyspaceBoundsSpec : ChangeSpec := { name := "keyspaceBounds", fn := fun _ => fun
  | [d1, d2, d3] => { results := [.lit (.bool true)], args := [d1, d2, d3] }
  | _ => none }
def keyspaceBoundsRow : OpenClaim := { program := "ytddjhemncniidaadoor", sum := "febf0bd0d944dc50099eaa417185da68ba68eb2f6fc6fe87797d083a42dc7afc", func := "skipgraph/skipgraphlaw1.KeyspaceBounds", spec := "keyspaceBounds", named := ["skipgraph/skipgraphworld.letters"], apart := false, laid := [("skipgraph/skipgraphworld.letters", laid_skipgraph_skipgraphworld_letters)] }
def KeyspaceBoundsSaid : Prop := keyspaceBoundsRow.holds Tryd.pinned (OpenSpec.ofChange keyspaceBoundsSpec)

/-- ITS FALSE NEIGHBOUR: 'it returns false'. Refute it at one input. -/
def keyspaceBoundsWrong : ChangeSpec := { name := "keyspaceBounds", fn := fun _ => fun
  | [d1, d2, d3] => { results := [.lit (.bool false)], args := [d1, d2, d3] }
  | _ => none }
def KeyspaceBoundsWrongFalsely : Prop := keyspaceBoundsRow.holds Tryd.pinned (OpenSpec.ofChange keyspaceBoundsWrong)

/-- 'skipgraphlaw1.KeyspaceTilings': WHATEVER THE INPUT: true; the input reads as it did. -/
def keyspaceTilingsSpec : ChangeSpec := { name := "keyspaceTilings", fn := fun _ => fun
  | [d1, d2, d3] => { results := [.lit (.bool true)], args := [d1, d2, d3] }
  | _ => none }
def keyspaceTilingsRow : OpenClaim := { program := "ytddjhemncniidaadoor", sum := "febf0bd0d944dc50099eaa417185da68ba68eb2f6fc6fe87797d083a42dc7afc", func := "skipgraph/skipgraphlaw1.KeyspaceTilings", spec := "keyspaceTilings", named := ["skipgraph/skipgraphworld.letters"], apart := false, laid := [("skipgraph/skipgraphworld.letters", laid_skipgraph_skipgraphworld_letters)] }
def KeyspaceTilingsSaid : Prop := keyspaceTilingsRow.holds Tryd.pinned (OpenSpec.ofChange keyspaceTilingsSpec)

/-- ITS FALSE NEIGHBOUR: 'it returns false'. Refute it at one input. -/
def keyspaceTilingsWrong : ChangeSpec := { name := "keyspaceTilings", fn := fun _ => fun
  | [d1, d2, d3] => { results := [.lit (.bool false)], args := [d1, d2, d3] }
  | _ => none }
def KeyspaceTilingsWrongFalsely : Prop := keyspaceTilingsRow.holds Tryd.pinned (OpenSpec.ofChange keyspaceTilingsWrong)

/-- 'skipgraphlaw1.KeyspaceLattice': WHATEVER THE INPUT: true; the input reads as it did. -/
def keyspaceLatticeSpec : ChangeSpec := { name := "keyspaceLattice", fn := fun _ => fun
  | [d] => { results := [.lit (.bool true)], args := [d] }
  | _ => none }
def keyspaceLatticeRow : OpenClaim := { program := "ytddjhemncniidaadoor", sum := "febf0bd0d944dc50099eaa417185da68ba68eb2f6fc6fe87797d083a42dc7afc", func := "skipgraph/skipgraphlaw1.KeyspaceLattice", spec := "keyspaceLattice", named := ["skipgraph/skipgraphworld.letters"], apart := false, laid := [("skipgraph/skipgraphworld.letters", laid_skipgraph_skipgraphworld_letters)] }
def KeyspaceLatticeSaid : Prop := keyspaceLatticeRow.holds Tryd.pinned (OpenSpec.ofChange keyspaceLatticeSpec)

/-- ITS FALSE NEIGHBOUR: 'it returns false'. Refute it at one input. -/
def keyspaceLatticeWrong : ChangeSpec := { name := "keyspaceLattice", fn := fun _ => fun
  | [d] => { results := [.lit (.bool false)], args := [d] }
  | _ => none }
def KeyspaceLatticeWrongFalsely : Prop := keyspaceLatticeRow.holds Tryd.pinned (OpenSpec.ofChange keyspaceLatticeWrong)

/-- 'skipgraphlaw1.KeyspacePrefixes': WHATEVER THE INPUT: true; the input reads as it did. -/
def keyspacePrefixesSpec : ChangeSpec := { name := "keyspacePrefixes", fn := fun _ => fun
  | [d1, d2] => { results := [.lit (.bool true)], args := [d1, d2] }
  | _ => none }
def keyspacePrefixesRow : OpenClaim := { program := "ytddjhemncniidaadoor", sum := "febf0bd0d944dc50099eaa417185da68ba68eb2f6fc6fe87797d083a42dc7afc", func := "skipgraph/skipgraphlaw1.KeyspacePrefixes", spec := "keyspacePrefixes", named := ["skipgraph/skipgraphworld.letters"], apart := false, laid := [("skipgraph/skipgraphworld.letters", laid_skipgraph_skipgraphworld_letters)] }
def KeyspacePrefixesSaid : Prop := keyspacePrefixesRow.holds Tryd.pinned (OpenSpec.ofChange keyspacePrefixesSpec)

/-- ITS FALSE NEIGHBOUR: 'it returns false'. Refute it at one input. -/
def keyspacePrefixesWrong : ChangeSpec := { name := "keyspacePrefixes", fn := fun _ => fun
  | [d1, d2] => { results := [.lit (.bool false)], args := [d1, d2] }
  | _ => none }
def KeyspacePrefixesWrongFalsely : Prop := keyspacePrefixesRow.holds Tryd.pinned (OpenSpec.ofChange keyspacePrefixesWrong)

/-- 'skipgraphlaw1.KeyspacePoints': WHATEVER THE INPUT: true; the input reads as it did. -/
def keyspacePointsSpec : ChangeSpec := { name := "keyspacePoints", fn := fun _ => fun
  | [d1, d2] => { results := [.lit (.bool true)], args := [d1, d2] }
  | _ => none }
def keyspacePointsRow : OpenClaim := { program := "ytddjhemncniidaadoor", sum := "febf0bd0d944dc50099eaa417185da68ba68eb2f6fc6fe87797d083a42dc7afc", func := "skipgraph/skipgraphlaw1.KeyspacePoints", spec := "keyspacePoints", named := ["skipgraph/skipgraphworld.letters"], apart := false, laid := [("skipgraph/skipgraphworld.letters", laid_skipgraph_skipgraphworld_letters)] }
def KeyspacePointsSaid : Prop := keyspacePointsRow.holds Tryd.pinned (OpenSpec.ofChange keyspacePointsSpec)

/-- ITS FALSE NEIGHBOUR: 'it returns false'. Refute it at one input. -/
def keyspacePointsWrong : ChangeSpec := { name := "keyspacePoints", fn := fun _ => fun
  | [d1, d2] => { results := [.lit (.bool false)], args := [d1, d2] }
  | _ => none }
def KeyspacePointsWrongFalsely : Prop := keyspacePointsRow.holds Tryd.pinned (OpenSpec.ofChange keyspacePointsWrong)

/-- 'skipgraphlaw1.KeyspaceRanges': WHATEVER THE INPUT: true; the input reads as it did. -/
def keyspaceRangesSpec : ChangeSpec := { name := "keyspaceRanges", fn := fun _ => fun
  | [d1, d2, d3, d4] => { results := [.lit (.bool true)], args := [d1, d2, d3, d4] }
  | _ => none }
def keyspaceRangesRow : OpenClaim := { program := "ytddjhemncniidaadoor", sum := "febf0bd0d944dc50099eaa417185da68ba68eb2f6fc6fe87797d083a42dc7afc", func := "skipgraph/skipgraphlaw1.KeyspaceRanges", spec := "keyspaceRanges", named := ["skipgraph/skipgraphworld.letters"], apart := false, laid := [("skipgraph/skipgraphworld.letters", laid_skipgraph_skipgraphworld_letters)] }
def KeyspaceRangesSaid : Prop := keyspaceRangesRow.holds Tryd.pinned (OpenSpec.ofChange keyspaceRangesSpec)

/-- ITS FALSE NEIGHBOUR: 'it returns false'. Refute it at one input. -/
def keyspaceRangesWrong : ChangeSpec := { name := "keyspaceRanges", fn := fun _ => fun
  | [d1, d2, d3, d4] => { results := [.lit (.bool false)], args := [d1, d2, d3, d4] }
  | _ => none }
def KeyspaceRangesWrongFalsely : Prop := keyspaceRangesRow.holds Tryd.pinned (OpenSpec.ofChange keyspaceRangesWrong)

/-- 'skipgraphlaw1.KeyspaceCovers': WHATEVER THE INPUT: true; the input reads as it did. -/
def keyspaceCoversSpec : ChangeSpec := { name := "keyspaceCovers", fn := fun _ => fun
  | [d1, d2] => { results := [.lit (.bool true)], args := [d1, d2] }
  | _ => none }
def keyspaceCoversRow : OpenClaim := { program := "ytddjhemncniidaadoor", sum := "febf0bd0d944dc50099eaa417185da68ba68eb2f6fc6fe87797d083a42dc7afc", func := "skipgraph/skipgraphlaw1.KeyspaceCovers", spec := "keyspaceCovers", unfollowed := true, recurses := true, named := ["skipgraph/skipgraphworld.letters"], apart := false, laid := [("skipgraph/skipgraphworld.letters", laid_skipgraph_skipgraphworld_letters)] }
def KeyspaceCoversSaid : Prop := keyspaceCoversRow.holds Tryd.pinned (OpenSpec.ofChange keyspaceCoversSpec)

/-- ITS FALSE NEIGHBOUR: 'it returns false'. Refute it at one input. -/
def keyspaceCoversWrong : ChangeSpec := { name := "keyspaceCovers", fn := fun _ => fun
  | [d1, d2] => { results := [.lit (.bool false)], args := [d1, d2] }
  | _ => none }
def KeyspaceCoversWrongFalsely : Prop := keyspaceCoversRow.holds Tryd.pinned (OpenSpec.ofChange keyspaceCoversWrong)

/-- 'skipgraphlaw1.KeyspaceCuts': WHATEVER THE INPUT: true; the input reads as it did. -/
def keyspaceCutsSpec : ChangeSpec := { name := "keyspaceCuts", fn := fun _ => fun
  | [d] => { results := [.lit (.bool true)], args := [d] }
  | _ => none }
def keyspaceCutsRow : OpenClaim := { program := "ytddjhemncniidaadoor", sum := "febf0bd0d944dc50099eaa417185da68ba68eb2f6fc6fe87797d083a42dc7afc", func := "skipgraph/skipgraphlaw1.KeyspaceCuts", spec := "keyspaceCuts", unfollowed := true, recurses := true, named := ["skipgraph/skipgraphworld.letters"], apart := false, laid := [("skipgraph/skipgraphworld.letters", laid_skipgraph_skipgraphworld_letters)] }
def KeyspaceCutsSaid : Prop := keyspaceCutsRow.holds Tryd.pinned (OpenSpec.ofChange keyspaceCutsSpec)

/-- ITS FALSE NEIGHBOUR: 'it returns false'. Refute it at one input. -/
def keyspaceCutsWrong : ChangeSpec := { name := "keyspaceCuts", fn := fun _ => fun
  | [d] => { results := [.lit (.bool false)], args := [d] }
  | _ => none }
def KeyspaceCutsWrongFalsely : Prop := keyspaceCutsRow.holds Tryd.pinned (OpenSpec.ofChange keyspaceCutsWrong)

/-- 'skipgraphlaw1.KeyspaceUnions': WHATEVER THE INPUT: true; the input reads as it did. -/
def keyspaceUnionsSpec : ChangeSpec := { name := "keyspaceUnions", fn := fun _ => fun
  | [d1, d2, d3] => { results := [.lit (.bool true)], args := [d1, d2, d3] }
  | _ => none }
def keyspaceUnionsRow : OpenClaim := { program := "ytddjhemncniidaadoor", sum := "febf0bd0d944dc50099eaa417185da68ba68eb2f6fc6fe87797d083a42dc7afc", func := "skipgraph/skipgraphlaw1.KeyspaceUnions", spec := "keyspaceUnions", unfollowed := true, recurses := true, named := ["skipgraph/skipgraphworld.letters"], apart := false, laid := [("skipgraph/skipgraphworld.letters", laid_skipgraph_skipgraphworld_letters)] }
def KeyspaceUnionsSaid : Prop := keyspaceUnionsRow.holds Tryd.pinned (OpenSpec.ofChange keyspaceUnionsSpec)

/-- ITS FALSE NEIGHBOUR: 'it returns false'. Refute it at one input. -/
def keyspaceUnionsWrong : ChangeSpec := { name := "keyspaceUnions", fn := fun _ => fun
  | [d1, d2, d3] => { results := [.lit (.bool false)], args := [d1, d2, d3] }
  | _ => none }
def KeyspaceUnionsWrongFalsely : Prop := keyspaceUnionsRow.holds Tryd.pinned (OpenSpec.ofChange keyspaceUnionsWrong)

/-- 'skipgraphlaw1.KeyspaceJoins': WHATEVER THE INPUT: true; the input reads as it did. -/
def keyspaceJoinsSpec : ChangeSpec := { name := "keyspaceJoins", fn := fun _ => fun
  | [d] => { results := [.lit (.bool true)], args := [d] }
  | _ => none }
def keyspaceJoinsRow : OpenClaim := { program := "ytddjhemncniidaadoor", sum := "febf0bd0d944dc50099eaa417185da68ba68eb2f6fc6fe87797d083a42dc7afc", func := "skipgraph/skipgraphlaw1.KeyspaceJoins", spec := "keyspaceJoins", unfollowed := true, recurses := true, named := ["skipgraph/skipgraphworld.letters"], apart := false, laid := [("skipgraph/skipgraphworld.letters", laid_skipgraph_skipgraphworld_letters)] }
def KeyspaceJoinsSaid : Prop := keyspaceJoinsRow.holds Tryd.pinned (OpenSpec.ofChange keyspaceJoinsSpec)

/-- ITS FALSE NEIGHBOUR: 'it returns false'. Refute it at one input. -/
def keyspaceJoinsWrong : ChangeSpec := { name := "keyspaceJoins", fn := fun _ => fun
  | [d] => { results := [.lit (.bool false)], args := [d] }
  | _ => none }
def KeyspaceJoinsWrongFalsely : Prop := keyspaceJoinsRow.holds Tryd.pinned (OpenSpec.ofChange keyspaceJoinsWrong)

/- THE SECOND FORM. 'bulk': how many values and letters a reading holds, each counted each time it is reached (what is shared counts as often as it is met; a slice's spare places count too). A statement '..UptoSaid' is the law's where the arguments, and the package variables that the reading takes, are together of bulk at most 1048576: NARROWER than '..Said'. Prove '..Said' where nothing that the law and all that it calls make is longer than what came in: it says more and counts as full. Else prove '..UptoSaid'. A law counts once. -/
mutual
def uptoBulk {H : Type} : DataW H → Nat
  | .lit (.string bytes) => bytes.length + 1
  | .lit _ => 1
  | .nil => 1
  | .ptr d => uptoBulk d + 1
  | .slice elems spare => uptoBulkAll elems + uptoBulkAll spare + 1
  | .agg parts => uptoBulkAll parts + 1
  | .iface _ d => uptoBulk d + 1
  | .map entries => uptoBulkEntries entries + 1
  | .held _ => 1
def uptoBulkAll {H : Type} : List (DataW H) → Nat
  | [] => 0
  | d :: r => uptoBulk d + uptoBulkAll r
def uptoBulkEntries {H : Type} : List (Lit × DataW H) → Nat
  | [] => 0
  | x :: r => uptoBulkEntry x + uptoBulkEntries r
def uptoBulkEntry {H : Type} : Lit × DataW H → Nat
  | (.string bytes, d) => bytes.length + uptoBulk d + 1
  | (_, d) => uptoBulk d + 1
 end
def uptoSmall : (H : Type) → List (DataW H) → Bool := fun _ ds => decide (uptoBulkAll ds ≤ 1048576)
def OpenSpec.upto (s : _root_.Go.ChangeSpec) : _root_.Go.OpenSpec := { _root_.Go.OpenSpec.ofChange s with cond := some uptoSmall }

/-- 'skipgraphlaw1.KeyspaceBounds', WHERE WHAT IT READS IS OF BULK AT MOST 1048576: true; the input reads as it did. -/
def keyspaceBoundsUptoRow : OpenClaim := { program := "ytddjhemncniidaadoor", sum := "febf0bd0d944dc50099eaa417185da68ba68eb2f6fc6fe87797d083a42dc7afc", func := "skipgraph/skipgraphlaw1.KeyspaceBounds", spec := "keyspaceBounds", named := ["skipgraph/skipgraphworld.letters"], apart := false, laid := [("skipgraph/skipgraphworld.letters", laid_skipgraph_skipgraphworld_letters)], narrowed := true }
def KeyspaceBoundsUptoSaid : Prop := keyspaceBoundsUptoRow.holds Tryd.pinned (OpenSpec.upto keyspaceBoundsSpec)

/-- 'skipgraphlaw1.KeyspaceTilings', WHERE WHAT IT READS IS OF BULK AT MOST 1048576: true; the input reads as it did. -/
def keyspaceTilingsUptoRow : OpenClaim := { program := "ytddjhemncniidaadoor", sum := "febf0bd0d944dc50099eaa417185da68ba68eb2f6fc6fe87797d083a42dc7afc", func := "skipgraph/skipgraphlaw1.KeyspaceTilings", spec := "keyspaceTilings", named := ["skipgraph/skipgraphworld.letters"], apart := false, laid := [("skipgraph/skipgraphworld.letters", laid_skipgraph_skipgraphworld_letters)], narrowed := true }
def KeyspaceTilingsUptoSaid : Prop := keyspaceTilingsUptoRow.holds Tryd.pinned (OpenSpec.upto keyspaceTilingsSpec)

/-- 'skipgraphlaw1.KeyspaceLattice', WHERE WHAT IT READS IS OF BULK AT MOST 1048576: true; the input reads as it did. -/
def keyspaceLatticeUptoRow : OpenClaim := { program := "ytddjhemncniidaadoor", sum := "febf0bd0d944dc50099eaa417185da68ba68eb2f6fc6fe87797d083a42dc7afc", func := "skipgraph/skipgraphlaw1.KeyspaceLattice", spec := "keyspaceLattice", named := ["skipgraph/skipgraphworld.letters"], apart := false, laid := [("skipgraph/skipgraphworld.letters", laid_skipgraph_skipgraphworld_letters)], narrowed := true }
def KeyspaceLatticeUptoSaid : Prop := keyspaceLatticeUptoRow.holds Tryd.pinned (OpenSpec.upto keyspaceLatticeSpec)

/-- 'skipgraphlaw1.KeyspacePrefixes', WHERE WHAT IT READS IS OF BULK AT MOST 1048576: true; the input reads as it did. -/
def keyspacePrefixesUptoRow : OpenClaim := { program := "ytddjhemncniidaadoor", sum := "febf0bd0d944dc50099eaa417185da68ba68eb2f6fc6fe87797d083a42dc7afc", func := "skipgraph/skipgraphlaw1.KeyspacePrefixes", spec := "keyspacePrefixes", named := ["skipgraph/skipgraphworld.letters"], apart := false, laid := [("skipgraph/skipgraphworld.letters", laid_skipgraph_skipgraphworld_letters)], narrowed := true }
def KeyspacePrefixesUptoSaid : Prop := keyspacePrefixesUptoRow.holds Tryd.pinned (OpenSpec.upto keyspacePrefixesSpec)

/-- 'skipgraphlaw1.KeyspacePoints', WHERE WHAT IT READS IS OF BULK AT MOST 1048576: true; the input reads as it did. -/
def keyspacePointsUptoRow : OpenClaim := { program := "ytddjhemncniidaadoor", sum := "febf0bd0d944dc50099eaa417185da68ba68eb2f6fc6fe87797d083a42dc7afc", func := "skipgraph/skipgraphlaw1.KeyspacePoints", spec := "keyspacePoints", named := ["skipgraph/skipgraphworld.letters"], apart := false, laid := [("skipgraph/skipgraphworld.letters", laid_skipgraph_skipgraphworld_letters)], narrowed := true }
def KeyspacePointsUptoSaid : Prop := keyspacePointsUptoRow.holds Tryd.pinned (OpenSpec.upto keyspacePointsSpec)

/-- 'skipgraphlaw1.KeyspaceRanges', WHERE WHAT IT READS IS OF BULK AT MOST 1048576: true; the input reads as it did. -/
def keyspaceRangesUptoRow : OpenClaim := { program := "ytddjhemncniidaadoor", sum := "febf0bd0d944dc50099eaa417185da68ba68eb2f6fc6fe87797d083a42dc7afc", func := "skipgraph/skipgraphlaw1.KeyspaceRanges", spec := "keyspaceRanges", named := ["skipgraph/skipgraphworld.letters"], apart := false, laid := [("skipgraph/skipgraphworld.letters", laid_skipgraph_skipgraphworld_letters)], narrowed := true }
def KeyspaceRangesUptoSaid : Prop := keyspaceRangesUptoRow.holds Tryd.pinned (OpenSpec.upto keyspaceRangesSpec)

/-- 'skipgraphlaw1.KeyspaceCovers', WHERE WHAT IT READS IS OF BULK AT MOST 1048576: true; the input reads as it did. -/
def keyspaceCoversUptoRow : OpenClaim := { program := "ytddjhemncniidaadoor", sum := "febf0bd0d944dc50099eaa417185da68ba68eb2f6fc6fe87797d083a42dc7afc", func := "skipgraph/skipgraphlaw1.KeyspaceCovers", spec := "keyspaceCovers", unfollowed := true, recurses := true, named := ["skipgraph/skipgraphworld.letters"], apart := false, laid := [("skipgraph/skipgraphworld.letters", laid_skipgraph_skipgraphworld_letters)], narrowed := true }
def KeyspaceCoversUptoSaid : Prop := keyspaceCoversUptoRow.holds Tryd.pinned (OpenSpec.upto keyspaceCoversSpec)

/-- 'skipgraphlaw1.KeyspaceCuts', WHERE WHAT IT READS IS OF BULK AT MOST 1048576: true; the input reads as it did. -/
def keyspaceCutsUptoRow : OpenClaim := { program := "ytddjhemncniidaadoor", sum := "febf0bd0d944dc50099eaa417185da68ba68eb2f6fc6fe87797d083a42dc7afc", func := "skipgraph/skipgraphlaw1.KeyspaceCuts", spec := "keyspaceCuts", unfollowed := true, recurses := true, named := ["skipgraph/skipgraphworld.letters"], apart := false, laid := [("skipgraph/skipgraphworld.letters", laid_skipgraph_skipgraphworld_letters)], narrowed := true }
def KeyspaceCutsUptoSaid : Prop := keyspaceCutsUptoRow.holds Tryd.pinned (OpenSpec.upto keyspaceCutsSpec)

/-- 'skipgraphlaw1.KeyspaceUnions', WHERE WHAT IT READS IS OF BULK AT MOST 1048576: true; the input reads as it did. -/
def keyspaceUnionsUptoRow : OpenClaim := { program := "ytddjhemncniidaadoor", sum := "febf0bd0d944dc50099eaa417185da68ba68eb2f6fc6fe87797d083a42dc7afc", func := "skipgraph/skipgraphlaw1.KeyspaceUnions", spec := "keyspaceUnions", unfollowed := true, recurses := true, named := ["skipgraph/skipgraphworld.letters"], apart := false, laid := [("skipgraph/skipgraphworld.letters", laid_skipgraph_skipgraphworld_letters)], narrowed := true }
def KeyspaceUnionsUptoSaid : Prop := keyspaceUnionsUptoRow.holds Tryd.pinned (OpenSpec.upto keyspaceUnionsSpec)

/-- 'skipgraphlaw1.KeyspaceJoins', WHERE WHAT IT READS IS OF BULK AT MOST 1048576: true; the input reads as it did. -/
def keyspaceJoinsUptoRow : OpenClaim := { program := "ytddjhemncniidaadoor", sum := "febf0bd0d944dc50099eaa417185da68ba68eb2f6fc6fe87797d083a42dc7afc", func := "skipgraph/skipgraphlaw1.KeyspaceJoins", spec := "keyspaceJoins", unfollowed := true, recurses := true, named := ["skipgraph/skipgraphworld.letters"], apart := false, laid := [("skipgraph/skipgraphworld.letters", laid_skipgraph_skipgraphworld_letters)], narrowed := true }
def KeyspaceJoinsUptoSaid : Prop := keyspaceJoinsUptoRow.holds Tryd.pinned (OpenSpec.upto keyspaceJoinsSpec)

end Rows
end Go.Proofs.YtddjhemncniidaaDoor

/-
  NARROWER THAN 'FOR EVERY INPUT', by the rows' own cells (each row's printed sentence says how): PathNames: laid · PathParents: laid · PathRound: laid · PathRow: laid · PathSplits: laid · TreeBuilds: laid · TreeWalks: laid.
  DERIVED. THE GIVEN ROWS OF THIS SEAT. 7 by the template 'for every input the law returns true; each argument reads behind the call as it read before'; 0 by the template 'total and deterministic' (their statements: YtojcciciinklbaaDoorTotals.lean).
  GIVEN WITH THE SEED: the statements are not yours to turn. If you find one false, say at which input.
  Laid BY PROGRAM, IN A SANDBOX (cutbox-rows.mjs): the forced cells as the released guide's own fill.sh prints them over the translation 811ac66e59a43a54… (all of the seat's roots in one cut). By AI agents, Wed Nov 11 2026. No macro, syntax, notation, axiom, sorry.
-/
import Derived.Test.YtojcciciinklbaaDoorChecked
import GoSem.PinnedTables
import GoSem.Claim
import GoSem.ClaimJoined
import GoSem.ClaimMapViews
import Derived.JoinedTies
import Derived.KernelRfl
namespace Go.Proofs.YtojcciciinklbaaDoor
/- THE CELL 'sum', in the pinned program and in every row, IS THE sha256 OF THE DUMP (.gsa) THAT YtojcciciinklbaaDoorProg.lean LOADS. Nothing in Lean hashes anything: it is a label: what it is worth is what the hold of that sum in a sandbox is worth. -/
noncomputable def Tryd.pinned : Pinned := { name := "ytojcciciinklbaadoor", sum := "811ac66e59a43a54acd7d14ffab07b5a4ab6313d27d5ca37dc80e088d14f0baf", checked := Tryd.checked }
namespace Rows
def none {H : Type} : Left H := { results := [], args := [] }

/- WHAT THE LISTED PACKAGE-LEVEL VARIABLES READ AS WHEN THE CALL BEGINS. Each datum BY PROGRAM (the guide's laid-datum.mjs) off the statement by which the dump's own 'gosem.cut.vars' lays the variable. In a bare row this is a premise. The card (YtojcciciinklbaaDoorCards.lean) ties it to the program's text. -/
def laid_unicode_utf8_acceptRanges {H : Type} : DataW H := .agg [.agg [.lit (.int .u8 128), .lit (.int .u8 191)], .agg [.lit (.int .u8 160), .lit (.int .u8 191)], .agg [.lit (.int .u8 128), .lit (.int .u8 159)], .agg [.lit (.int .u8 144), .lit (.int .u8 191)], .agg [.lit (.int .u8 128), .lit (.int .u8 143)], .agg [.lit (.int .u8 0), .lit (.int .u8 0)], .agg [.lit (.int .u8 0), .lit (.int .u8 0)], .agg [.lit (.int .u8 0), .lit (.int .u8 0)], .agg [.lit (.int .u8 0), .lit (.int .u8 0)], .agg [.lit (.int .u8 0), .lit (.int .u8 0)], .agg [.lit (.int .u8 0), .lit (.int .u8 0)], .agg [.lit (.int .u8 0), .lit (.int .u8 0)], .agg [.lit (.int .u8 0), .lit (.int .u8 0)], .agg [.lit (.int .u8 0), .lit (.int .u8 0)], .agg [.lit (.int .u8 0), .lit (.int .u8 0)], .agg [.lit (.int .u8 0), .lit (.int .u8 0)]]
/-- One of Go's own tables, pinned by name: the form's constant. -/
def laid_unicode_utf8_first : DataW Unit := Go.Pinned.utf8First

/-- 'lighteragelaw07.PathNames': WHATEVER THE INPUT: true; the input reads as it did. -/
def pathNamesSpec : ChangeSpec := { name := "pathNames", fn := fun _ => fun
  | [d1, d2, d3, d4] => { results := [.lit (.bool true)], args := [d1, d2, d3, d4] }
  | _ => none }
def pathNamesRow : OpenClaim := { program := "ytojcciciinklbaadoor", sum := "811ac66e59a43a54acd7d14ffab07b5a4ab6313d27d5ca37dc80e088d14f0baf", func := "lighterage/lighteragelaw07.PathNames", spec := "pathNames", inPlace := ["internal/bytealg.CountString", "internal/bytealg.IndexByteString", "internal/bytealg.IndexString", "internal/abi.NoEscape", "internal/bytealg.MakeNoZero"], named := ["unicode/utf8.first", "unicode/utf8.acceptRanges", "internal/bytealg.MaxLen"], apart := false, laid := [("unicode/utf8.acceptRanges", laid_unicode_utf8_acceptRanges), ("unicode/utf8.first", laid_unicode_utf8_first)] }
def PathNamesSaid : Prop := pathNamesRow.holds Tryd.pinned (OpenSpec.ofChange pathNamesSpec)

/-- ITS FALSE NEIGHBOUR: 'it returns false'. Refute it at one input. -/
def pathNamesWrong : ChangeSpec := { name := "pathNames", fn := fun _ => fun
  | [d1, d2, d3, d4] => { results := [.lit (.bool false)], args := [d1, d2, d3, d4] }
  | _ => none }
def PathNamesWrongFalsely : Prop := pathNamesRow.holds Tryd.pinned (OpenSpec.ofChange pathNamesWrong)

/-- 'lighteragelaw07.PathParents': WHATEVER THE INPUT: true; the input reads as it did. -/
def pathParentsSpec : ChangeSpec := { name := "pathParents", fn := fun _ => fun
  | [d] => { results := [.lit (.bool true)], args := [d] }
  | _ => none }
def pathParentsRow : OpenClaim := { program := "ytojcciciinklbaadoor", sum := "811ac66e59a43a54acd7d14ffab07b5a4ab6313d27d5ca37dc80e088d14f0baf", func := "lighterage/lighteragelaw07.PathParents", spec := "pathParents", inPlace := ["internal/bytealg.CountString", "internal/bytealg.IndexByteString", "internal/bytealg.IndexString", "internal/abi.NoEscape", "internal/bytealg.MakeNoZero"], named := ["unicode/utf8.first", "unicode/utf8.acceptRanges", "internal/bytealg.MaxLen"], apart := false, laid := [("unicode/utf8.acceptRanges", laid_unicode_utf8_acceptRanges), ("unicode/utf8.first", laid_unicode_utf8_first)] }
def PathParentsSaid : Prop := pathParentsRow.holds Tryd.pinned (OpenSpec.ofChange pathParentsSpec)

/-- ITS FALSE NEIGHBOUR: 'it returns false'. Refute it at one input. -/
def pathParentsWrong : ChangeSpec := { name := "pathParents", fn := fun _ => fun
  | [d] => { results := [.lit (.bool false)], args := [d] }
  | _ => none }
def PathParentsWrongFalsely : Prop := pathParentsRow.holds Tryd.pinned (OpenSpec.ofChange pathParentsWrong)

/-- 'lighteragelaw07.PathRound': WHATEVER THE INPUT: true; the input reads as it did. -/
def pathRoundSpec : ChangeSpec := { name := "pathRound", fn := fun _ => fun
  | [d] => { results := [.lit (.bool true)], args := [d] }
  | _ => none }
def pathRoundRow : OpenClaim := { program := "ytojcciciinklbaadoor", sum := "811ac66e59a43a54acd7d14ffab07b5a4ab6313d27d5ca37dc80e088d14f0baf", func := "lighterage/lighteragelaw07.PathRound", spec := "pathRound", inPlace := ["internal/abi.NoEscape", "internal/bytealg.MakeNoZero", "internal/bytealg.CountString", "internal/bytealg.IndexByteString", "internal/bytealg.IndexString"], unfollowed := true, recurses := true, named := ["unicode/utf8.first", "unicode/utf8.acceptRanges", "internal/bytealg.MaxLen"], apart := false, laid := [("unicode/utf8.acceptRanges", laid_unicode_utf8_acceptRanges), ("unicode/utf8.first", laid_unicode_utf8_first)] }
def PathRoundSaid : Prop := pathRoundRow.holds Tryd.pinned (OpenSpec.ofChange pathRoundSpec)

/-- ITS FALSE NEIGHBOUR: 'it returns false'. Refute it at one input. -/
def pathRoundWrong : ChangeSpec := { name := "pathRound", fn := fun _ => fun
  | [d] => { results := [.lit (.bool false)], args := [d] }
  | _ => none }
def PathRoundWrongFalsely : Prop := pathRoundRow.holds Tryd.pinned (OpenSpec.ofChange pathRoundWrong)

/-- 'lighteragelaw07.PathRow': WHATEVER THE INPUT: true; the input reads as it did. -/
def pathRowSpec : ChangeSpec := { name := "pathRow", fn := fun _ => fun
  | [d1, d2, d3] => { results := [.lit (.bool true)], args := [d1, d2, d3] }
  | _ => none }
def pathRowRow : OpenClaim := { program := "ytojcciciinklbaadoor", sum := "811ac66e59a43a54acd7d14ffab07b5a4ab6313d27d5ca37dc80e088d14f0baf", func := "lighterage/lighteragelaw07.PathRow", spec := "pathRow", inPlace := ["internal/bytealg.CountString", "internal/bytealg.IndexByteString", "internal/bytealg.IndexString", "internal/abi.NoEscape", "internal/bytealg.MakeNoZero"], named := ["unicode/utf8.first", "unicode/utf8.acceptRanges", "internal/bytealg.MaxLen"], apart := false, laid := [("unicode/utf8.acceptRanges", laid_unicode_utf8_acceptRanges), ("unicode/utf8.first", laid_unicode_utf8_first)] }
def PathRowSaid : Prop := pathRowRow.holds Tryd.pinned (OpenSpec.ofChange pathRowSpec)

/-- ITS FALSE NEIGHBOUR: 'it returns false'. Refute it at one input. -/
def pathRowWrong : ChangeSpec := { name := "pathRow", fn := fun _ => fun
  | [d1, d2, d3] => { results := [.lit (.bool false)], args := [d1, d2, d3] }
  | _ => none }
def PathRowWrongFalsely : Prop := pathRowRow.holds Tryd.pinned (OpenSpec.ofChange pathRowWrong)

/-- 'lighteragelaw07.PathSplits': WHATEVER THE INPUT: true; the input reads as it did. -/
def pathSplitsSpec : ChangeSpec := { name := "pathSplits", fn := fun _ => fun
  | [d1, d2, d3] => { results := [.lit (.bool true)], args := [d1, d2, d3] }
  | _ => none }
def pathSplitsRow : OpenClaim := { program := "ytojcciciinklbaadoor", sum := "811ac66e59a43a54acd7d14ffab07b5a4ab6313d27d5ca37dc80e088d14f0baf", func := "lighterage/lighteragelaw07.PathSplits", spec := "pathSplits", inPlace := ["internal/bytealg.CountString", "internal/bytealg.IndexByteString", "internal/bytealg.IndexString", "internal/abi.NoEscape", "internal/bytealg.MakeNoZero"], unfollowed := true, recurses := true, named := ["unicode/utf8.first", "unicode/utf8.acceptRanges", "internal/bytealg.MaxLen"], apart := false, laid := [("unicode/utf8.acceptRanges", laid_unicode_utf8_acceptRanges), ("unicode/utf8.first", laid_unicode_utf8_first)] }
def PathSplitsSaid : Prop := pathSplitsRow.holds Tryd.pinned (OpenSpec.ofChange pathSplitsSpec)

/-- ITS FALSE NEIGHBOUR: 'it returns false'. Refute it at one input. -/
def pathSplitsWrong : ChangeSpec := { name := "pathSplits", fn := fun _ => fun
  | [d1, d2, d3] => { results := [.lit (.bool false)], args := [d1, d2, d3] }
  | _ => none }
def PathSplitsWrongFalsely : Prop := pathSplitsRow.holds Tryd.pinned (OpenSpec.ofChange pathSplitsWrong)

/-- 'lighteragelaw08.TreeBuilds': WHATEVER THE INPUT: true; the input reads as it did. -/
def treeBuildsSpec : ChangeSpec := { name := "treeBuilds", fn := fun _ => fun
  | [d1, d2, d3, d4, d5] => { results := [.lit (.bool true)], args := [d1, d2, d3, d4, d5] }
  | _ => none }
def treeBuildsRow : OpenClaim := { program := "ytojcciciinklbaadoor", sum := "811ac66e59a43a54acd7d14ffab07b5a4ab6313d27d5ca37dc80e088d14f0baf", func := "lighterage/lighteragelaw08.TreeBuilds", spec := "treeBuilds", inPlace := ["internal/bytealg.CountString", "internal/bytealg.IndexByteString", "internal/bytealg.IndexString", "internal/abi.NoEscape", "internal/bytealg.MakeNoZero"], unfollowed := true, recurses := true, named := ["unicode/utf8.first", "unicode/utf8.acceptRanges", "internal/bytealg.MaxLen"], apart := false, laid := [("unicode/utf8.acceptRanges", laid_unicode_utf8_acceptRanges), ("unicode/utf8.first", laid_unicode_utf8_first)] }
def TreeBuildsSaid : Prop := treeBuildsRow.holds Tryd.pinned (OpenSpec.ofChange treeBuildsSpec)

/-- ITS FALSE NEIGHBOUR: 'it returns false'. Refute it at one input. -/
def treeBuildsWrong : ChangeSpec := { name := "treeBuilds", fn := fun _ => fun
  | [d1, d2, d3, d4, d5] => { results := [.lit (.bool false)], args := [d1, d2, d3, d4, d5] }
  | _ => none }
def TreeBuildsWrongFalsely : Prop := treeBuildsRow.holds Tryd.pinned (OpenSpec.ofChange treeBuildsWrong)

/-- 'lighteragelaw08.TreeWalks': WHATEVER THE INPUT: true; the input reads as it did. -/
def treeWalksSpec : ChangeSpec := { name := "treeWalks", fn := fun _ => fun
  | [d] => { results := [.lit (.bool true)], args := [d] }
  | _ => none }
def treeWalksRow : OpenClaim := { program := "ytojcciciinklbaadoor", sum := "811ac66e59a43a54acd7d14ffab07b5a4ab6313d27d5ca37dc80e088d14f0baf", func := "lighterage/lighteragelaw08.TreeWalks", spec := "treeWalks", inPlace := ["internal/abi.NoEscape", "internal/bytealg.MakeNoZero", "internal/bytealg.CountString", "internal/bytealg.IndexByteString", "internal/bytealg.IndexString"], unfollowed := true, recurses := true, named := ["unicode/utf8.first", "unicode/utf8.acceptRanges", "internal/bytealg.MaxLen"], apart := false, laid := [("unicode/utf8.acceptRanges", laid_unicode_utf8_acceptRanges), ("unicode/utf8.first", laid_unicode_utf8_first)] }
def TreeWalksSaid : Prop := treeWalksRow.holds Tryd.pinned (OpenSpec.ofChange treeWalksSpec)

/-- ITS FALSE NEIGHBOUR: 'it returns false'. Refute it at one input. -/
def treeWalksWrong : ChangeSpec := { name := "treeWalks", fn := fun _ => fun
  | [d] => { results := [.lit (.bool false)], args := [d] }
  | _ => none }
def TreeWalksWrongFalsely : Prop := treeWalksRow.holds Tryd.pinned (OpenSpec.ofChange treeWalksWrong)

/- THE SECOND FORM. 'bulk': how many values and letters a reading holds, each counted each time it is reached (what is shared counts as often as it is met; a slice's spare places count too). A statement '..UptoSaid' is the law's where the arguments, and the package variables that the reading takes, are together of bulk at most 1048576: NARROWER than '..Said'. Prove '..Said' where nothing that the law and all that it calls make is longer than what came in: it says more and counts as full. Else prove '..UptoSaid'. A law counts once. -/
mutual
def uptoBulk {H : Type} : DataW H → Nat
  | .lit (.string bytes) => bytes.length + 1
  | .lit _ => 1
  | .nil => 1
  | .ptr d => uptoBulk d + 1
  | .slice elems spare => uptoBulkAll elems + uptoBulkAll spare + 1
  | .agg parts => uptoBulkAll parts + 1
  | .iface _ d => uptoBulk d + 1
  | .map entries => uptoBulkEntries entries + 1
  | .held _ => 1
def uptoBulkAll {H : Type} : List (DataW H) → Nat
  | [] => 0
  | d :: r => uptoBulk d + uptoBulkAll r
def uptoBulkEntries {H : Type} : List (Lit × DataW H) → Nat
  | [] => 0
  | x :: r => uptoBulkEntry x + uptoBulkEntries r
def uptoBulkEntry {H : Type} : Lit × DataW H → Nat
  | (.string bytes, d) => bytes.length + uptoBulk d + 1
  | (_, d) => uptoBulk d + 1
 end
def uptoSmall : (H : Type) → List (DataW H) → Bool := fun _ ds => decide (uptoBulkAll ds ≤ 1048576)
def OpenSpec.upto (s : _root_.Go.ChangeSpec) : _root_.Go.OpenSpec := { _root_.Go.OpenSpec.ofChange s with cond := some uptoSmall }

/-- 'lighteragelaw07.PathNames', WHERE WHAT IT READS IS OF BULK AT MOST 1048576: true; the input reads as it did. -/
def pathNamesUptoRow : OpenClaim := { program := "ytojcciciinklbaadoor", sum := "811ac66e59a43a54acd7d14ffab07b5a4ab6313d27d5ca37dc80e088d14f0baf", func := "lighterage/lighteragelaw07.PathNames", spec := "pathNames", inPlace := ["internal/bytealg.CountString", "internal/bytealg.IndexByteString", "internal/bytealg.IndexString", "internal/abi.NoEscape", "internal/bytealg.MakeNoZero"], named := ["unicode/utf8.first", "unicode/utf8.acceptRanges", "internal/bytealg.MaxLen"], apart := false, laid := [("unicode/utf8.acceptRanges", laid_unicode_utf8_acceptRanges), ("unicode/utf8.first", laid_unicode_utf8_first)], narrowed := true }
def PathNamesUptoSaid : Prop := pathNamesUptoRow.holds Tryd.pinned (OpenSpec.upto pathNamesSpec)

/-- 'lighteragelaw07.PathParents', WHERE WHAT IT READS IS OF BULK AT MOST 1048576: true; the input reads as it did. -/
def pathParentsUptoRow : OpenClaim := { program := "ytojcciciinklbaadoor", sum := "811ac66e59a43a54acd7d14ffab07b5a4ab6313d27d5ca37dc80e088d14f0baf", func := "lighterage/lighteragelaw07.PathParents", spec := "pathParents", inPlace := ["internal/bytealg.CountString", "internal/bytealg.IndexByteString", "internal/bytealg.IndexString", "internal/abi.NoEscape", "internal/bytealg.MakeNoZero"], named := ["unicode/utf8.first", "unicode/utf8.acceptRanges", "internal/bytealg.MaxLen"], apart := false, laid := [("unicode/utf8.acceptRanges", laid_unicode_utf8_acceptRanges), ("unicode/utf8.first", laid_unicode_utf8_first)], narrowed := true }
def PathParentsUptoSaid : Prop := pathParentsUptoRow.holds Tryd.pinned (OpenSpec.upto pathParentsSpec)

/-- 'lighteragelaw07.PathRound', WHERE WHAT IT READS IS OF BULK AT MOST 1048576: true; the input reads as it did. -/
def pathRoundUptoRow : OpenClaim := { program := "ytojcciciinklbaadoor", sum := "811ac66e59a43a54acd7d14ffab07b5a4ab6313d27d5ca37dc80e088d14f0baf", func := "lighterage/lighteragelaw07.PathRound", spec := "pathRound", inPlace := ["internal/abi.NoEscape", "internal/bytealg.MakeNoZero", "internal/bytealg.CountString", "internal/bytealg.IndexByteString", "internal/bytealg.IndexString"], unfollowed := true, recurses := true, named := ["unicode/utf8.first", "unicode/utf8.acceptRanges", "internal/bytealg.MaxLen"], apart := false, laid := [("unicode/utf8.acceptRanges", laid_unicode_utf8_acceptRanges), ("unicode/utf8.first", laid_unicode_utf8_first)], narrowed := true }
def PathRoundUptoSaid : Prop := pathRoundUptoRow.holds Tryd.pinned (OpenSpec.upto pathRoundSpec)

/-- 'lighteragelaw07.PathRow', WHERE WHAT IT READS IS OF BULK AT MOST 1048576: true; the input reads as it did. -/
def pathRowUptoRow : OpenClaim := { program := "ytojcciciinklbaadoor", sum := "811ac66e59a43a54acd7d14ffab07b5a4ab6313d27d5ca37dc80e088d14f0baf", func := "lighterage/lighteragelaw07.PathRow", spec := "pathRow", inPlace := ["internal/bytealg.CountString", "internal/bytealg.IndexByteString", "internal/bytealg.IndexString", "internal/abi.NoEscape", "internal/bytealg.MakeNoZero"], named := ["unicode/utf8.first", "unicode/utf8.acceptRanges", "internal/bytealg.MaxLen"], apart := false, laid := [("unicode/utf8.acceptRanges", laid_unicode_utf8_acceptRanges), ("unicode/utf8.first", laid_unicode_utf8_first)], narrowed := true }
def PathRowUptoSaid : Prop := pathRowUptoRow.holds Tryd.pinned (OpenSpec.upto pathRowSpec)

/-- 'lighteragelaw07.PathSplits', WHERE WHAT IT READS IS OF BULK AT MOST 1048576: true; the input reads as it did. -/
def pathSplitsUptoRow : OpenClaim := { program := "ytojcciciinklbaadoor", sum := "811ac66e59a43a54acd7d14ffab07b5a4ab6313d27d5ca37dc80e088d14f0baf", func := "lighterage/lighteragelaw07.PathSplits", spec := "pathSplits", inPlace := ["internal/bytealg.CountString", "internal/bytealg.IndexByteString", "internal/bytealg.IndexString", "internal/abi.NoEscape", "internal/bytealg.MakeNoZero"], unfollowed := true, recurses := true, named := ["unicode/utf8.first", "unicode/utf8.acceptRanges", "internal/bytealg.MaxLen"], apart := false, laid := [("unicode/utf8.acceptRanges", laid_unicode_utf8_acceptRanges), ("unicode/utf8.first", laid_unicode_utf8_first)], narrowed := true }
def PathSplitsUptoSaid : Prop := pathSplitsUptoRow.holds Tryd.pinned (OpenSpec.upto pathSplitsSpec)

/-- 'lighteragelaw08.TreeBuilds', WHERE WHAT IT READS IS OF BULK AT MOST 1048576: true; the input reads as it did. -/
def treeBuildsUptoRow : OpenClaim := { program := "ytojcciciinklbaadoor", sum := "811ac66e59a43a54acd7d14ffab07b5a4ab6313d27d5ca37dc80e088d14f0baf", func := "lighterage/lighteragelaw08.TreeBuilds", spec := "treeBuilds", inPlace := ["internal/bytealg.CountString", "internal/bytealg.IndexByteString", "internal/bytealg.IndexString", "internal/abi.NoEscape", "internal/bytealg.MakeNoZero"], unfollowed := true, recurses := true, named := ["unicode/utf8.first", "unicode/utf8.acceptRanges", "internal/bytealg.MaxLen"], apart := false, laid := [("unicode/utf8.acceptRanges", laid_unicode_utf8_acceptRanges), ("unicode/utf8.first", laid_unicode_utf8_first)], narrowed := true }
def TreeBuildsUptoSaid : Prop := treeBuildsUptoRow.holds Tryd.pinned (OpenSpec.upto treeBuildsSpec)

/-- 'lighteragelaw08.TreeWalks', WHERE WHAT IT READS IS OF BULK AT MOST 1048576: true; the input reads as it did. -/
def treeWalksUptoRow : OpenClaim := { program := "ytojcciciinklbaadoor", sum := "811ac66e59a43a54acd7d14ffab07b5a4ab6313d27d5ca37dc80e088d14f0baf", func := "lighterage/lighteragelaw08.TreeWalks", spec := "treeWalks", inPlace := ["internal/abi.NoEscape", "internal/bytealg.MakeNoZero", "internal/bytealg.CountString", "internal/bytealg.IndexByteString", "internal/bytealg.IndexString"], unfollowed := true, recurses := true, named := ["unicode/utf8.first", "unicode/utf8.acceptRanges", "internal/bytealg.MaxLen"], apart := false, laid := [("unicode/utf8.acceptRanges", laid_unicode_utf8_acceptRanges), ("unicode/utf8.first", laid_unicode_utf8_first)], narrowed := true }
def TreeWalksUptoSaid : Prop := treeWalksUptoRow.holds Tryd.pinned (OpenSpec.upto treeWalksSpec)

end Rows
end Go.Proofs.YtojcciciinklbaaDoor

/-
  No cell of these rows narrows 'for every input' (looked for: loops, veiled, ifaces, maps, wideKeys, modest, calm, conditions, laid).
  DERIVED. THE GIVEN ROWS OF THIS SEAT. 10 by the template 'for every input the law returns true; each argument reads behind the call as it read before'; 0 by the template 'total and deterministic' (their statements: YtojcciciinklbaaTotals.lean).
  GIVEN WITH THE SEED: the statements are not yours to turn. If you find one false, say at which input.
  Laid BY PROGRAM, IN A SANDBOX (cutbox-rows.mjs): the forced cells as the released guide's own fill.sh prints them over the translation 1d741309267d0bdc… (all of the seat's roots in one cut). By AI agents, Wed Nov 11 2026. No macro, syntax, notation, axiom, sorry.
-/
import Derived.Test.YtojcciciinklbaaChecked
import GoSem.Claim
import GoSem.ClaimJoined
import GoSem.ClaimMapViews
import Derived.JoinedTies
import Derived.KernelRfl
namespace Go.Proofs.Ytojcciciinklbaa
/- THE CELL 'sum', in the pinned program and in every row, IS THE sha256 OF THE DUMP (.gsa) THAT YtojcciciinklbaaProg.lean LOADS. Nothing in Lean hashes anything: it is a label: what it is worth is what the hold of that sum in a sandbox is worth. -/
noncomputable def Try.pinned : Pinned := { name := "ytojcciciinklbaa", sum := "1d741309267d0bdcf6905be247ccf9f2f0970eac2ca561ce6e05880a8fee4256", checked := Try.checked }
namespace Rows
def none {H : Type} : Left H := { results := [], args := [] }

/-- 'lighteragelaw08.TreeDeep': WHATEVER THE INPUT: true; the input reads as it did. -/
def treeDeepSpec : ChangeSpec := { name := "treeDeep", fn := fun _ => fun
  | [d1, d2] => { results := [.lit (.bool true)], args := [d1, d2] }
  | _ => none }
def treeDeepRow : OpenClaim := { program := "ytojcciciinklbaa", sum := "1d741309267d0bdcf6905be247ccf9f2f0970eac2ca561ce6e05880a8fee4256", func := "lighterage/lighteragelaw08.TreeDeep", spec := "treeDeep", inPlace := ["internal/bytealg.IndexByteString", "internal/bytealg.IndexString", "internal/abi.NoEscape", "internal/bytealg.MakeNoZero"], unfollowed := true, recurses := true, named := ["internal/bytealg.MaxLen"], apart := false }
def TreeDeepSaid : Prop := treeDeepRow.holds Try.pinned (OpenSpec.ofChange treeDeepSpec)

/-- ITS FALSE NEIGHBOUR: 'it returns false'. Refute it at one input. -/
def treeDeepWrong : ChangeSpec := { name := "treeDeep", fn := fun _ => fun
  | [d1, d2] => { results := [.lit (.bool false)], args := [d1, d2] }
  | _ => none }
def TreeDeepWrongFalsely : Prop := treeDeepRow.holds Try.pinned (OpenSpec.ofChange treeDeepWrong)

/-- 'lighteragelaw08.TreeFinds': WHATEVER THE INPUT: true; the input reads as it did. -/
def treeFindsSpec : ChangeSpec := { name := "treeFinds", fn := fun _ => fun
  | [d1, d2, d3] => { results := [.lit (.bool true)], args := [d1, d2, d3] }
  | _ => none }
def treeFindsRow : OpenClaim := { program := "ytojcciciinklbaa", sum := "1d741309267d0bdcf6905be247ccf9f2f0970eac2ca561ce6e05880a8fee4256", func := "lighterage/lighteragelaw08.TreeFinds", spec := "treeFinds", inPlace := ["internal/bytealg.IndexByteString", "internal/bytealg.IndexString", "internal/abi.NoEscape", "internal/bytealg.MakeNoZero"], unfollowed := true, recurses := true, named := ["internal/bytealg.MaxLen"], apart := false }
def TreeFindsSaid : Prop := treeFindsRow.holds Try.pinned (OpenSpec.ofChange treeFindsSpec)

/-- ITS FALSE NEIGHBOUR: 'it returns false'. Refute it at one input. -/
def treeFindsWrong : ChangeSpec := { name := "treeFinds", fn := fun _ => fun
  | [d1, d2, d3] => { results := [.lit (.bool false)], args := [d1, d2, d3] }
  | _ => none }
def TreeFindsWrongFalsely : Prop := treeFindsRow.holds Try.pinned (OpenSpec.ofChange treeFindsWrong)

/-- 'lighteragelaw08.TreeMay': WHATEVER THE INPUT: true; the input reads as it did. -/
def treeMaySpec : ChangeSpec := { name := "treeMay", fn := fun _ => fun
  | [d1, d2, d3, d4, d5, d6, d7, d8] => { results := [.lit (.bool true)], args := [d1, d2, d3, d4, d5, d6, d7, d8] }
  | _ => none }
def treeMayRow : OpenClaim := { program := "ytojcciciinklbaa", sum := "1d741309267d0bdcf6905be247ccf9f2f0970eac2ca561ce6e05880a8fee4256", func := "lighterage/lighteragelaw08.TreeMay", spec := "treeMay", inPlace := ["internal/bytealg.IndexByteString", "internal/bytealg.IndexString", "internal/abi.NoEscape", "internal/bytealg.MakeNoZero"], unfollowed := true, recurses := true, named := ["internal/bytealg.MaxLen"], apart := false }
def TreeMaySaid : Prop := treeMayRow.holds Try.pinned (OpenSpec.ofChange treeMaySpec)

/-- ITS FALSE NEIGHBOUR: 'it returns false'. Refute it at one input. -/
def treeMayWrong : ChangeSpec := { name := "treeMay", fn := fun _ => fun
  | [d1, d2, d3, d4, d5, d6, d7, d8] => { results := [.lit (.bool false)], args := [d1, d2, d3, d4, d5, d6, d7, d8] }
  | _ => none }
def TreeMayWrongFalsely : Prop := treeMayRow.holds Try.pinned (OpenSpec.ofChange treeMayWrong)

/-- 'lighteragelaw08.TreeSame': WHATEVER THE INPUT: true; the input reads as it did. -/
def treeSameSpec : ChangeSpec := { name := "treeSame", fn := fun _ => fun
  | [d1, d2, d3, d4, d5] => { results := [.lit (.bool true)], args := [d1, d2, d3, d4, d5] }
  | _ => none }
def treeSameRow : OpenClaim := { program := "ytojcciciinklbaa", sum := "1d741309267d0bdcf6905be247ccf9f2f0970eac2ca561ce6e05880a8fee4256", func := "lighterage/lighteragelaw08.TreeSame", spec := "treeSame", inPlace := ["internal/abi.NoEscape", "internal/bytealg.MakeNoZero", "internal/bytealg.IndexByteString", "internal/bytealg.IndexString"], unfollowed := true, recurses := true, named := ["internal/bytealg.MaxLen"], apart := false }
def TreeSameSaid : Prop := treeSameRow.holds Try.pinned (OpenSpec.ofChange treeSameSpec)

/-- ITS FALSE NEIGHBOUR: 'it returns false'. Refute it at one input. -/
def treeSameWrong : ChangeSpec := { name := "treeSame", fn := fun _ => fun
  | [d1, d2, d3, d4, d5] => { results := [.lit (.bool false)], args := [d1, d2, d3, d4, d5] }
  | _ => none }
def TreeSameWrongFalsely : Prop := treeSameRow.holds Try.pinned (OpenSpec.ofChange treeSameWrong)

/-- 'lighteragelaw08.TreeSorts': WHATEVER THE INPUT: true; the input reads as it did. -/
def treeSortsSpec : ChangeSpec := { name := "treeSorts", fn := fun _ => fun
  | [d] => { results := [.lit (.bool true)], args := [d] }
  | _ => none }
def treeSortsRow : OpenClaim := { program := "ytojcciciinklbaa", sum := "1d741309267d0bdcf6905be247ccf9f2f0970eac2ca561ce6e05880a8fee4256", func := "lighterage/lighteragelaw08.TreeSorts", spec := "treeSorts", inPlace := ["internal/abi.NoEscape", "internal/bytealg.MakeNoZero", "internal/bytealg.IndexByteString", "internal/bytealg.IndexString"], unfollowed := true, recurses := true, named := ["internal/bytealg.MaxLen"], apart := false }
def TreeSortsSaid : Prop := treeSortsRow.holds Try.pinned (OpenSpec.ofChange treeSortsSpec)

/-- ITS FALSE NEIGHBOUR: 'it returns false'. Refute it at one input. -/
def treeSortsWrong : ChangeSpec := { name := "treeSorts", fn := fun _ => fun
  | [d] => { results := [.lit (.bool false)], args := [d] }
  | _ => none }
def TreeSortsWrongFalsely : Prop := treeSortsRow.holds Try.pinned (OpenSpec.ofChange treeSortsWrong)

/-- 'lighteragelaw09.ArchCuts': WHATEVER THE INPUT: true; the input reads as it did. -/
def archCutsSpec : ChangeSpec := { name := "archCuts", fn := fun _ => fun
  | [d] => { results := [.lit (.bool true)], args := [d] }
  | _ => none }
def archCutsRow : OpenClaim := { program := "ytojcciciinklbaa", sum := "1d741309267d0bdcf6905be247ccf9f2f0970eac2ca561ce6e05880a8fee4256", func := "lighterage/lighteragelaw09.ArchCuts", spec := "archCuts", inPlace := ["internal/bytealg.IndexByteString", "internal/bytealg.IndexString"], unfollowed := true, recurses := true, named := ["internal/bytealg.MaxLen"], apart := false }
def ArchCutsSaid : Prop := archCutsRow.holds Try.pinned (OpenSpec.ofChange archCutsSpec)

/-- ITS FALSE NEIGHBOUR: 'it returns false'. Refute it at one input. -/
def archCutsWrong : ChangeSpec := { name := "archCuts", fn := fun _ => fun
  | [d] => { results := [.lit (.bool false)], args := [d] }
  | _ => none }
def ArchCutsWrongFalsely : Prop := archCutsRow.holds Try.pinned (OpenSpec.ofChange archCutsWrong)

/-- 'lighteragelaw09.ArchReads': WHATEVER THE INPUT: true; the input reads as it did. -/
def archReadsSpec : ChangeSpec := { name := "archReads", fn := fun _ => fun
  | [d1, d2, d3, d4] => { results := [.lit (.bool true)], args := [d1, d2, d3, d4] }
  | _ => none }
def archReadsRow : OpenClaim := { program := "ytojcciciinklbaa", sum := "1d741309267d0bdcf6905be247ccf9f2f0970eac2ca561ce6e05880a8fee4256", func := "lighterage/lighteragelaw09.ArchReads", spec := "archReads", inPlace := ["internal/bytealg.IndexByteString", "internal/bytealg.IndexString", "internal/abi.NoEscape", "internal/bytealg.MakeNoZero"], unfollowed := true, recurses := true, named := ["internal/bytealg.MaxLen"], apart := false }
def ArchReadsSaid : Prop := archReadsRow.holds Try.pinned (OpenSpec.ofChange archReadsSpec)

/-- ITS FALSE NEIGHBOUR: 'it returns false'. Refute it at one input. -/
def archReadsWrong : ChangeSpec := { name := "archReads", fn := fun _ => fun
  | [d1, d2, d3, d4] => { results := [.lit (.bool false)], args := [d1, d2, d3, d4] }
  | _ => none }
def ArchReadsWrongFalsely : Prop := archReadsRow.holds Try.pinned (OpenSpec.ofChange archReadsWrong)

/-- 'lighteragelaw09.ArchRefuses': WHATEVER THE INPUT: true; the input reads as it did. -/
def archRefusesSpec : ChangeSpec := { name := "archRefuses", fn := fun _ => fun
  | [d1, d2, d3, d4, d5] => { results := [.lit (.bool true)], args := [d1, d2, d3, d4, d5] }
  | _ => none }
def archRefusesRow : OpenClaim := { program := "ytojcciciinklbaa", sum := "1d741309267d0bdcf6905be247ccf9f2f0970eac2ca561ce6e05880a8fee4256", func := "lighterage/lighteragelaw09.ArchRefuses", spec := "archRefuses", inPlace := ["internal/bytealg.IndexByteString", "internal/bytealg.IndexString"], unfollowed := true, recurses := true, named := ["internal/bytealg.MaxLen"], apart := false }
def ArchRefusesSaid : Prop := archRefusesRow.holds Try.pinned (OpenSpec.ofChange archRefusesSpec)

/-- ITS FALSE NEIGHBOUR: 'it returns false'. Refute it at one input. -/
def archRefusesWrong : ChangeSpec := { name := "archRefuses", fn := fun _ => fun
  | [d1, d2, d3, d4, d5] => { results := [.lit (.bool false)], args := [d1, d2, d3, d4, d5] }
  | _ => none }
def ArchRefusesWrongFalsely : Prop := archRefusesRow.holds Try.pinned (OpenSpec.ofChange archRefusesWrong)

/-- 'lighteragelaw09.ArchRound': WHATEVER THE INPUT: true; the input reads as it did. -/
def archRoundSpec : ChangeSpec := { name := "archRound", fn := fun _ => fun
  | [d1, d2] => { results := [.lit (.bool true)], args := [d1, d2] }
  | _ => none }
def archRoundRow : OpenClaim := { program := "ytojcciciinklbaa", sum := "1d741309267d0bdcf6905be247ccf9f2f0970eac2ca561ce6e05880a8fee4256", func := "lighterage/lighteragelaw09.ArchRound", spec := "archRound", inPlace := ["internal/bytealg.IndexByteString", "internal/bytealg.IndexString", "internal/abi.NoEscape", "internal/bytealg.MakeNoZero"], unfollowed := true, recurses := true, named := ["internal/bytealg.MaxLen"], apart := false }
def ArchRoundSaid : Prop := archRoundRow.holds Try.pinned (OpenSpec.ofChange archRoundSpec)

/-- ITS FALSE NEIGHBOUR: 'it returns false'. Refute it at one input. -/
def archRoundWrong : ChangeSpec := { name := "archRound", fn := fun _ => fun
  | [d1, d2] => { results := [.lit (.bool false)], args := [d1, d2] }
  | _ => none }
def ArchRoundWrongFalsely : Prop := archRoundRow.holds Try.pinned (OpenSpec.ofChange archRoundWrong)

/-- 'lighteragelaw09.ArchWrites': WHATEVER THE INPUT: true; the input reads as it did. -/
def archWritesSpec : ChangeSpec := { name := "archWrites", fn := fun _ => fun
  | [d] => { results := [.lit (.bool true)], args := [d] }
  | _ => none }
def archWritesRow : OpenClaim := { program := "ytojcciciinklbaa", sum := "1d741309267d0bdcf6905be247ccf9f2f0970eac2ca561ce6e05880a8fee4256", func := "lighterage/lighteragelaw09.ArchWrites", spec := "archWrites", inPlace := ["internal/bytealg.IndexByteString", "internal/bytealg.IndexString"], unfollowed := true, recurses := true, named := ["internal/bytealg.MaxLen"], apart := false }
def ArchWritesSaid : Prop := archWritesRow.holds Try.pinned (OpenSpec.ofChange archWritesSpec)

/-- ITS FALSE NEIGHBOUR: 'it returns false'. Refute it at one input. -/
def archWritesWrong : ChangeSpec := { name := "archWrites", fn := fun _ => fun
  | [d] => { results := [.lit (.bool false)], args := [d] }
  | _ => none }
def ArchWritesWrongFalsely : Prop := archWritesRow.holds Try.pinned (OpenSpec.ofChange archWritesWrong)

/- THE SECOND FORM. 'bulk': how many values and letters a reading holds, each counted each time it is reached (what is shared counts as often as it is met; a slice's spare places count too). A statement '..UptoSaid' is the law's where the arguments, and the package variables that the reading takes, are together of bulk at most 1048576: NARROWER than '..Said'. Prove '..Said' where nothing that the law and all that it calls make is longer than what came in: it says more and counts as full. Else prove '..UptoSaid'. A law counts once. -/
mutual
def uptoBulk {H : Type} : DataW H → Nat
  | .lit (.string bytes) => bytes.length + 1
  | .lit _ => 1
  | .nil => 1
  | .ptr d => uptoBulk d + 1
  | .slice elems spare => uptoBulkAll elems + uptoBulkAll spare + 1
  | .agg parts => uptoBulkAll parts + 1
  | .iface _ d => uptoBulk d + 1
  | .map entries => uptoBulkEntries entries + 1
  | .held _ => 1
def uptoBulkAll {H : Type} : List (DataW H) → Nat
  | [] => 0
  | d :: r => uptoBulk d + uptoBulkAll r
def uptoBulkEntries {H : Type} : List (Lit × DataW H) → Nat
  | [] => 0
  | x :: r => uptoBulkEntry x + uptoBulkEntries r
def uptoBulkEntry {H : Type} : Lit × DataW H → Nat
  | (.string bytes, d) => bytes.length + uptoBulk d + 1
  | (_, d) => uptoBulk d + 1
 end
def uptoSmall : (H : Type) → List (DataW H) → Bool := fun _ ds => decide (uptoBulkAll ds ≤ 1048576)
def OpenSpec.upto (s : _root_.Go.ChangeSpec) : _root_.Go.OpenSpec := { _root_.Go.OpenSpec.ofChange s with cond := some uptoSmall }

/-- 'lighteragelaw08.TreeDeep', WHERE WHAT IT READS IS OF BULK AT MOST 1048576: true; the input reads as it did. -/
def treeDeepUptoRow : OpenClaim := { program := "ytojcciciinklbaa", sum := "1d741309267d0bdcf6905be247ccf9f2f0970eac2ca561ce6e05880a8fee4256", func := "lighterage/lighteragelaw08.TreeDeep", spec := "treeDeep", inPlace := ["internal/bytealg.IndexByteString", "internal/bytealg.IndexString", "internal/abi.NoEscape", "internal/bytealg.MakeNoZero"], unfollowed := true, recurses := true, named := ["internal/bytealg.MaxLen"], apart := false, narrowed := true }
def TreeDeepUptoSaid : Prop := treeDeepUptoRow.holds Try.pinned (OpenSpec.upto treeDeepSpec)

/-- 'lighteragelaw08.TreeFinds', WHERE WHAT IT READS IS OF BULK AT MOST 1048576: true; the input reads as it did. -/
def treeFindsUptoRow : OpenClaim := { program := "ytojcciciinklbaa", sum := "1d741309267d0bdcf6905be247ccf9f2f0970eac2ca561ce6e05880a8fee4256", func := "lighterage/lighteragelaw08.TreeFinds", spec := "treeFinds", inPlace := ["internal/bytealg.IndexByteString", "internal/bytealg.IndexString", "internal/abi.NoEscape", "internal/bytealg.MakeNoZero"], unfollowed := true, recurses := true, named := ["internal/bytealg.MaxLen"], apart := false, narrowed := true }
def TreeFindsUptoSaid : Prop := treeFindsUptoRow.holds Try.pinned (OpenSpec.upto treeFindsSpec)

/-- 'lighteragelaw08.TreeMay', WHERE WHAT IT READS IS OF BULK AT MOST 1048576: true; the input reads as it did. -/
def treeMayUptoRow : OpenClaim := { program := "ytojcciciinklbaa", sum := "1d741309267d0bdcf6905be247ccf9f2f0970eac2ca561ce6e05880a8fee4256", func := "lighterage/lighteragelaw08.TreeMay", spec := "treeMay", inPlace := ["internal/bytealg.IndexByteString", "internal/bytealg.IndexString", "internal/abi.NoEscape", "internal/bytealg.MakeNoZero"], unfollowed := true, recurses := true, named := ["internal/bytealg.MaxLen"], apart := false, narrowed := true }
def TreeMayUptoSaid : Prop := treeMayUptoRow.holds Try.pinned (OpenSpec.upto treeMaySpec)

/-- 'lighteragelaw08.TreeSame', WHERE WHAT IT READS IS OF BULK AT MOST 1048576: true; the input reads as it did. -/
def treeSameUptoRow : OpenClaim := { program := "ytojcciciinklbaa", sum := "1d741309267d0bdcf6905be247ccf9f2f0970eac2ca561ce6e05880a8fee4256", func := "lighterage/lighteragelaw08.TreeSame", spec := "treeSame", inPlace := ["internal/abi.NoEscape", "internal/bytealg.MakeNoZero", "internal/bytealg.IndexByteString", "internal/bytealg.IndexString"], unfollowed := true, recurses := true, named := ["internal/bytealg.MaxLen"], apart := false, narrowed := true }
def TreeSameUptoSaid : Prop := treeSameUptoRow.holds Try.pinned (OpenSpec.upto treeSameSpec)

/-- 'lighteragelaw08.TreeSorts', WHERE WHAT IT READS IS OF BULK AT MOST 1048576: true; the input reads as it did. -/
def treeSortsUptoRow : OpenClaim := { program := "ytojcciciinklbaa", sum := "1d741309267d0bdcf6905be247ccf9f2f0970eac2ca561ce6e05880a8fee4256", func := "lighterage/lighteragelaw08.TreeSorts", spec := "treeSorts", inPlace := ["internal/abi.NoEscape", "internal/bytealg.MakeNoZero", "internal/bytealg.IndexByteString", "internal/bytealg.IndexString"], unfollowed := true, recurses := true, named := ["internal/bytealg.MaxLen"], apart := false, narrowed := true }
def TreeSortsUptoSaid : Prop := treeSortsUptoRow.holds Try.pinned (OpenSpec.upto treeSortsSpec)

/-- 'lighteragelaw09.ArchCuts', WHERE WHAT IT READS IS OF BULK AT MOST 1048576: true; the input reads as it did. -/
def archCutsUptoRow : OpenClaim := { program := "ytojcciciinklbaa", sum := "1d741309267d0bdcf6905be247ccf9f2f0970eac2ca561ce6e05880a8fee4256", func := "lighterage/lighteragelaw09.ArchCuts", spec := "archCuts", inPlace := ["internal/bytealg.IndexByteString", "internal/bytealg.IndexString"], unfollowed := true, recurses := true, named := ["internal/bytealg.MaxLen"], apart := false, narrowed := true }
def ArchCutsUptoSaid : Prop := archCutsUptoRow.holds Try.pinned (OpenSpec.upto archCutsSpec)

/-- 'lighteragelaw09.ArchReads', WHERE WHAT IT READS IS OF BULK AT MOST 1048576: true; the input reads as it did. -/
def archReadsUptoRow : OpenClaim := { program := "ytojcciciinklbaa", sum := "1d741309267d0bdcf6905be247ccf9f2f0970eac2ca561ce6e05880a8fee4256", func := "lighterage/lighteragelaw09.ArchReads", spec := "archReads", inPlace := ["internal/bytealg.IndexByteString", "internal/bytealg.IndexString", "internal/abi.NoEscape", "internal/bytealg.MakeNoZero"], unfollowed := true, recurses := true, named := ["internal/bytealg.MaxLen"], apart := false, narrowed := true }
def ArchReadsUptoSaid : Prop := archReadsUptoRow.holds Try.pinned (OpenSpec.upto archReadsSpec)

/-- 'lighteragelaw09.ArchRefuses', WHERE WHAT IT READS IS OF BULK AT MOST 1048576: true; the input reads as it did. -/
def archRefusesUptoRow : OpenClaim := { program := "ytojcciciinklbaa", sum := "1d741309267d0bdcf6905be247ccf9f2f0970eac2ca561ce6e05880a8fee4256", func := "lighterage/lighteragelaw09.ArchRefuses", spec := "archRefuses", inPlace := ["internal/bytealg.IndexByteString", "internal/bytealg.IndexString"], unfollowed := true, recurses := true, named := ["internal/bytealg.MaxLen"], apart := false, narrowed := true }
def ArchRefusesUptoSaid : Prop := archRefusesUptoRow.holds Try.pinned (OpenSpec.upto archRefusesSpec)

/-- 'lighteragelaw09.ArchRound', WHERE WHAT IT READS IS OF BULK AT MOST 1048576: true; the input reads as it did. -/
def archRoundUptoRow : OpenClaim := { program := "ytojcciciinklbaa", sum := "1d741309267d0bdcf6905be247ccf9f2f0970eac2ca561ce6e05880a8fee4256", func := "lighterage/lighteragelaw09.ArchRound", spec := "archRound", inPlace := ["internal/bytealg.IndexByteString", "internal/bytealg.IndexString", "internal/abi.NoEscape", "internal/bytealg.MakeNoZero"], unfollowed := true, recurses := true, named := ["internal/bytealg.MaxLen"], apart := false, narrowed := true }
def ArchRoundUptoSaid : Prop := archRoundUptoRow.holds Try.pinned (OpenSpec.upto archRoundSpec)

/-- 'lighteragelaw09.ArchWrites', WHERE WHAT IT READS IS OF BULK AT MOST 1048576: true; the input reads as it did. -/
def archWritesUptoRow : OpenClaim := { program := "ytojcciciinklbaa", sum := "1d741309267d0bdcf6905be247ccf9f2f0970eac2ca561ce6e05880a8fee4256", func := "lighterage/lighteragelaw09.ArchWrites", spec := "archWrites", inPlace := ["internal/bytealg.IndexByteString", "internal/bytealg.IndexString"], unfollowed := true, recurses := true, named := ["internal/bytealg.MaxLen"], apart := false, narrowed := true }
def ArchWritesUptoSaid : Prop := archWritesUptoRow.holds Try.pinned (OpenSpec.upto archWritesSpec)

end Rows
end Go.Proofs.Ytojcciciinklbaa

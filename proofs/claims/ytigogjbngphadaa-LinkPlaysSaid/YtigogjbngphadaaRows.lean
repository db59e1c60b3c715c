/-
  No cell of these rows narrows 'for every input' (looked for: loops, veiled, ifaces, maps, wideKeys, modest, calm, conditions, laid).
  DERIVED. THE GIVEN ROWS OF THIS SEAT. 5 by the template 'for every input the law returns true; each argument reads behind the call as it read before'; 0 by the template 'total and deterministic' (their statements: YtigogjbngphadaaTotals.lean).
  GIVEN WITH THE SEED: the statements are not yours to turn. If you find one false, say at which input.
  Laid BY PROGRAM, IN A SANDBOX (cutbox-rows.mjs): the forced cells as the released guide's own fill.sh prints them over the translation 6d52e79bc498c46a… (all of the seat's roots in one cut). By AI agents, Wed Nov 11 2026. No macro, syntax, notation, axiom, sorry.
-/
import Derived.Test.YtigogjbngphadaaChecked
import GoSem.Claim
import GoSem.ClaimJoined
import GoSem.ClaimMapViews
import Derived.JoinedTies
import Derived.KernelRfl
namespace Go.Proofs.Ytigogjbngphadaa
/- THE CELL 'sum', in the pinned program and in every row, IS THE sha256 OF THE DUMP (.gsa) THAT YtigogjbngphadaaProg.lean LOADS. Nothing in Lean hashes anything: it is a label: what it is worth is what the hold of that sum in a sandbox is worth. -/
noncomputable def Try.pinned : Pinned := { name := "ytigogjbngphadaa", sum := "6d52e79bc498c46a7bbf4977aaa4fea232b707efbd20a106d35485869b541221", checked := Try.checked }
namespace Rows
def none {H : Type} : Left H := { results := [], args := [] }

/-- 'lighteragelaw19.LinkTurns': WHATEVER THE INPUT: true; the input reads as it did. -/
def linkTurnsSpec : ChangeSpec := { name := "linkTurns", fn := fun _ => fun
  | [d1, d2, d3] => { results := [.lit (.bool true)], args := [d1, d2, d3] }
  | _ => none }
def linkTurnsRow : OpenClaim := { program := "ytigogjbngphadaa", sum := "6d52e79bc498c46a7bbf4977aaa4fea232b707efbd20a106d35485869b541221", func := "lighterage/lighteragelaw19.LinkTurns", spec := "linkTurns", apart := false }
def LinkTurnsSaid : Prop := linkTurnsRow.holds Try.pinned (OpenSpec.ofChange linkTurnsSpec)

/-- ITS FALSE NEIGHBOUR: 'it returns false'. Refute it at one input. -/
def linkTurnsWrong : ChangeSpec := { name := "linkTurns", fn := fun _ => fun
  | [d1, d2, d3] => { results := [.lit (.bool false)], args := [d1, d2, d3] }
  | _ => none }
def LinkTurnsWrongFalsely : Prop := linkTurnsRow.holds Try.pinned (OpenSpec.ofChange linkTurnsWrong)

/-- 'lighteragelaw19.LinkRow': WHATEVER THE INPUT: true; the input reads as it did. -/
def linkRowSpec : ChangeSpec := { name := "linkRow", fn := fun _ => fun
  | [d1, d2] => { results := [.lit (.bool true)], args := [d1, d2] }
  | _ => none }
def linkRowRow : OpenClaim := { program := "ytigogjbngphadaa", sum := "6d52e79bc498c46a7bbf4977aaa4fea232b707efbd20a106d35485869b541221", func := "lighterage/lighteragelaw19.LinkRow", spec := "linkRow", apart := false }
def LinkRowSaid : Prop := linkRowRow.holds Try.pinned (OpenSpec.ofChange linkRowSpec)

/-- ITS FALSE NEIGHBOUR: 'it returns false'. Refute it at one input. -/
def linkRowWrong : ChangeSpec := { name := "linkRow", fn := fun _ => fun
  | [d1, d2] => { results := [.lit (.bool false)], args := [d1, d2] }
  | _ => none }
def LinkRowWrongFalsely : Prop := linkRowRow.holds Try.pinned (OpenSpec.ofChange linkRowWrong)

/-- 'lighteragelaw19.LinkOwns': WHATEVER THE INPUT: true; the input reads as it did. -/
def linkOwnsSpec : ChangeSpec := { name := "linkOwns", fn := fun _ => fun
  | [d1, d2] => { results := [.lit (.bool true)], args := [d1, d2] }
  | _ => none }
def linkOwnsRow : OpenClaim := { program := "ytigogjbngphadaa", sum := "6d52e79bc498c46a7bbf4977aaa4fea232b707efbd20a106d35485869b541221", func := "lighterage/lighteragelaw19.LinkOwns", spec := "linkOwns", apart := false }
def LinkOwnsSaid : Prop := linkOwnsRow.holds Try.pinned (OpenSpec.ofChange linkOwnsSpec)

/-- ITS FALSE NEIGHBOUR: 'it returns false'. Refute it at one input. -/
def linkOwnsWrong : ChangeSpec := { name := "linkOwns", fn := fun _ => fun
  | [d1, d2] => { results := [.lit (.bool false)], args := [d1, d2] }
  | _ => none }
def LinkOwnsWrongFalsely : Prop := linkOwnsRow.holds Try.pinned (OpenSpec.ofChange linkOwnsWrong)

/-- 'lighteragelaw19.LinkFull': WHATEVER THE INPUT: true; the input reads as it did. -/
def linkFullSpec : ChangeSpec := { name := "linkFull", fn := fun _ => fun
  | [d1, d2] => { results := [.lit (.bool true)], args := [d1, d2] }
  | _ => none }
def linkFullRow : OpenClaim := { program := "ytigogjbngphadaa", sum := "6d52e79bc498c46a7bbf4977aaa4fea232b707efbd20a106d35485869b541221", func := "lighterage/lighteragelaw19.LinkFull", spec := "linkFull", unfollowed := true, recurses := true, apart := false }
def LinkFullSaid : Prop := linkFullRow.holds Try.pinned (OpenSpec.ofChange linkFullSpec)

/-- ITS FALSE NEIGHBOUR: 'it returns false'. Refute it at one input. -/
def linkFullWrong : ChangeSpec := { name := "linkFull", fn := fun _ => fun
  | [d1, d2] => { results := [.lit (.bool false)], args := [d1, d2] }
  | _ => none }
def LinkFullWrongFalsely : Prop := linkFullRow.holds Try.pinned (OpenSpec.ofChange linkFullWrong)

/-- 'lighteragelaw19.LinkPlays': WHATEVER THE INPUT: true; the input reads as it did. -/
def linkPlaysSpec : ChangeSpec := { name := "linkPlays", fn := fun _ => fun
  | [d] => { results := [.lit (.bool true)], args := [d] }
  | _ => none }
def linkPlaysRow : OpenClaim := { program := "ytigogjbngphadaa", sum := "6d52e79bc498c46a7bbf4977aaa4fea232b707efbd20a106d35485869b541221", func := "lighterage/lighteragelaw19.LinkPlays", spec := "linkPlays", unfollowed := true, recurses := true, apart := false }
def LinkPlaysSaid : Prop := linkPlaysRow.holds Try.pinned (OpenSpec.ofChange linkPlaysSpec)

/-- ITS FALSE NEIGHBOUR: 'it returns false'. Refute it at one input. -/
def linkPlaysWrong : ChangeSpec := { name := "linkPlays", fn := fun _ => fun
  | [d] => { results := [.lit (.bool false)], args := [d] }
  | _ => none }
def LinkPlaysWrongFalsely : Prop := linkPlaysRow.holds Try.pinned (OpenSpec.ofChange linkPlaysWrong)

/- THE SECOND FORM. 'bulk': how many values and letters a reading holds, each counted each time it is reached (what is shared counts as often as it is met; a slice's spare places count too). A statement '..UptoSaid' is the law's where the arguments, and the package variables that the reading takes, are together of bulk at most 1048576: NARROWER than '..Said'. Prove '..Said' where nothing that the law and all that it calls make is longer than what came in: it says more and counts as full. Else prove '..UptoSaid'. A law counts once. -/
mutual
def uptoBulk {H : Type} : DataW H → Nat
  | .lit (.string bytes) => bytes.length + 1
  | .lit _ => 1
  | .nil => 1
  | .ptr d => uptoBulk d + 1
  | .slice elems spare => uptoBulkAll elems + uptoBulkAll spare + 1
  | .agg parts => uptoBulkAll parts + 1
  | .iface _ d => uptoBulk d + 1
  | .map entries => uptoBulkEntries entries + 1
  | .held _ => 1
def uptoBulkAll {H : Type} : List (DataW H) → Nat
  | [] => 0
  | d :: r => uptoBulk d + uptoBulkAll r
def uptoBulkEntries {H : Type} : List (Lit × DataW H) → Nat
  | [] => 0
  | x :: r => uptoBulkEntry x + uptoBulkEntries r
def uptoBulkEntry {H : Type} : Lit × DataW H → Nat
  | (.string bytes, d) => bytes.length + uptoBulk d + 1
  | (_, d) => uptoBulk d + 1
 end
def uptoSmall : (H : Type) → List (DataW H) → Bool := fun _ ds => decide (uptoBulkAll ds ≤ 1048576)
def OpenSpec.upto (s : _root_.Go.ChangeSpec) : _root_.Go.OpenSpec := { _root_.Go.OpenSpec.ofChange s with cond := some uptoSmall }

/-- 'lighteragelaw19.LinkTurns', WHERE WHAT IT READS IS OF BULK AT MOST 1048576: true; the input reads as it did. -/
def linkTurnsUptoRow : OpenClaim := { program := "ytigogjbngphadaa", sum := "6d52e79bc498c46a7bbf4977aaa4fea232b707efbd20a106d35485869b541221", func := "lighterage/lighteragelaw19.LinkTurns", spec := "linkTurns", apart := false, narrowed := true }
def LinkTurnsUptoSaid : Prop := linkTurnsUptoRow.holds Try.pinned (OpenSpec.upto linkTurnsSpec)

/-- 'lighteragelaw19.LinkRow', WHERE WHAT IT READS IS OF BULK AT MOST 1048576: true; the input reads as it did. -/
def linkRowUptoRow : OpenClaim := { program := "ytigogjbngphadaa", sum := "6d52e79bc498c46a7bbf4977aaa4fea232b707efbd20a106d35485869b541221", func := "lighterage/lighteragelaw19.LinkRow", spec := "linkRow", apart := false, narrowed := true }
def LinkRowUptoSaid : Prop := linkRowUptoRow.holds Try.pinned (OpenSpec.upto linkRowSpec)

/-- 'lighteragelaw19.LinkOwns', WHERE WHAT IT READS IS OF BULK AT MOST 1048576: true; the input reads as it did. -/
def linkOwnsUptoRow : OpenClaim := { program := "ytigogjbngphadaa", sum := "6d52e79bc498c46a7bbf4977aaa4fea232b707efbd20a106d35485869b541221", func := "lighterage/lighteragelaw19.LinkOwns", spec := "linkOwns", apart := false, narrowed := true }
def LinkOwnsUptoSaid : Prop := linkOwnsUptoRow.holds Try.pinned (OpenSpec.upto linkOwnsSpec)

/-- 'lighteragelaw19.LinkFull', WHERE WHAT IT READS IS OF BULK AT MOST 1048576: true; the input reads as it did. -/
def linkFullUptoRow : OpenClaim := { program := "ytigogjbngphadaa", sum := "6d52e79bc498c46a7bbf4977aaa4fea232b707efbd20a106d35485869b541221", func := "lighterage/lighteragelaw19.LinkFull", spec := "linkFull", unfollowed := true, recurses := true, apart := false, narrowed := true }
def LinkFullUptoSaid : Prop := linkFullUptoRow.holds Try.pinned (OpenSpec.upto linkFullSpec)

/-- 'lighteragelaw19.LinkPlays', WHERE WHAT IT READS IS OF BULK AT MOST 1048576: true; the input reads as it did. -/
def linkPlaysUptoRow : OpenClaim := { program := "ytigogjbngphadaa", sum := "6d52e79bc498c46a7bbf4977aaa4fea232b707efbd20a106d35485869b541221", func := "lighterage/lighteragelaw19.LinkPlays", spec := "linkPlays", unfollowed := true, recurses := true, apart := false, narrowed := true }
def LinkPlaysUptoSaid : Prop := linkPlaysUptoRow.holds Try.pinned (OpenSpec.upto linkPlaysSpec)

end Rows
end Go.Proofs.Ytigogjbngphadaa

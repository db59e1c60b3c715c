/-
  DERIVED. GIVEN WITH THE SEED: THE CARDS: each row of YtojcciciinklbaaDoorRows.lean that lists a variable, with what it lists TIED to the program's text (the seventh form; the later family's looks); each row that meets fmt, with fmt's text TOLD by the authors' own Lean function (tested against real Go, not proved from fmt's source: count such statements apart). THE CARD IS WHAT COUNTS. Prove the row's statement (the work); the ties are given (YtojcciciinklbaaDoorTie.lean); close each card by the builder's one call (the guide's Derived/Test/ToyasCard.lean, 'card_holds'). Laid BY PROGRAM, IN A SANDBOX (cutbox-door.mjs). By AI agents, Wed Nov 11 2026. No macro, syntax, notation, axiom, sorry.
-/
import Derived.Test.YtojcciciinklbaaDoorRows
import GoSem.ClaimSeven
namespace Go.Proofs.YtojcciciinklbaaDoor
namespace Rows

/-- THE TIED CARD OF 'lighteragelaw07.PathNames'. -/
def pathNamesCard : Claim7 := { stood := { row := pathNamesRow, standIns := [], harness := (true, "5a9debc3c934dbc202ae352204853e2ca73a93a3ee6ca07ca70af83bfe7329ab"), looks := false }, kinds := [], alts := [], laidByText := true, laidKinds := [.data, .pinned], laidTests := true, laidLooks := .later }
def PathNamesCardSaid : Prop := Claim7.holds Tryd.pinned (.plain (OpenSpec.ofChange pathNamesSpec)) pathNamesCard

/-- THE TIED CARD OF 'lighteragelaw07.PathParents'. -/
def pathParentsCard : Claim7 := { stood := { row := pathParentsRow, standIns := [], harness := (true, "5a9debc3c934dbc202ae352204853e2ca73a93a3ee6ca07ca70af83bfe7329ab"), looks := false }, kinds := [], alts := [], laidByText := true, laidKinds := [.data, .pinned], laidTests := true, laidLooks := .later }
def PathParentsCardSaid : Prop := Claim7.holds Tryd.pinned (.plain (OpenSpec.ofChange pathParentsSpec)) pathParentsCard

/-- THE TIED CARD OF 'lighteragelaw07.PathRound'. -/
def pathRoundCard : Claim7 := { stood := { row := pathRoundRow, standIns := [], harness := (true, "5a9debc3c934dbc202ae352204853e2ca73a93a3ee6ca07ca70af83bfe7329ab"), looks := false }, kinds := [], alts := [], laidByText := true, laidKinds := [.data, .pinned], laidTests := true, laidLooks := .later }
def PathRoundCardSaid : Prop := Claim7.holds Tryd.pinned (.plain (OpenSpec.ofChange pathRoundSpec)) pathRoundCard

/-- THE TIED CARD OF 'lighteragelaw07.PathRow'. -/
def pathRowCard : Claim7 := { stood := { row := pathRowRow, standIns := [], harness := (true, "5a9debc3c934dbc202ae352204853e2ca73a93a3ee6ca07ca70af83bfe7329ab"), looks := false }, kinds := [], alts := [], laidByText := true, laidKinds := [.data, .pinned], laidTests := true, laidLooks := .later }
def PathRowCardSaid : Prop := Claim7.holds Tryd.pinned (.plain (OpenSpec.ofChange pathRowSpec)) pathRowCard

/-- THE TIED CARD OF 'lighteragelaw07.PathSplits'. -/
def pathSplitsCard : Claim7 := { stood := { row := pathSplitsRow, standIns := [], harness := (true, "5a9debc3c934dbc202ae352204853e2ca73a93a3ee6ca07ca70af83bfe7329ab"), looks := false }, kinds := [], alts := [], laidByText := true, laidKinds := [.data, .pinned], laidTests := true, laidLooks := .later }
def PathSplitsCardSaid : Prop := Claim7.holds Tryd.pinned (.plain (OpenSpec.ofChange pathSplitsSpec)) pathSplitsCard

/-- THE TIED CARD OF 'lighteragelaw08.TreeBuilds'. -/
def treeBuildsCard : Claim7 := { stood := { row := treeBuildsRow, standIns := [], harness := (true, "5a9debc3c934dbc202ae352204853e2ca73a93a3ee6ca07ca70af83bfe7329ab"), looks := false }, kinds := [], alts := [], laidByText := true, laidKinds := [.data, .pinned], laidTests := true, laidLooks := .later }
def TreeBuildsCardSaid : Prop := Claim7.holds Tryd.pinned (.plain (OpenSpec.ofChange treeBuildsSpec)) treeBuildsCard

/-- THE TIED CARD OF 'lighteragelaw08.TreeWalks'. -/
def treeWalksCard : Claim7 := { stood := { row := treeWalksRow, standIns := [], harness := (true, "5a9debc3c934dbc202ae352204853e2ca73a93a3ee6ca07ca70af83bfe7329ab"), looks := false }, kinds := [], alts := [], laidByText := true, laidKinds := [.data, .pinned], laidTests := true, laidLooks := .later }
def TreeWalksCardSaid : Prop := Claim7.holds Tryd.pinned (.plain (OpenSpec.ofChange treeWalksSpec)) treeWalksCard

/-- THE SECOND FORM's CARD OF 'lighteragelaw07.PathNames'. -/
def pathNamesUptoCard : Claim7 := { stood := { row := pathNamesUptoRow, standIns := [], harness := (true, "5a9debc3c934dbc202ae352204853e2ca73a93a3ee6ca07ca70af83bfe7329ab"), looks := false }, kinds := [], alts := [], laidByText := true, laidKinds := [.data, .pinned], laidTests := true, laidLooks := .later }
def PathNamesUptoCardSaid : Prop := Claim7.holds Tryd.pinned (.plain (OpenSpec.upto pathNamesSpec)) pathNamesUptoCard

/-- THE SECOND FORM's CARD OF 'lighteragelaw07.PathParents'. -/
def pathParentsUptoCard : Claim7 := { stood := { row := pathParentsUptoRow, standIns := [], harness := (true, "5a9debc3c934dbc202ae352204853e2ca73a93a3ee6ca07ca70af83bfe7329ab"), looks := false }, kinds := [], alts := [], laidByText := true, laidKinds := [.data, .pinned], laidTests := true, laidLooks := .later }
def PathParentsUptoCardSaid : Prop := Claim7.holds Tryd.pinned (.plain (OpenSpec.upto pathParentsSpec)) pathParentsUptoCard

/-- THE SECOND FORM's CARD OF 'lighteragelaw07.PathRound'. -/
def pathRoundUptoCard : Claim7 := { stood := { row := pathRoundUptoRow, standIns := [], harness := (true, "5a9debc3c934dbc202ae352204853e2ca73a93a3ee6ca07ca70af83bfe7329ab"), looks := false }, kinds := [], alts := [], laidByText := true, laidKinds := [.data, .pinned], laidTests := true, laidLooks := .later }
def PathRoundUptoCardSaid : Prop := Claim7.holds Tryd.pinned (.plain (OpenSpec.upto pathRoundSpec)) pathRoundUptoCard

/-- THE SECOND FORM's CARD OF 'lighteragelaw07.PathRow'. -/
def pathRowUptoCard : Claim7 := { stood := { row := pathRowUptoRow, standIns := [], harness := (true, "5a9debc3c934dbc202ae352204853e2ca73a93a3ee6ca07ca70af83bfe7329ab"), looks := false }, kinds := [], alts := [], laidByText := true, laidKinds := [.data, .pinned], laidTests := true, laidLooks := .later }
def PathRowUptoCardSaid : Prop := Claim7.holds Tryd.pinned (.plain (OpenSpec.upto pathRowSpec)) pathRowUptoCard

/-- THE SECOND FORM's CARD OF 'lighteragelaw07.PathSplits'. -/
def pathSplitsUptoCard : Claim7 := { stood := { row := pathSplitsUptoRow, standIns := [], harness := (true, "5a9debc3c934dbc202ae352204853e2ca73a93a3ee6ca07ca70af83bfe7329ab"), looks := false }, kinds := [], alts := [], laidByText := true, laidKinds := [.data, .pinned], laidTests := true, laidLooks := .later }
def PathSplitsUptoCardSaid : Prop := Claim7.holds Tryd.pinned (.plain (OpenSpec.upto pathSplitsSpec)) pathSplitsUptoCard

/-- THE SECOND FORM's CARD OF 'lighteragelaw08.TreeBuilds'. -/
def treeBuildsUptoCard : Claim7 := { stood := { row := treeBuildsUptoRow, standIns := [], harness := (true, "5a9debc3c934dbc202ae352204853e2ca73a93a3ee6ca07ca70af83bfe7329ab"), looks := false }, kinds := [], alts := [], laidByText := true, laidKinds := [.data, .pinned], laidTests := true, laidLooks := .later }
def TreeBuildsUptoCardSaid : Prop := Claim7.holds Tryd.pinned (.plain (OpenSpec.upto treeBuildsSpec)) treeBuildsUptoCard

/-- THE SECOND FORM's CARD OF 'lighteragelaw08.TreeWalks'. -/
def treeWalksUptoCard : Claim7 := { stood := { row := treeWalksUptoRow, standIns := [], harness := (true, "5a9debc3c934dbc202ae352204853e2ca73a93a3ee6ca07ca70af83bfe7329ab"), looks := false }, kinds := [], alts := [], laidByText := true, laidKinds := [.data, .pinned], laidTests := true, laidLooks := .later }
def TreeWalksUptoCardSaid : Prop := Claim7.holds Tryd.pinned (.plain (OpenSpec.upto treeWalksSpec)) treeWalksUptoCard
end Rows
end Go.Proofs.YtojcciciinklbaaDoor

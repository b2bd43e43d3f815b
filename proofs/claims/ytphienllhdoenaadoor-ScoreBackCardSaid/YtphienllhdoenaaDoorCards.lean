/-
  DERIVED. GIVEN WITH THE SEED: THE CARDS: each row of YtphienllhdoenaaDoorRows.lean that lists a variable, with what it lists TIED to the program's text (the seventh form; the later family's looks); each row that meets fmt, with fmt's text TOLD by the authors' own Lean function (tested against real Go, not proved from fmt's source: count such statements apart). THE CARD IS WHAT COUNTS. Prove the row's statement (the work); the ties are given (YtphienllhdoenaaDoorTie.lean); close each card by the builder's one call (the guide's Derived/Test/ToyasCard.lean, 'card_holds'). Laid BY PROGRAM, IN A SANDBOX (cutbox-door.mjs). By AI agents, Wed Nov 11 2026. No macro, syntax, notation, axiom, sorry.
-/
import Derived.Test.YtphienllhdoenaaDoorRows
import GoSem.ClaimSeven
namespace Go.Proofs.YtphienllhdoenaaDoor
namespace Rows

/-- THE TIED CARD OF 'psalterylaw34.ScoreParses'. -/
def scoreParsesCard : Claim7 := { stood := { row := scoreParsesRow, standIns := [], harness := (true, "90f224471993ce976eee6e2970ee60dc56f606bcbff509fb7f45a8af6dd36a42"), looks := false }, kinds := [], alts := [], laidByText := true, laidKinds := [.data, .pinned], laidTests := true, laidLooks := .later }
def ScoreParsesCardSaid : Prop := Claim7.holds Tryd.pinned (.plain (OpenSpec.ofChange scoreParsesSpec)) scoreParsesCard

/-- THE TIED CARD OF 'psalterylaw34.ScorePrints'. -/
def scorePrintsCard : Claim7 := { stood := { row := scorePrintsRow, standIns := [], harness := (true, "90f224471993ce976eee6e2970ee60dc56f606bcbff509fb7f45a8af6dd36a42"), looks := false }, kinds := [], alts := [], laidByText := true, laidKinds := [.data, .pinned], laidTests := true, laidLooks := .later }
def ScorePrintsCardSaid : Prop := Claim7.holds Tryd.pinned (.plain (OpenSpec.ofChange scorePrintsSpec)) scorePrintsCard

/-- THE TIED CARD OF 'psalterylaw34.ScoreBack'. -/
def scoreBackCard : Claim7 := { stood := { row := scoreBackRow, standIns := [], harness := (true, "90f224471993ce976eee6e2970ee60dc56f606bcbff509fb7f45a8af6dd36a42"), looks := false }, kinds := [], alts := [], laidByText := true, laidKinds := [.data, .pinned], laidTests := true, laidLooks := .later }
def ScoreBackCardSaid : Prop := Claim7.holds Tryd.pinned (.plain (OpenSpec.ofChange scoreBackSpec)) scoreBackCard

/-- THE SECOND FORM's CARD OF 'psalterylaw34.ScoreParses'. -/
def scoreParsesUptoCard : Claim7 := { stood := { row := scoreParsesUptoRow, standIns := [], harness := (true, "90f224471993ce976eee6e2970ee60dc56f606bcbff509fb7f45a8af6dd36a42"), looks := false }, kinds := [], alts := [], laidByText := true, laidKinds := [.data, .pinned], laidTests := true, laidLooks := .later }
def ScoreParsesUptoCardSaid : Prop := Claim7.holds Tryd.pinned (.plain (OpenSpec.upto scoreParsesSpec)) scoreParsesUptoCard

/-- THE SECOND FORM's CARD OF 'psalterylaw34.ScorePrints'. -/
def scorePrintsUptoCard : Claim7 := { stood := { row := scorePrintsUptoRow, standIns := [], harness := (true, "90f224471993ce976eee6e2970ee60dc56f606bcbff509fb7f45a8af6dd36a42"), looks := false }, kinds := [], alts := [], laidByText := true, laidKinds := [.data, .pinned], laidTests := true, laidLooks := .later }
def ScorePrintsUptoCardSaid : Prop := Claim7.holds Tryd.pinned (.plain (OpenSpec.upto scorePrintsSpec)) scorePrintsUptoCard

/-- THE SECOND FORM's CARD OF 'psalterylaw34.ScoreBack'. -/
def scoreBackUptoCard : Claim7 := { stood := { row := scoreBackUptoRow, standIns := [], harness := (true, "90f224471993ce976eee6e2970ee60dc56f606bcbff509fb7f45a8af6dd36a42"), looks := false }, kinds := [], alts := [], laidByText := true, laidKinds := [.data, .pinned], laidTests := true, laidLooks := .later }
def ScoreBackUptoCardSaid : Prop := Claim7.holds Tryd.pinned (.plain (OpenSpec.upto scoreBackSpec)) scoreBackUptoCard
end Rows
end Go.Proofs.YtphienllhdoenaaDoor

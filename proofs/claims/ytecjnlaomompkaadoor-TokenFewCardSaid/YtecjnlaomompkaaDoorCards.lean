/-
  DERIVED. GIVEN WITH THE SEED: THE CARDS: each row of YtecjnlaomompkaaDoorRows.lean that lists a variable, with what it lists TIED to the program's text (the seventh form; the later family's looks); each row that meets fmt, with fmt's text TOLD by the authors' own Lean function (tested against real Go, not proved from fmt's source: count such statements apart). THE CARD IS WHAT COUNTS. Prove the row's statement (the work); the ties are given (YtecjnlaomompkaaDoorTie.lean); close each card by the builder's one call (the guide's Derived/Test/ToyasCard.lean, 'card_holds'). Laid BY PROGRAM, IN A SANDBOX (cutbox-door.mjs). By AI agents, Wed Nov 11 2026. No macro, syntax, notation, axiom, sorry.
-/
import Derived.Test.YtecjnlaomompkaaDoorRows
import GoSem.ClaimSeven
namespace Go.Proofs.YtecjnlaomompkaaDoor
namespace Rows

/-- THE TIED CARD OF 'catchwordlaw05.TokenTells'. -/
def tokenTellsCard : Claim7 := { stood := { row := tokenTellsRow, standIns := [], harness := (true, "eeced1d954ae12e575d3fc7ade88008a6df116e70674e766dd08d07662d10930"), looks := false }, kinds := [], alts := [], laidByText := true, laidKinds := [.data, .pinned], laidTests := true, laidLooks := .later }
def TokenTellsCardSaid : Prop := Claim7.holds Tryd.pinned (.plain (OpenSpec.ofChange tokenTellsSpec)) tokenTellsCard

/-- THE TIED CARD OF 'catchwordlaw05.TokenCards'. -/
def tokenCardsCard : Claim7 := { stood := { row := tokenCardsRow, standIns := [], harness := (true, "eeced1d954ae12e575d3fc7ade88008a6df116e70674e766dd08d07662d10930"), looks := false }, kinds := [], alts := [], laidByText := true, laidKinds := [.data, .pinned], laidTests := true, laidLooks := .later }
def TokenCardsCardSaid : Prop := Claim7.holds Tryd.pinned (.plain (OpenSpec.ofChange tokenCardsSpec)) tokenCardsCard

/-- THE TIED CARD OF 'catchwordlaw05.TokenAgain'. -/
def tokenAgainCard : Claim7 := { stood := { row := tokenAgainRow, standIns := [], harness := (true, "eeced1d954ae12e575d3fc7ade88008a6df116e70674e766dd08d07662d10930"), looks := false }, kinds := [], alts := [], laidByText := true, laidKinds := [.data, .pinned], laidTests := true, laidLooks := .later }
def TokenAgainCardSaid : Prop := Claim7.holds Tryd.pinned (.plain (OpenSpec.ofChange tokenAgainSpec)) tokenAgainCard

/-- THE TIED CARD OF 'catchwordlaw05.TokenJoins'. -/
def tokenJoinsCard : Claim7 := { stood := { row := tokenJoinsRow, standIns := [], harness := (true, "eeced1d954ae12e575d3fc7ade88008a6df116e70674e766dd08d07662d10930"), looks := false }, kinds := [], alts := [], laidByText := true, laidKinds := [.data, .pinned], laidTests := true, laidLooks := .later }
def TokenJoinsCardSaid : Prop := Claim7.holds Tryd.pinned (.plain (OpenSpec.ofChange tokenJoinsSpec)) tokenJoinsCard

/-- THE TIED CARD OF 'catchwordlaw05.TokenCase'. -/
def tokenCaseCard : Claim7 := { stood := { row := tokenCaseRow, standIns := [], harness := (true, "eeced1d954ae12e575d3fc7ade88008a6df116e70674e766dd08d07662d10930"), looks := false }, kinds := [], alts := [], laidByText := true, laidKinds := [.data, .pinned], laidTests := true, laidLooks := .later }
def TokenCaseCardSaid : Prop := Claim7.holds Tryd.pinned (.plain (OpenSpec.ofChange tokenCaseSpec)) tokenCaseCard

/-- THE TIED CARD OF 'catchwordlaw05.TokenValid'. -/
def tokenValidCard : Claim7 := { stood := { row := tokenValidRow, standIns := [], harness := (true, "eeced1d954ae12e575d3fc7ade88008a6df116e70674e766dd08d07662d10930"), looks := false }, kinds := [], alts := [], laidByText := true, laidKinds := [.data, .pinned], laidTests := true, laidLooks := .later }
def TokenValidCardSaid : Prop := Claim7.holds Tryd.pinned (.plain (OpenSpec.ofChange tokenValidSpec)) tokenValidCard

/-- THE TIED CARD OF 'catchwordlaw05.TokenFew'. -/
def tokenFewCard : Claim7 := { stood := { row := tokenFewRow, standIns := [], harness := (true, "eeced1d954ae12e575d3fc7ade88008a6df116e70674e766dd08d07662d10930"), looks := false }, kinds := [], alts := [], laidByText := true, laidKinds := [.data, .pinned], laidTests := true, laidLooks := .later }
def TokenFewCardSaid : Prop := Claim7.holds Tryd.pinned (.plain (OpenSpec.ofChange tokenFewSpec)) tokenFewCard

/-- THE SECOND FORM's CARD OF 'catchwordlaw05.TokenTells'. -/
def tokenTellsUptoCard : Claim7 := { stood := { row := tokenTellsUptoRow, standIns := [], harness := (true, "eeced1d954ae12e575d3fc7ade88008a6df116e70674e766dd08d07662d10930"), looks := false }, kinds := [], alts := [], laidByText := true, laidKinds := [.data, .pinned], laidTests := true, laidLooks := .later }
def TokenTellsUptoCardSaid : Prop := Claim7.holds Tryd.pinned (.plain (OpenSpec.upto tokenTellsSpec)) tokenTellsUptoCard

/-- THE SECOND FORM's CARD OF 'catchwordlaw05.TokenCards'. -/
def tokenCardsUptoCard : Claim7 := { stood := { row := tokenCardsUptoRow, standIns := [], harness := (true, "eeced1d954ae12e575d3fc7ade88008a6df116e70674e766dd08d07662d10930"), looks := false }, kinds := [], alts := [], laidByText := true, laidKinds := [.data, .pinned], laidTests := true, laidLooks := .later }
def TokenCardsUptoCardSaid : Prop := Claim7.holds Tryd.pinned (.plain (OpenSpec.upto tokenCardsSpec)) tokenCardsUptoCard

/-- THE SECOND FORM's CARD OF 'catchwordlaw05.TokenAgain'. -/
def tokenAgainUptoCard : Claim7 := { stood := { row := tokenAgainUptoRow, standIns := [], harness := (true, "eeced1d954ae12e575d3fc7ade88008a6df116e70674e766dd08d07662d10930"), looks := false }, kinds := [], alts := [], laidByText := true, laidKinds := [.data, .pinned], laidTests := true, laidLooks := .later }
def TokenAgainUptoCardSaid : Prop := Claim7.holds Tryd.pinned (.plain (OpenSpec.upto tokenAgainSpec)) tokenAgainUptoCard

/-- THE SECOND FORM's CARD OF 'catchwordlaw05.TokenJoins'. -/
def tokenJoinsUptoCard : Claim7 := { stood := { row := tokenJoinsUptoRow, standIns := [], harness := (true, "eeced1d954ae12e575d3fc7ade88008a6df116e70674e766dd08d07662d10930"), looks := false }, kinds := [], alts := [], laidByText := true, laidKinds := [.data, .pinned], laidTests := true, laidLooks := .later }
def TokenJoinsUptoCardSaid : Prop := Claim7.holds Tryd.pinned (.plain (OpenSpec.upto tokenJoinsSpec)) tokenJoinsUptoCard

/-- THE SECOND FORM's CARD OF 'catchwordlaw05.TokenCase'. -/
def tokenCaseUptoCard : Claim7 := { stood := { row := tokenCaseUptoRow, standIns := [], harness := (true, "eeced1d954ae12e575d3fc7ade88008a6df116e70674e766dd08d07662d10930"), looks := false }, kinds := [], alts := [], laidByText := true, laidKinds := [.data, .pinned], laidTests := true, laidLooks := .later }
def TokenCaseUptoCardSaid : Prop := Claim7.holds Tryd.pinned (.plain (OpenSpec.upto tokenCaseSpec)) tokenCaseUptoCard

/-- THE SECOND FORM's CARD OF 'catchwordlaw05.TokenValid'. -/
def tokenValidUptoCard : Claim7 := { stood := { row := tokenValidUptoRow, standIns := [], harness := (true, "eeced1d954ae12e575d3fc7ade88008a6df116e70674e766dd08d07662d10930"), looks := false }, kinds := [], alts := [], laidByText := true, laidKinds := [.data, .pinned], laidTests := true, laidLooks := .later }
def TokenValidUptoCardSaid : Prop := Claim7.holds Tryd.pinned (.plain (OpenSpec.upto tokenValidSpec)) tokenValidUptoCard

/-- THE SECOND FORM's CARD OF 'catchwordlaw05.TokenFew'. -/
def tokenFewUptoCard : Claim7 := { stood := { row := tokenFewUptoRow, standIns := [], harness := (true, "eeced1d954ae12e575d3fc7ade88008a6df116e70674e766dd08d07662d10930"), looks := false }, kinds := [], alts := [], laidByText := true, laidKinds := [.data, .pinned], laidTests := true, laidLooks := .later }
def TokenFewUptoCardSaid : Prop := Claim7.holds Tryd.pinned (.plain (OpenSpec.upto tokenFewSpec)) tokenFewUptoCard
end Rows
end Go.Proofs.YtecjnlaomompkaaDoor

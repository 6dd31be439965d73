/-
  DERIVED. GIVEN WITH THE SEED: THE CARDS: each row of YtbbmdakdghefnaaGreatDoorRows.lean that lists a variable, with what it lists TIED to the program's text (the seventh form; the later family's looks); each row that meets fmt, with fmt's text TOLD by the authors' own Lean function (tested against real Go, not proved from fmt's source: count such statements apart). THE CARD IS WHAT COUNTS. Prove the row's statement (the work); the ties are given (YtbbmdakdghefnaaGreatDoorTie.lean); close each card by the builder's one call (the guide's Derived/Test/ToyasCard.lean, 'card_holds'). Laid BY PROGRAM, IN A SANDBOX (cutbox-door.mjs). By AI agents, Wed Nov 11 2026. No macro, syntax, notation, axiom, sorry.
-/
import Derived.Test.YtbbmdakdghefnaaGreatDoorRows
import GoSem.ClaimSeven
namespace Go.Proofs.YtbbmdakdghefnaaGreatDoor
namespace Rows

/-- THE TIED CARD OF 'catchwordlaw18.QueryTells'. -/
def queryTellsCard : Claim7 := { stood := { row := queryTellsRow, standIns := [], harness := (true, "a3e6cec34ce7f5083ba9727ca0b1e6585793dc4e9ac02bb16d7574c1f374d222"), looks := false }, kinds := [], alts := [], laidByText := true, laidKinds := [.data, .pinned], laidTests := true, laidLooks := .later }
def QueryTellsCardSaid : Prop := Claim7.holds Tryz.pinned (.plain (OpenSpec.ofChange queryTellsSpec)) queryTellsCard

/-- THE TIED CARD OF 'catchwordlaw18.QueryReads'. -/
def queryReadsCard : Claim7 := { stood := { row := queryReadsRow, standIns := [], harness := (true, "a3e6cec34ce7f5083ba9727ca0b1e6585793dc4e9ac02bb16d7574c1f374d222"), looks := false }, kinds := [], alts := [], laidByText := true, laidKinds := [.data, .pinned], laidTests := true, laidLooks := .later }
def QueryReadsCardSaid : Prop := Claim7.holds Tryz.pinned (.plain (OpenSpec.ofChange queryReadsSpec)) queryReadsCard

/-- THE TIED CARD OF 'catchwordlaw18.QueryJoins'. -/
def queryJoinsCard : Claim7 := { stood := { row := queryJoinsRow, standIns := [], harness := (true, "a3e6cec34ce7f5083ba9727ca0b1e6585793dc4e9ac02bb16d7574c1f374d222"), looks := false }, kinds := [], alts := [], laidByText := true, laidKinds := [.data, .pinned], laidTests := true, laidLooks := .later }
def QueryJoinsCardSaid : Prop := Claim7.holds Tryz.pinned (.plain (OpenSpec.ofChange queryJoinsSpec)) queryJoinsCard

/-- THE TIED CARD OF 'catchwordlaw18.QueryWeighs'. -/
def queryWeighsCard : Claim7 := { stood := { row := queryWeighsRow, standIns := [], harness := (true, "a3e6cec34ce7f5083ba9727ca0b1e6585793dc4e9ac02bb16d7574c1f374d222"), looks := false }, kinds := [], alts := [], laidByText := true, laidKinds := [.data, .pinned], laidTests := true, laidLooks := .later }
def QueryWeighsCardSaid : Prop := Claim7.holds Tryz.pinned (.plain (OpenSpec.ofChange queryWeighsSpec)) queryWeighsCard

/-- THE TIED CARD OF 'catchwordlaw18.QueryPuts'. -/
def queryPutsCard : Claim7 := { stood := { row := queryPutsRow, standIns := [], harness := (true, "a3e6cec34ce7f5083ba9727ca0b1e6585793dc4e9ac02bb16d7574c1f374d222"), looks := false }, kinds := [], alts := [], laidByText := true, laidKinds := [.data, .pinned], laidTests := true, laidLooks := .later }
def QueryPutsCardSaid : Prop := Claim7.holds Tryz.pinned (.plain (OpenSpec.ofChange queryPutsSpec)) queryPutsCard

/-- THE TIED CARD OF 'catchwordlaw18.QueryMeans'. -/
def queryMeansCard : Claim7 := { stood := { row := queryMeansRow, standIns := [], harness := (true, "a3e6cec34ce7f5083ba9727ca0b1e6585793dc4e9ac02bb16d7574c1f374d222"), looks := false }, kinds := [], alts := [], laidByText := true, laidKinds := [.data, .pinned], laidTests := true, laidLooks := .later }
def QueryMeansCardSaid : Prop := Claim7.holds Tryz.pinned (.plain (OpenSpec.ofChange queryMeansSpec)) queryMeansCard

/-- THE SECOND FORM's CARD OF 'catchwordlaw18.QueryTells'. -/
def queryTellsUptoCard : Claim7 := { stood := { row := queryTellsUptoRow, standIns := [], harness := (true, "a3e6cec34ce7f5083ba9727ca0b1e6585793dc4e9ac02bb16d7574c1f374d222"), looks := false }, kinds := [], alts := [], laidByText := true, laidKinds := [.data, .pinned], laidTests := true, laidLooks := .later }
def QueryTellsUptoCardSaid : Prop := Claim7.holds Tryz.pinned (.plain (OpenSpec.upto queryTellsSpec)) queryTellsUptoCard

/-- THE SECOND FORM's CARD OF 'catchwordlaw18.QueryReads'. -/
def queryReadsUptoCard : Claim7 := { stood := { row := queryReadsUptoRow, standIns := [], harness := (true, "a3e6cec34ce7f5083ba9727ca0b1e6585793dc4e9ac02bb16d7574c1f374d222"), looks := false }, kinds := [], alts := [], laidByText := true, laidKinds := [.data, .pinned], laidTests := true, laidLooks := .later }
def QueryReadsUptoCardSaid : Prop := Claim7.holds Tryz.pinned (.plain (OpenSpec.upto queryReadsSpec)) queryReadsUptoCard

/-- THE SECOND FORM's CARD OF 'catchwordlaw18.QueryJoins'. -/
def queryJoinsUptoCard : Claim7 := { stood := { row := queryJoinsUptoRow, standIns := [], harness := (true, "a3e6cec34ce7f5083ba9727ca0b1e6585793dc4e9ac02bb16d7574c1f374d222"), looks := false }, kinds := [], alts := [], laidByText := true, laidKinds := [.data, .pinned], laidTests := true, laidLooks := .later }
def QueryJoinsUptoCardSaid : Prop := Claim7.holds Tryz.pinned (.plain (OpenSpec.upto queryJoinsSpec)) queryJoinsUptoCard

/-- THE SECOND FORM's CARD OF 'catchwordlaw18.QueryWeighs'. -/
def queryWeighsUptoCard : Claim7 := { stood := { row := queryWeighsUptoRow, standIns := [], harness := (true, "a3e6cec34ce7f5083ba9727ca0b1e6585793dc4e9ac02bb16d7574c1f374d222"), looks := false }, kinds := [], alts := [], laidByText := true, laidKinds := [.data, .pinned], laidTests := true, laidLooks := .later }
def QueryWeighsUptoCardSaid : Prop := Claim7.holds Tryz.pinned (.plain (OpenSpec.upto queryWeighsSpec)) queryWeighsUptoCard

/-- THE SECOND FORM's CARD OF 'catchwordlaw18.QueryPuts'. -/
def queryPutsUptoCard : Claim7 := { stood := { row := queryPutsUptoRow, standIns := [], harness := (true, "a3e6cec34ce7f5083ba9727ca0b1e6585793dc4e9ac02bb16d7574c1f374d222"), looks := false }, kinds := [], alts := [], laidByText := true, laidKinds := [.data, .pinned], laidTests := true, laidLooks := .later }
def QueryPutsUptoCardSaid : Prop := Claim7.holds Tryz.pinned (.plain (OpenSpec.upto queryPutsSpec)) queryPutsUptoCard

/-- THE SECOND FORM's CARD OF 'catchwordlaw18.QueryMeans'. -/
def queryMeansUptoCard : Claim7 := { stood := { row := queryMeansUptoRow, standIns := [], harness := (true, "a3e6cec34ce7f5083ba9727ca0b1e6585793dc4e9ac02bb16d7574c1f374d222"), looks := false }, kinds := [], alts := [], laidByText := true, laidKinds := [.data, .pinned], laidTests := true, laidLooks := .later }
def QueryMeansUptoCardSaid : Prop := Claim7.holds Tryz.pinned (.plain (OpenSpec.upto queryMeansSpec)) queryMeansUptoCard
end Rows
end Go.Proofs.YtbbmdakdghefnaaGreatDoor

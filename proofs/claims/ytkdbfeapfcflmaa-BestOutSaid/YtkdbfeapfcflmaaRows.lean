/-
  No cell of these rows narrows 'for every input' (looked for: loops, veiled, ifaces, maps, wideKeys, modest, calm, conditions, laid).
  DERIVED. THE GIVEN ROWS OF THIS SEAT. 6 by the template 'for every input the law returns true; each argument reads behind the call as it read before'; 0 by the template 'total and deterministic' (their statements: YtkdbfeapfcflmaaTotals.lean).
  GIVEN WITH THE SEED: the statements are not yours to turn. If you find one false, say at which input.
  Laid BY PROGRAM, IN A SANDBOX (cutbox-rows.mjs): the forced cells as the released guide's own fill.sh prints them over the translation c053c1e4ead6ea3c… (all of the seat's roots in one cut). By AI agents, Wed Nov 11 2026. No macro, syntax, notation, axiom, sorry.
-/
import Derived.Test.YtkdbfeapfcflmaaChecked
import GoSem.Claim
import GoSem.ClaimJoined
import GoSem.ClaimMapViews
import Derived.JoinedTies
import Derived.KernelRfl
namespace Go.Proofs.Ytkdbfeapfcflmaa
/- THE CELL 'sum', in the pinned program and in every row, IS THE sha256 OF THE DUMP (.gsa) THAT YtkdbfeapfcflmaaProg.lean LOADS. Nothing in Lean hashes anything: it is a label: what it is worth is what the hold of that sum in a sandbox is worth. -/
noncomputable def Try.pinned : Pinned := { name := "ytkdbfeapfcflmaa", sum := "c053c1e4ead6ea3c4e04743f55bca06ba5776057891b477c7d2dc6107de0302e", checked := Try.checked }
namespace Rows
def none {H : Type} : Left H := { results := [], args := [] }

/-- 'catchwordlaw20.BestMay': WHATEVER THE INPUT: true; the input reads as it did. -/
def bestMaySpec : ChangeSpec := { name := "bestMay", fn := fun _ => fun
  | [d1, d2, d3] => { results := [.lit (.bool true)], args := [d1, d2, d3] }
  | _ => none }
def bestMayRow : OpenClaim := { program := "ytkdbfeapfcflmaa", sum := "c053c1e4ead6ea3c4e04743f55bca06ba5776057891b477c7d2dc6107de0302e", func := "catchword/catchwordlaw20.BestMay", spec := "bestMay", unfollowed := true, recurses := true, apart := false }
def BestMaySaid : Prop := bestMayRow.holds Try.pinned (OpenSpec.ofChange bestMaySpec)

/-- ITS FALSE NEIGHBOUR: 'it returns false'. Refute it at one input. -/
def bestMayWrong : ChangeSpec := { name := "bestMay", fn := fun _ => fun
  | [d1, d2, d3] => { results := [.lit (.bool false)], args := [d1, d2, d3] }
  | _ => none }
def BestMayWrongFalsely : Prop := bestMayRow.holds Try.pinned (OpenSpec.ofChange bestMayWrong)

/-- 'catchwordlaw20.BestTells': WHATEVER THE INPUT: true; the input reads as it did. -/
def bestTellsSpec : ChangeSpec := { name := "bestTells", fn := fun _ => fun
  | [d1, d2] => { results := [.lit (.bool true)], args := [d1, d2] }
  | _ => none }
def bestTellsRow : OpenClaim := { program := "ytkdbfeapfcflmaa", sum := "c053c1e4ead6ea3c4e04743f55bca06ba5776057891b477c7d2dc6107de0302e", func := "catchword/catchwordlaw20.BestTells", spec := "bestTells", unfollowed := true, recurses := true, apart := false }
def BestTellsSaid : Prop := bestTellsRow.holds Try.pinned (OpenSpec.ofChange bestTellsSpec)

/-- ITS FALSE NEIGHBOUR: 'it returns false'. Refute it at one input. -/
def bestTellsWrong : ChangeSpec := { name := "bestTells", fn := fun _ => fun
  | [d1, d2] => { results := [.lit (.bool false)], args := [d1, d2] }
  | _ => none }
def BestTellsWrongFalsely : Prop := bestTellsRow.holds Try.pinned (OpenSpec.ofChange bestTellsWrong)

/-- 'catchwordlaw20.BestOrder': WHATEVER THE INPUT: true; the input reads as it did. -/
def bestOrderSpec : ChangeSpec := { name := "bestOrder", fn := fun _ => fun
  | [d1, d2, d3] => { results := [.lit (.bool true)], args := [d1, d2, d3] }
  | _ => none }
def bestOrderRow : OpenClaim := { program := "ytkdbfeapfcflmaa", sum := "c053c1e4ead6ea3c4e04743f55bca06ba5776057891b477c7d2dc6107de0302e", func := "catchword/catchwordlaw20.BestOrder", spec := "bestOrder", unfollowed := true, recurses := true, apart := false }
def BestOrderSaid : Prop := bestOrderRow.holds Try.pinned (OpenSpec.ofChange bestOrderSpec)

/-- ITS FALSE NEIGHBOUR: 'it returns false'. Refute it at one input. -/
def bestOrderWrong : ChangeSpec := { name := "bestOrder", fn := fun _ => fun
  | [d1, d2, d3] => { results := [.lit (.bool false)], args := [d1, d2, d3] }
  | _ => none }
def BestOrderWrongFalsely : Prop := bestOrderRow.holds Try.pinned (OpenSpec.ofChange bestOrderWrong)

/-- 'catchwordlaw20.BestOut': WHATEVER THE INPUT: true; the input reads as it did. -/
def bestOutSpec : ChangeSpec := { name := "bestOut", fn := fun _ => fun
  | [d1, d2, d3] => { results := [.lit (.bool true)], args := [d1, d2, d3] }
  | _ => none }
def bestOutRow : OpenClaim := { program := "ytkdbfeapfcflmaa", sum := "c053c1e4ead6ea3c4e04743f55bca06ba5776057891b477c7d2dc6107de0302e", func := "catchword/catchwordlaw20.BestOut", spec := "bestOut", unfollowed := true, recurses := true, apart := false }
def BestOutSaid : Prop := bestOutRow.holds Try.pinned (OpenSpec.ofChange bestOutSpec)

/-- ITS FALSE NEIGHBOUR: 'it returns false'. Refute it at one input. -/
def bestOutWrong : ChangeSpec := { name := "bestOut", fn := fun _ => fun
  | [d1, d2, d3] => { results := [.lit (.bool false)], args := [d1, d2, d3] }
  | _ => none }
def BestOutWrongFalsely : Prop := bestOutRow.holds Try.pinned (OpenSpec.ofChange bestOutWrong)

/-- 'catchwordlaw20.BestParts': WHATEVER THE INPUT: true; the input reads as it did. -/
def bestPartsSpec : ChangeSpec := { name := "bestParts", fn := fun _ => fun
  | [d1, d2, d3, d4] => { results := [.lit (.bool true)], args := [d1, d2, d3, d4] }
  | _ => none }
def bestPartsRow : OpenClaim := { program := "ytkdbfeapfcflmaa", sum := "c053c1e4ead6ea3c4e04743f55bca06ba5776057891b477c7d2dc6107de0302e", func := "catchword/catchwordlaw20.BestParts", spec := "bestParts", unfollowed := true, recurses := true, apart := false }
def BestPartsSaid : Prop := bestPartsRow.holds Try.pinned (OpenSpec.ofChange bestPartsSpec)

/-- ITS FALSE NEIGHBOUR: 'it returns false'. Refute it at one input. -/
def bestPartsWrong : ChangeSpec := { name := "bestParts", fn := fun _ => fun
  | [d1, d2, d3, d4] => { results := [.lit (.bool false)], args := [d1, d2, d3, d4] }
  | _ => none }
def BestPartsWrongFalsely : Prop := bestPartsRow.holds Try.pinned (OpenSpec.ofChange bestPartsWrong)

/-- 'catchwordlaw20.BestTurned': WHATEVER THE INPUT: true; the input reads as it did. -/
def bestTurnedSpec : ChangeSpec := { name := "bestTurned", fn := fun _ => fun
  | [d1, d2, d3] => { results := [.lit (.bool true)], args := [d1, d2, d3] }
  | _ => none }
def bestTurnedRow : OpenClaim := { program := "ytkdbfeapfcflmaa", sum := "c053c1e4ead6ea3c4e04743f55bca06ba5776057891b477c7d2dc6107de0302e", func := "catchword/catchwordlaw20.BestTurned", spec := "bestTurned", unfollowed := true, recurses := true, apart := false }
def BestTurnedSaid : Prop := bestTurnedRow.holds Try.pinned (OpenSpec.ofChange bestTurnedSpec)

/-- ITS FALSE NEIGHBOUR: 'it returns false'. Refute it at one input. -/
def bestTurnedWrong : ChangeSpec := { name := "bestTurned", fn := fun _ => fun
  | [d1, d2, d3] => { results := [.lit (.bool false)], args := [d1, d2, d3] }
  | _ => none }
def BestTurnedWrongFalsely : Prop := bestTurnedRow.holds Try.pinned (OpenSpec.ofChange bestTurnedWrong)

/- THE SECOND FORM. 'bulk': how many values and letters a reading holds, each counted each time it is reached (what is shared counts as often as it is met; a slice's spare places count too). A statement '..UptoSaid' is the law's where the arguments, and the package variables that the reading takes, are together of bulk at most 1048576: NARROWER than '..Said'. Prove '..Said' where nothing that the law and all that it calls make is longer than what came in: it says more and counts as full. Else prove '..UptoSaid'. A law counts once. -/
mutual
def uptoBulk {H : Type} : DataW H → Nat
  | .lit (.string bytes) => bytes.length + 1
  | .lit _ => 1
  | .nil => 1
  | .ptr d => uptoBulk d + 1
  | .slice elems spare => uptoBulkAll elems + uptoBulkAll spare + 1
  | .agg parts => uptoBulkAll parts + 1
  | .iface _ d => uptoBulk d + 1
  | .map entries => uptoBulkEntries entries + 1
  | .held _ => 1
def uptoBulkAll {H : Type} : List (DataW H) → Nat
  | [] => 0
  | d :: r => uptoBulk d + uptoBulkAll r
def uptoBulkEntries {H : Type} : List (Lit × DataW H) → Nat
  | [] => 0
  | x :: r => uptoBulkEntry x + uptoBulkEntries r
def uptoBulkEntry {H : Type} : Lit × DataW H → Nat
  | (.string bytes, d) => bytes.length + uptoBulk d + 1
  | (_, d) => uptoBulk d + 1
 end
def uptoSmall : (H : Type) → List (DataW H) → Bool := fun _ ds => decide (uptoBulkAll ds ≤ 1048576)
def OpenSpec.upto (s : _root_.Go.ChangeSpec) : _root_.Go.OpenSpec := { _root_.Go.OpenSpec.ofChange s with cond := some uptoSmall }

/-- 'catchwordlaw20.BestMay', WHERE WHAT IT READS IS OF BULK AT MOST 1048576: true; the input reads as it did. -/
def bestMayUptoRow : OpenClaim := { program := "ytkdbfeapfcflmaa", sum := "c053c1e4ead6ea3c4e04743f55bca06ba5776057891b477c7d2dc6107de0302e", func := "catchword/catchwordlaw20.BestMay", spec := "bestMay", unfollowed := true, recurses := true, apart := false, narrowed := true }
def BestMayUptoSaid : Prop := bestMayUptoRow.holds Try.pinned (OpenSpec.upto bestMaySpec)

/-- 'catchwordlaw20.BestTells', WHERE WHAT IT READS IS OF BULK AT MOST 1048576: true; the input reads as it did. -/
def bestTellsUptoRow : OpenClaim := { program := "ytkdbfeapfcflmaa", sum := "c053c1e4ead6ea3c4e04743f55bca06ba5776057891b477c7d2dc6107de0302e", func := "catchword/catchwordlaw20.BestTells", spec := "bestTells", unfollowed := true, recurses := true, apart := false, narrowed := true }
def BestTellsUptoSaid : Prop := bestTellsUptoRow.holds Try.pinned (OpenSpec.upto bestTellsSpec)

/-- 'catchwordlaw20.BestOrder', WHERE WHAT IT READS IS OF BULK AT MOST 1048576: true; the input reads as it did. -/
def bestOrderUptoRow : OpenClaim := { program := "ytkdbfeapfcflmaa", sum := "c053c1e4ead6ea3c4e04743f55bca06ba5776057891b477c7d2dc6107de0302e", func := "catchword/catchwordlaw20.BestOrder", spec := "bestOrder", unfollowed := true, recurses := true, apart := false, narrowed := true }
def BestOrderUptoSaid : Prop := bestOrderUptoRow.holds Try.pinned (OpenSpec.upto bestOrderSpec)

/-- 'catchwordlaw20.BestOut', WHERE WHAT IT READS IS OF BULK AT MOST 1048576: true; the input reads as it did. -/
def bestOutUptoRow : OpenClaim := { program := "ytkdbfeapfcflmaa", sum := "c053c1e4ead6ea3c4e04743f55bca06ba5776057891b477c7d2dc6107de0302e", func := "catchword/catchwordlaw20.BestOut", spec := "bestOut", unfollowed := true, recurses := true, apart := false, narrowed := true }
def BestOutUptoSaid : Prop := bestOutUptoRow.holds Try.pinned (OpenSpec.upto bestOutSpec)

/-- 'catchwordlaw20.BestParts', WHERE WHAT IT READS IS OF BULK AT MOST 1048576: true; the input reads as it did. -/
def bestPartsUptoRow : OpenClaim := { program := "ytkdbfeapfcflmaa", sum := "c053c1e4ead6ea3c4e04743f55bca06ba5776057891b477c7d2dc6107de0302e", func := "catchword/catchwordlaw20.BestParts", spec := "bestParts", unfollowed := true, recurses := true, apart := false, narrowed := true }
def BestPartsUptoSaid : Prop := bestPartsUptoRow.holds Try.pinned (OpenSpec.upto bestPartsSpec)

/-- 'catchwordlaw20.BestTurned', WHERE WHAT IT READS IS OF BULK AT MOST 1048576: true; the input reads as it did. -/
def bestTurnedUptoRow : OpenClaim := { program := "ytkdbfeapfcflmaa", sum := "c053c1e4ead6ea3c4e04743f55bca06ba5776057891b477c7d2dc6107de0302e", func := "catchword/catchwordlaw20.BestTurned", spec := "bestTurned", unfollowed := true, recurses := true, apart := false, narrowed := true }
def BestTurnedUptoSaid : Prop := bestTurnedUptoRow.holds Try.pinned (OpenSpec.upto bestTurnedSpec)

end Rows
end Go.Proofs.Ytkdbfeapfcflmaa

/-
  No cell of these rows narrows 'for every input' (looked for: loops, veiled, ifaces, maps, wideKeys, modest, calm, conditions, laid).
  DERIVED. THE GIVEN ROWS OF THIS SEAT. 7 by the template 'for every input the law returns true; each argument reads behind the call as it read before'; 0 by the template 'total and deterministic' (their statements: YtldojbonaecngaaTotals.lean).
  GIVEN WITH THE SEED: the statements are not yours to turn. If you find one false, say at which input.
  Laid BY PROGRAM, IN A SANDBOX (cutbox-rows.mjs): the forced cells as the released guide's own fill.sh prints them over the translation e8c9b849f3f71ef4… (all of the seat's roots in one cut). By AI agents, Wed Nov 11 2026. No macro, syntax, notation, axiom, sorry.
-/
import Derived.Test.YtldojbonaecngaaChecked
import GoSem.Claim
import GoSem.ClaimJoined
import GoSem.ClaimMapViews
import Derived.JoinedTies
import Derived.KernelRfl
namespace Go.Proofs.Ytldojbonaecngaa
/- THE CELL 'sum', in the pinned program and in every row, IS THE sha256 OF THE DUMP (.gsa) THAT YtldojbonaecngaaProg.lean LOADS. Nothing in Lean hashes anything: it is a label: what it is worth is what the hold of that sum in a sandbox is worth. -/
noncomputable def Try.pinned : Pinned := { name := "ytldojbonaecngaa", sum := "e8c9b849f3f71ef4492addd6e83487b8590dd3c26497df49f2711f2951c623dd", checked := Try.checked }
namespace Rows
def none {H : Type} : Left H := { results := [], args := [] }

/-- 'catchwordlaw10.RemapTells': WHATEVER THE INPUT: true; the input reads as it did. -/
def remapTellsSpec : ChangeSpec := { name := "remapTells", fn := fun _ => fun
  | [d1, d2, d3, d4] => { results := [.lit (.bool true)], args := [d1, d2, d3, d4] }
  | _ => none }
def remapTellsRow : OpenClaim := { program := "ytldojbonaecngaa", sum := "e8c9b849f3f71ef4492addd6e83487b8590dd3c26497df49f2711f2951c623dd", func := "catchword/catchwordlaw10.RemapTells", spec := "remapTells", inPlace := ["internal/bytealg.abigen_runtime_cmpstring"], unfollowed := true, recurses := true, apart := false }
def RemapTellsSaid : Prop := remapTellsRow.holds Try.pinned (OpenSpec.ofChange remapTellsSpec)

/-- ITS FALSE NEIGHBOUR: 'it returns false'. Refute it at one input. -/
def remapTellsWrong : ChangeSpec := { name := "remapTells", fn := fun _ => fun
  | [d1, d2, d3, d4] => { results := [.lit (.bool false)], args := [d1, d2, d3, d4] }
  | _ => none }
def RemapTellsWrongFalsely : Prop := remapTellsRow.holds Try.pinned (OpenSpec.ofChange remapTellsWrong)

/-- 'catchwordlaw10.RemapOrders': WHATEVER THE INPUT: true; the input reads as it did. -/
def remapOrdersSpec : ChangeSpec := { name := "remapOrders", fn := fun _ => fun
  | [d1, d2, d3] => { results := [.lit (.bool true)], args := [d1, d2, d3] }
  | _ => none }
def remapOrdersRow : OpenClaim := { program := "ytldojbonaecngaa", sum := "e8c9b849f3f71ef4492addd6e83487b8590dd3c26497df49f2711f2951c623dd", func := "catchword/catchwordlaw10.RemapOrders", spec := "remapOrders", inPlace := ["internal/bytealg.abigen_runtime_cmpstring"], unfollowed := true, recurses := true, apart := false }
def RemapOrdersSaid : Prop := remapOrdersRow.holds Try.pinned (OpenSpec.ofChange remapOrdersSpec)

/-- ITS FALSE NEIGHBOUR: 'it returns false'. Refute it at one input. -/
def remapOrdersWrong : ChangeSpec := { name := "remapOrders", fn := fun _ => fun
  | [d1, d2, d3] => { results := [.lit (.bool false)], args := [d1, d2, d3] }
  | _ => none }
def RemapOrdersWrongFalsely : Prop := remapOrdersRow.holds Try.pinned (OpenSpec.ofChange remapOrdersWrong)

/-- 'catchwordlaw10.RemapCarries': WHATEVER THE INPUT: true; the input reads as it did. -/
def remapCarriesSpec : ChangeSpec := { name := "remapCarries", fn := fun _ => fun
  | [d1, d2, d3, d4] => { results := [.lit (.bool true)], args := [d1, d2, d3, d4] }
  | _ => none }
def remapCarriesRow : OpenClaim := { program := "ytldojbonaecngaa", sum := "e8c9b849f3f71ef4492addd6e83487b8590dd3c26497df49f2711f2951c623dd", func := "catchword/catchwordlaw10.RemapCarries", spec := "remapCarries", inPlace := ["internal/bytealg.abigen_runtime_cmpstring"], unfollowed := true, recurses := true, apart := false }
def RemapCarriesSaid : Prop := remapCarriesRow.holds Try.pinned (OpenSpec.ofChange remapCarriesSpec)

/-- ITS FALSE NEIGHBOUR: 'it returns false'. Refute it at one input. -/
def remapCarriesWrong : ChangeSpec := { name := "remapCarries", fn := fun _ => fun
  | [d1, d2, d3, d4] => { results := [.lit (.bool false)], args := [d1, d2, d3, d4] }
  | _ => none }
def RemapCarriesWrongFalsely : Prop := remapCarriesRow.holds Try.pinned (OpenSpec.ofChange remapCarriesWrong)

/-- 'catchwordlaw10.RemapTable': WHATEVER THE INPUT: true; the input reads as it did. -/
def remapTableSpec : ChangeSpec := { name := "remapTable", fn := fun _ => fun
  | [d1, d2] => { results := [.lit (.bool true)], args := [d1, d2] }
  | _ => none }
def remapTableRow : OpenClaim := { program := "ytldojbonaecngaa", sum := "e8c9b849f3f71ef4492addd6e83487b8590dd3c26497df49f2711f2951c623dd", func := "catchword/catchwordlaw10.RemapTable", spec := "remapTable", inPlace := ["internal/bytealg.abigen_runtime_cmpstring"], unfollowed := true, recurses := true, apart := false }
def RemapTableSaid : Prop := remapTableRow.holds Try.pinned (OpenSpec.ofChange remapTableSpec)

/-- ITS FALSE NEIGHBOUR: 'it returns false'. Refute it at one input. -/
def remapTableWrong : ChangeSpec := { name := "remapTable", fn := fun _ => fun
  | [d1, d2] => { results := [.lit (.bool false)], args := [d1, d2] }
  | _ => none }
def RemapTableWrongFalsely : Prop := remapTableRow.holds Try.pinned (OpenSpec.ofChange remapTableWrong)

/-- 'catchwordlaw10.RemapTurns': WHATEVER THE INPUT: true; the input reads as it did. -/
def remapTurnsSpec : ChangeSpec := { name := "remapTurns", fn := fun _ => fun
  | [d] => { results := [.lit (.bool true)], args := [d] }
  | _ => none }
def remapTurnsRow : OpenClaim := { program := "ytldojbonaecngaa", sum := "e8c9b849f3f71ef4492addd6e83487b8590dd3c26497df49f2711f2951c623dd", func := "catchword/catchwordlaw10.RemapTurns", spec := "remapTurns", inPlace := ["internal/bytealg.abigen_runtime_cmpstring"], unfollowed := true, recurses := true, apart := false }
def RemapTurnsSaid : Prop := remapTurnsRow.holds Try.pinned (OpenSpec.ofChange remapTurnsSpec)

/-- ITS FALSE NEIGHBOUR: 'it returns false'. Refute it at one input. -/
def remapTurnsWrong : ChangeSpec := { name := "remapTurns", fn := fun _ => fun
  | [d] => { results := [.lit (.bool false)], args := [d] }
  | _ => none }
def RemapTurnsWrongFalsely : Prop := remapTurnsRow.holds Try.pinned (OpenSpec.ofChange remapTurnsWrong)

/-- 'catchwordlaw10.RemapSorts': WHATEVER THE INPUT: true; the input reads as it did. -/
def remapSortsSpec : ChangeSpec := { name := "remapSorts", fn := fun _ => fun
  | [d1, d2] => { results := [.lit (.bool true)], args := [d1, d2] }
  | _ => none }
def remapSortsRow : OpenClaim := { program := "ytldojbonaecngaa", sum := "e8c9b849f3f71ef4492addd6e83487b8590dd3c26497df49f2711f2951c623dd", func := "catchword/catchwordlaw10.RemapSorts", spec := "remapSorts", inPlace := ["internal/bytealg.abigen_runtime_cmpstring"], unfollowed := true, recurses := true, apart := false }
def RemapSortsSaid : Prop := remapSortsRow.holds Try.pinned (OpenSpec.ofChange remapSortsSpec)

/-- ITS FALSE NEIGHBOUR: 'it returns false'. Refute it at one input. -/
def remapSortsWrong : ChangeSpec := { name := "remapSorts", fn := fun _ => fun
  | [d1, d2] => { results := [.lit (.bool false)], args := [d1, d2] }
  | _ => none }
def RemapSortsWrongFalsely : Prop := remapSortsRow.holds Try.pinned (OpenSpec.ofChange remapSortsWrong)

/-- 'catchwordlaw10.RemapDies': WHATEVER THE INPUT: true; the input reads as it did. -/
def remapDiesSpec : ChangeSpec := { name := "remapDies", fn := fun _ => fun
  | [d1, d2, d3, d4, d5] => { results := [.lit (.bool true)], args := [d1, d2, d3, d4, d5] }
  | _ => none }
def remapDiesRow : OpenClaim := { program := "ytldojbonaecngaa", sum := "e8c9b849f3f71ef4492addd6e83487b8590dd3c26497df49f2711f2951c623dd", func := "catchword/catchwordlaw10.RemapDies", spec := "remapDies", inPlace := ["internal/bytealg.abigen_runtime_cmpstring"], unfollowed := true, recurses := true, apart := false }
def RemapDiesSaid : Prop := remapDiesRow.holds Try.pinned (OpenSpec.ofChange remapDiesSpec)

/-- ITS FALSE NEIGHBOUR: 'it returns false'. Refute it at one input. -/
def remapDiesWrong : ChangeSpec := { name := "remapDies", fn := fun _ => fun
  | [d1, d2, d3, d4, d5] => { results := [.lit (.bool false)], args := [d1, d2, d3, d4, d5] }
  | _ => none }
def RemapDiesWrongFalsely : Prop := remapDiesRow.holds Try.pinned (OpenSpec.ofChange remapDiesWrong)

/- THE SECOND FORM. 'bulk': how many values and letters a reading holds, each counted each time it is reached (what is shared counts as often as it is met; a slice's spare places count too). A statement '..UptoSaid' is the law's where the arguments, and the package variables that the reading takes, are together of bulk at most 1048576: NARROWER than '..Said'. Prove '..Said' where nothing that the law and all that it calls make is longer than what came in: it says more and counts as full. Else prove '..UptoSaid'. A law counts once. -/
mutual
def uptoBulk {H : Type} : DataW H → Nat
  | .lit (.string bytes) => bytes.length + 1
  | .lit _ => 1
  | .nil => 1
  | .ptr d => uptoBulk d + 1
  | .slice elems spare => uptoBulkAll elems + uptoBulkAll spare + 1
  | .agg parts => uptoBulkAll parts + 1
  | .iface _ d => uptoBulk d + 1
  | .map entries => uptoBulkEntries entries + 1
  | .held _ => 1
def uptoBulkAll {H : Type} : List (DataW H) → Nat
  | [] => 0
  | d :: r => uptoBulk d + uptoBulkAll r
def uptoBulkEntries {H : Type} : List (Lit × DataW H) → Nat
  | [] => 0
  | x :: r => uptoBulkEntry x + uptoBulkEntries r
def uptoBulkEntry {H : Type} : Lit × DataW H → Nat
  | (.string bytes, d) => bytes.length + uptoBulk d + 1
  | (_, d) => uptoBulk d + 1
 end
def uptoSmall : (H : Type) → List (DataW H) → Bool := fun _ ds => decide (uptoBulkAll ds ≤ 1048576)
def OpenSpec.upto (s : _root_.Go.ChangeSpec) : _root_.Go.OpenSpec := { _root_.Go.OpenSpec.ofChange s with cond := some uptoSmall }

/-- 'catchwordlaw10.RemapTells', WHERE WHAT IT READS IS OF BULK AT MOST 1048576: true; the input reads as it did. -/
def remapTellsUptoRow : OpenClaim := { program := "ytldojbonaecngaa", sum := "e8c9b849f3f71ef4492addd6e83487b8590dd3c26497df49f2711f2951c623dd", func := "catchword/catchwordlaw10.RemapTells", spec := "remapTells", inPlace := ["internal/bytealg.abigen_runtime_cmpstring"], unfollowed := true, recurses := true, apart := false, narrowed := true }
def RemapTellsUptoSaid : Prop := remapTellsUptoRow.holds Try.pinned (OpenSpec.upto remapTellsSpec)

/-- 'catchwordlaw10.RemapOrders', WHERE WHAT IT READS IS OF BULK AT MOST 1048576: true; the input reads as it did. -/
def remapOrdersUptoRow : OpenClaim := { program := "ytldojbonaecngaa", sum := "e8c9b849f3f71ef4492addd6e83487b8590dd3c26497df49f2711f2951c623dd", func := "catchword/catchwordlaw10.RemapOrders", spec := "remapOrders", inPlace := ["internal/bytealg.abigen_runtime_cmpstring"], unfollowed := true, recurses := true, apart := false, narrowed := true }
def RemapOrdersUptoSaid : Prop := remapOrdersUptoRow.holds Try.pinned (OpenSpec.upto remapOrdersSpec)

/-- 'catchwordlaw10.RemapCarries', WHERE WHAT IT READS IS OF BULK AT MOST 1048576: true; the input reads as it did. -/
def remapCarriesUptoRow : OpenClaim := { program := "ytldojbonaecngaa", sum := "e8c9b849f3f71ef4492addd6e83487b8590dd3c26497df49f2711f2951c623dd", func := "catchword/catchwordlaw10.RemapCarries", spec := "remapCarries", inPlace := ["internal/bytealg.abigen_runtime_cmpstring"], unfollowed := true, recurses := true, apart := false, narrowed := true }
def RemapCarriesUptoSaid : Prop := remapCarriesUptoRow.holds Try.pinned (OpenSpec.upto remapCarriesSpec)

/-- 'catchwordlaw10.RemapTable', WHERE WHAT IT READS IS OF BULK AT MOST 1048576: true; the input reads as it did. -/
def remapTableUptoRow : OpenClaim := { program := "ytldojbonaecngaa", sum := "e8c9b849f3f71ef4492addd6e83487b8590dd3c26497df49f2711f2951c623dd", func := "catchword/catchwordlaw10.RemapTable", spec := "remapTable", inPlace := ["internal/bytealg.abigen_runtime_cmpstring"], unfollowed := true, recurses := true, apart := false, narrowed := true }
def RemapTableUptoSaid : Prop := remapTableUptoRow.holds Try.pinned (OpenSpec.upto remapTableSpec)

/-- 'catchwordlaw10.RemapTurns', WHERE WHAT IT READS IS OF BULK AT MOST 1048576: true; the input reads as it did. -/
def remapTurnsUptoRow : OpenClaim := { program := "ytldojbonaecngaa", sum := "e8c9b849f3f71ef4492addd6e83487b8590dd3c26497df49f2711f2951c623dd", func := "catchword/catchwordlaw10.RemapTurns", spec := "remapTurns", inPlace := ["internal/bytealg.abigen_runtime_cmpstring"], unfollowed := true, recurses := true, apart := false, narrowed := true }
def RemapTurnsUptoSaid : Prop := remapTurnsUptoRow.holds Try.pinned (OpenSpec.upto remapTurnsSpec)

/-- 'catchwordlaw10.RemapSorts', WHERE WHAT IT READS IS OF BULK AT MOST 1048576: true; the input reads as it did. -/
def remapSortsUptoRow : OpenClaim := { program := "ytldojbonaecngaa", sum := "e8c9b849f3f71ef4492addd6e83487b8590dd3c26497df49f2711f2951c623dd", func := "catchword/catchwordlaw10.RemapSorts", spec := "remapSorts", inPlace := ["internal/bytealg.abigen_runtime_cmpstring"], unfollowed := true, recurses := true, apart := false, narrowed := true }
def RemapSortsUptoSaid : Prop := remapSortsUptoRow.holds Try.pinned (OpenSpec.upto remapSortsSpec)

/-- 'catchwordlaw10.RemapDies', WHERE WHAT IT READS IS OF BULK AT MOST 1048576: true; the input reads as it did. -/
def remapDiesUptoRow : OpenClaim := { program := "ytldojbonaecngaa", sum := "e8c9b849f3f71ef4492addd6e83487b8590dd3c26497df49f2711f2951c623dd", func := "catchword/catchwordlaw10.RemapDies", spec := "remapDies", inPlace := ["internal/bytealg.abigen_runtime_cmpstring"], unfollowed := true, recurses := true, apart := false, narrowed := true }
def RemapDiesUptoSaid : Prop := remapDiesUptoRow.holds Try.pinned (OpenSpec.upto remapDiesSpec)

end Rows
end Go.Proofs.Ytldojbonaecngaa

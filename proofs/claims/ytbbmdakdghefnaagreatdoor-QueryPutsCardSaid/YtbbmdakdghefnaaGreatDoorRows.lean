/-
  NARROWER THAN 'FOR EVERY INPUT', by the rows' own cells (each row's printed sentence says how): QueryTells: laid · QueryReads: laid · QueryJoins: laid · QueryWeighs: laid · QueryPuts: laid · QueryMeans: laid.
  DERIVED. THE GIVEN ROWS OF THIS SEAT. 6 by the template 'for every input the law returns true; each argument reads behind the call as it read before'; 0 by the template 'total and deterministic' (their statements: YtbbmdakdghefnaaGreatDoorTotals.lean).
  GIVEN WITH THE SEED: the statements are not yours to turn. If you find one false, say at which input.
  Laid BY PROGRAM, IN A SANDBOX (cutbox-rows.mjs): the forced cells as the released guide's own fill.sh prints them over the translation 9db75ce1560107fb… (all of the seat's roots in one cut). By AI agents, Wed Nov 11 2026. No macro, syntax, notation, axiom, sorry.
-/
import Derived.Test.YtbbmdakdghefnaaGreatDoorChecked
import GoSem.PinnedTables
import GoSem.Claim
import GoSem.ClaimJoined
import GoSem.ClaimMapViews
import Derived.JoinedTies
import Derived.KernelRfl
namespace Go.Proofs.YtbbmdakdghefnaaGreatDoor
/- THE CELL 'sum', in the pinned program and in every row, IS THE sha256 OF THE DUMP (.gsa) THAT YtbbmdakdghefnaaGreatDoorProg.lean LOADS. Nothing in Lean hashes anything: it is a label: what it is worth is what the hold of that sum in a sandbox is worth. -/
noncomputable def Tryz.pinned : Pinned := { name := "ytbbmdakdghefnaagreatdoor", sum := "9db75ce1560107fbbc7079174929834d149eb9990cc4c04a41cba0c1af816140", checked := Tryz.checked }
namespace Rows
def none {H : Type} : Left H := { results := [], args := [] }

/- WHAT THE LISTED PACKAGE-LEVEL VARIABLES READ AS WHEN THE CALL BEGINS. Each datum BY PROGRAM (the guide's laid-datum.mjs) off the statement by which the dump's own 'gosem.cut.vars' lays the variable. In a bare row this is a premise. The card (YtbbmdakdghefnaaGreatDoorCards.lean) ties it to the program's text. -/
def laid_unicode_utf8_acceptRanges {H : Type} : DataW H := .agg [.agg [.lit (.int .u8 128), .lit (.int .u8 191)], .agg [.lit (.int .u8 160), .lit (.int .u8 191)], .agg [.lit (.int .u8 128), .lit (.int .u8 159)], .agg [.lit (.int .u8 144), .lit (.int .u8 191)], .agg [.lit (.int .u8 128), .lit (.int .u8 143)], .agg [.lit (.int .u8 0), .lit (.int .u8 0)], .agg [.lit (.int .u8 0), .lit (.int .u8 0)], .agg [.lit (.int .u8 0), .lit (.int .u8 0)], .agg [.lit (.int .u8 0), .lit (.int .u8 0)], .agg [.lit (.int .u8 0), .lit (.int .u8 0)], .agg [.lit (.int .u8 0), .lit (.int .u8 0)], .agg [.lit (.int .u8 0), .lit (.int .u8 0)], .agg [.lit (.int .u8 0), .lit (.int .u8 0)], .agg [.lit (.int .u8 0), .lit (.int .u8 0)], .agg [.lit (.int .u8 0), .lit (.int .u8 0)], .agg [.lit (.int .u8 0), .lit (.int .u8 0)]]
/-- One of Go's own tables, pinned by name: the form's constant. -/
def laid_unicode_utf8_first : DataW Unit := Go.Pinned.utf8First

/-- 'catchwordlaw18.QueryTells': WHATEVER THE INPUT: true; the input reads as it did. -/
def queryTellsSpec : ChangeSpec := { name := "queryTells", fn := fun _ => fun
  | [d1, d2] => { results := [.lit (.bool true)], args := [d1, d2] }
  | _ => none }
def queryTellsRow : OpenClaim := { program := "ytbbmdakdghefnaagreatdoor", sum := "9db75ce1560107fbbc7079174929834d149eb9990cc4c04a41cba0c1af816140", func := "catchword/catchwordlaw18.QueryTells", spec := "queryTells", inPlace := ["internal/bytealg.CountString", "internal/bytealg.IndexByteString", "internal/bytealg.IndexString", "internal/bytealg.abigen_runtime_cmpstring"], unfollowed := true, recurses := true, named := ["unicode/utf8.first", "unicode/utf8.acceptRanges", "internal/bytealg.MaxLen"], plainKeys := false, apart := false, laid := [("unicode/utf8.acceptRanges", laid_unicode_utf8_acceptRanges), ("unicode/utf8.first", laid_unicode_utf8_first)] }
def QueryTellsSaid : Prop := queryTellsRow.holds Tryz.pinned (OpenSpec.ofChange queryTellsSpec)

/-- ITS FALSE NEIGHBOUR: 'it returns false'. Refute it at one input. -/
def queryTellsWrong : ChangeSpec := { name := "queryTells", fn := fun _ => fun
  | [d1, d2] => { results := [.lit (.bool false)], args := [d1, d2] }
  | _ => none }
def QueryTellsWrongFalsely : Prop := queryTellsRow.holds Tryz.pinned (OpenSpec.ofChange queryTellsWrong)

/-- 'catchwordlaw18.QueryReads': WHATEVER THE INPUT: true; the input reads as it did. -/
def queryReadsSpec : ChangeSpec := { name := "queryReads", fn := fun _ => fun
  | [d] => { results := [.lit (.bool true)], args := [d] }
  | _ => none }
def queryReadsRow : OpenClaim := { program := "ytbbmdakdghefnaagreatdoor", sum := "9db75ce1560107fbbc7079174929834d149eb9990cc4c04a41cba0c1af816140", func := "catchword/catchwordlaw18.QueryReads", spec := "queryReads", inPlace := ["internal/bytealg.CountString", "internal/bytealg.IndexByteString", "internal/bytealg.IndexString", "internal/bytealg.abigen_runtime_cmpstring"], unfollowed := true, recurses := true, named := ["unicode/utf8.first", "unicode/utf8.acceptRanges", "internal/bytealg.MaxLen"], plainKeys := false, apart := false, laid := [("unicode/utf8.acceptRanges", laid_unicode_utf8_acceptRanges), ("unicode/utf8.first", laid_unicode_utf8_first)] }
def QueryReadsSaid : Prop := queryReadsRow.holds Tryz.pinned (OpenSpec.ofChange queryReadsSpec)

/-- ITS FALSE NEIGHBOUR: 'it returns false'. Refute it at one input. -/
def queryReadsWrong : ChangeSpec := { name := "queryReads", fn := fun _ => fun
  | [d] => { results := [.lit (.bool false)], args := [d] }
  | _ => none }
def QueryReadsWrongFalsely : Prop := queryReadsRow.holds Tryz.pinned (OpenSpec.ofChange queryReadsWrong)

/-- 'catchwordlaw18.QueryJoins': WHATEVER THE INPUT: true; the input reads as it did. -/
def queryJoinsSpec : ChangeSpec := { name := "queryJoins", fn := fun _ => fun
  | [d1, d2, d3] => { results := [.lit (.bool true)], args := [d1, d2, d3] }
  | _ => none }
def queryJoinsRow : OpenClaim := { program := "ytbbmdakdghefnaagreatdoor", sum := "9db75ce1560107fbbc7079174929834d149eb9990cc4c04a41cba0c1af816140", func := "catchword/catchwordlaw18.QueryJoins", spec := "queryJoins", inPlace := ["internal/bytealg.CountString", "internal/bytealg.IndexByteString", "internal/bytealg.IndexString", "internal/bytealg.abigen_runtime_cmpstring"], unfollowed := true, recurses := true, named := ["unicode/utf8.first", "unicode/utf8.acceptRanges", "internal/bytealg.MaxLen"], plainKeys := false, apart := false, laid := [("unicode/utf8.acceptRanges", laid_unicode_utf8_acceptRanges), ("unicode/utf8.first", laid_unicode_utf8_first)] }
def QueryJoinsSaid : Prop := queryJoinsRow.holds Tryz.pinned (OpenSpec.ofChange queryJoinsSpec)

/-- ITS FALSE NEIGHBOUR: 'it returns false'. Refute it at one input. -/
def queryJoinsWrong : ChangeSpec := { name := "queryJoins", fn := fun _ => fun
  | [d1, d2, d3] => { results := [.lit (.bool false)], args := [d1, d2, d3] }
  | _ => none }
def QueryJoinsWrongFalsely : Prop := queryJoinsRow.holds Tryz.pinned (OpenSpec.ofChange queryJoinsWrong)

/-- 'catchwordlaw18.QueryWeighs': WHATEVER THE INPUT: true; the input reads as it did. -/
def queryWeighsSpec : ChangeSpec := { name := "queryWeighs", fn := fun _ => fun
  | [d1, d2, d3] => { results := [.lit (.bool true)], args := [d1, d2, d3] }
  | _ => none }
def queryWeighsRow : OpenClaim := { program := "ytbbmdakdghefnaagreatdoor", sum := "9db75ce1560107fbbc7079174929834d149eb9990cc4c04a41cba0c1af816140", func := "catchword/catchwordlaw18.QueryWeighs", spec := "queryWeighs", inPlace := ["internal/bytealg.CountString", "internal/bytealg.IndexByteString", "internal/bytealg.IndexString", "internal/bytealg.abigen_runtime_cmpstring"], unfollowed := true, recurses := true, named := ["unicode/utf8.first", "unicode/utf8.acceptRanges", "internal/bytealg.MaxLen"], plainKeys := false, apart := false, laid := [("unicode/utf8.acceptRanges", laid_unicode_utf8_acceptRanges), ("unicode/utf8.first", laid_unicode_utf8_first)] }
def QueryWeighsSaid : Prop := queryWeighsRow.holds Tryz.pinned (OpenSpec.ofChange queryWeighsSpec)

/-- ITS FALSE NEIGHBOUR: 'it returns false'. Refute it at one input. -/
def queryWeighsWrong : ChangeSpec := { name := "queryWeighs", fn := fun _ => fun
  | [d1, d2, d3] => { results := [.lit (.bool false)], args := [d1, d2, d3] }
  | _ => none }
def QueryWeighsWrongFalsely : Prop := queryWeighsRow.holds Tryz.pinned (OpenSpec.ofChange queryWeighsWrong)

/-- 'catchwordlaw18.QueryPuts': WHATEVER THE INPUT: true; the input reads as it did. -/
def queryPutsSpec : ChangeSpec := { name := "queryPuts", fn := fun _ => fun
  | [d1, d2] => { results := [.lit (.bool true)], args := [d1, d2] }
  | _ => none }
def queryPutsRow : OpenClaim := { program := "ytbbmdakdghefnaagreatdoor", sum := "9db75ce1560107fbbc7079174929834d149eb9990cc4c04a41cba0c1af816140", func := "catchword/catchwordlaw18.QueryPuts", spec := "queryPuts", inPlace := ["internal/bytealg.CountString", "internal/bytealg.IndexByteString", "internal/bytealg.IndexString", "internal/bytealg.abigen_runtime_cmpstring"], unfollowed := true, recurses := true, named := ["unicode/utf8.first", "unicode/utf8.acceptRanges", "internal/bytealg.MaxLen"], plainKeys := false, apart := false, laid := [("unicode/utf8.acceptRanges", laid_unicode_utf8_acceptRanges), ("unicode/utf8.first", laid_unicode_utf8_first)] }
def QueryPutsSaid : Prop := queryPutsRow.holds Tryz.pinned (OpenSpec.ofChange queryPutsSpec)

/-- ITS FALSE NEIGHBOUR: 'it returns false'. Refute it at one input. -/
def queryPutsWrong : ChangeSpec := { name := "queryPuts", fn := fun _ => fun
  | [d1, d2] => { results := [.lit (.bool false)], args := [d1, d2] }
  | _ => none }
def QueryPutsWrongFalsely : Prop := queryPutsRow.holds Tryz.pinned (OpenSpec.ofChange queryPutsWrong)

/-- 'catchwordlaw18.QueryMeans': WHATEVER THE INPUT: true; the input reads as it did. -/
def queryMeansSpec : ChangeSpec := { name := "queryMeans", fn := fun _ => fun
  | [d1, d2, d3, d4] => { results := [.lit (.bool true)], args := [d1, d2, d3, d4] }
  | _ => none }
def queryMeansRow : OpenClaim := { program := "ytbbmdakdghefnaagreatdoor", sum := "9db75ce1560107fbbc7079174929834d149eb9990cc4c04a41cba0c1af816140", func := "catchword/catchwordlaw18.QueryMeans", spec := "queryMeans", inPlace := ["internal/bytealg.CountString", "internal/bytealg.IndexByteString", "internal/bytealg.IndexString", "internal/bytealg.abigen_runtime_cmpstring"], unfollowed := true, recurses := true, named := ["unicode/utf8.first", "unicode/utf8.acceptRanges", "internal/bytealg.MaxLen"], plainKeys := false, apart := false, laid := [("unicode/utf8.acceptRanges", laid_unicode_utf8_acceptRanges), ("unicode/utf8.first", laid_unicode_utf8_first)] }
def QueryMeansSaid : Prop := queryMeansRow.holds Tryz.pinned (OpenSpec.ofChange queryMeansSpec)

/-- ITS FALSE NEIGHBOUR: 'it returns false'. Refute it at one input. -/
def queryMeansWrong : ChangeSpec := { name := "queryMeans", fn := fun _ => fun
  | [d1, d2, d3, d4] => { results := [.lit (.bool false)], args := [d1, d2, d3, d4] }
  | _ => none }
def QueryMeansWrongFalsely : Prop := queryMeansRow.holds Tryz.pinned (OpenSpec.ofChange queryMeansWrong)

/- THE SECOND FORM. 'bulk': how many values and letters a reading holds, each counted each time it is reached (what is shared counts as often as it is met; a slice's spare places count too). A statement '..UptoSaid' is the law's where the arguments, and the package variables that the reading takes, are together of bulk at most 1048576: NARROWER than '..Said'. Prove '..Said' where nothing that the law and all that it calls make is longer than what came in: it says more and counts as full. Else prove '..UptoSaid'. A law counts once. -/
mutual
def uptoBulk {H : Type} : DataW H → Nat
  | .lit (.string bytes) => bytes.length + 1
  | .lit _ => 1
  | .nil => 1
  | .ptr d => uptoBulk d + 1
  | .slice elems spare => uptoBulkAll elems + uptoBulkAll spare + 1
  | .agg parts => uptoBulkAll parts + 1
  | .iface _ d => uptoBulk d + 1
  | .map entries => uptoBulkEntries entries + 1
  | .held _ => 1
def uptoBulkAll {H : Type} : List (DataW H) → Nat
  | [] => 0
  | d :: r => uptoBulk d + uptoBulkAll r
def uptoBulkEntries {H : Type} : List (Lit × DataW H) → Nat
  | [] => 0
  | x :: r => uptoBulkEntry x + uptoBulkEntries r
def uptoBulkEntry {H : Type} : Lit × DataW H → Nat
  | (.string bytes, d) => bytes.length + uptoBulk d + 1
  | (_, d) => uptoBulk d + 1
 end
def uptoSmall : (H : Type) → List (DataW H) → Bool := fun _ ds => decide (uptoBulkAll ds ≤ 1048576)
def OpenSpec.upto (s : _root_.Go.ChangeSpec) : _root_.Go.OpenSpec := { _root_.Go.OpenSpec.ofChange s with cond := some uptoSmall }

/-- 'catchwordlaw18.QueryTells', WHERE WHAT IT READS IS OF BULK AT MOST 1048576: true; the input reads as it did. -/
def queryTellsUptoRow : OpenClaim := { program := "ytbbmdakdghefnaagreatdoor", sum := "9db75ce1560107fbbc7079174929834d149eb9990cc4c04a41cba0c1af816140", func := "catchword/catchwordlaw18.QueryTells", spec := "queryTells", inPlace := ["internal/bytealg.CountString", "internal/bytealg.IndexByteString", "internal/bytealg.IndexString", "internal/bytealg.abigen_runtime_cmpstring"], unfollowed := true, recurses := true, named := ["unicode/utf8.first", "unicode/utf8.acceptRanges", "internal/bytealg.MaxLen"], plainKeys := false, apart := false, laid := [("unicode/utf8.acceptRanges", laid_unicode_utf8_acceptRanges), ("unicode/utf8.first", laid_unicode_utf8_first)], narrowed := true }
def QueryTellsUptoSaid : Prop := queryTellsUptoRow.holds Tryz.pinned (OpenSpec.upto queryTellsSpec)

/-- 'catchwordlaw18.QueryReads', WHERE WHAT IT READS IS OF BULK AT MOST 1048576: true; the input reads as it did. -/
def queryReadsUptoRow : OpenClaim := { program := "ytbbmdakdghefnaagreatdoor", sum := "9db75ce1560107fbbc7079174929834d149eb9990cc4c04a41cba0c1af816140", func := "catchword/catchwordlaw18.QueryReads", spec := "queryReads", inPlace := ["internal/bytealg.CountString", "internal/bytealg.IndexByteString", "internal/bytealg.IndexString", "internal/bytealg.abigen_runtime_cmpstring"], unfollowed := true, recurses := true, named := ["unicode/utf8.first", "unicode/utf8.acceptRanges", "internal/bytealg.MaxLen"], plainKeys := false, apart := false, laid := [("unicode/utf8.acceptRanges", laid_unicode_utf8_acceptRanges), ("unicode/utf8.first", laid_unicode_utf8_first)], narrowed := true }
def QueryReadsUptoSaid : Prop := queryReadsUptoRow.holds Tryz.pinned (OpenSpec.upto queryReadsSpec)

/-- 'catchwordlaw18.QueryJoins', WHERE WHAT IT READS IS OF BULK AT MOST 1048576: true; the input reads as it did. -/
def queryJoinsUptoRow : OpenClaim := { program := "ytbbmdakdghefnaagreatdoor", sum := "9db75ce1560107fbbc7079174929834d149eb9990cc4c04a41cba0c1af816140", func := "catchword/catchwordlaw18.QueryJoins", spec := "queryJoins", inPlace := ["internal/bytealg.CountString", "internal/bytealg.IndexByteString", "internal/bytealg.IndexString", "internal/bytealg.abigen_runtime_cmpstring"], unfollowed := true, recurses := true, named := ["unicode/utf8.first", "unicode/utf8.acceptRanges", "internal/bytealg.MaxLen"], plainKeys := false, apart := false, laid := [("unicode/utf8.acceptRanges", laid_unicode_utf8_acceptRanges), ("unicode/utf8.first", laid_unicode_utf8_first)], narrowed := true }
def QueryJoinsUptoSaid : Prop := queryJoinsUptoRow.holds Tryz.pinned (OpenSpec.upto queryJoinsSpec)

/-- 'catchwordlaw18.QueryWeighs', WHERE WHAT IT READS IS OF BULK AT MOST 1048576: true; the input reads as it did. -/
def queryWeighsUptoRow : OpenClaim := { program := "ytbbmdakdghefnaagreatdoor", sum := "9db75ce1560107fbbc7079174929834d149eb9990cc4c04a41cba0c1af816140", func := "catchword/catchwordlaw18.QueryWeighs", spec := "queryWeighs", inPlace := ["internal/bytealg.CountString", "internal/bytealg.IndexByteString", "internal/bytealg.IndexString", "internal/bytealg.abigen_runtime_cmpstring"], unfollowed := true, recurses := true, named := ["unicode/utf8.first", "unicode/utf8.acceptRanges", "internal/bytealg.MaxLen"], plainKeys := false, apart := false, laid := [("unicode/utf8.acceptRanges", laid_unicode_utf8_acceptRanges), ("unicode/utf8.first", laid_unicode_utf8_first)], narrowed := true }
def QueryWeighsUptoSaid : Prop := queryWeighsUptoRow.holds Tryz.pinned (OpenSpec.upto queryWeighsSpec)

/-- 'catchwordlaw18.QueryPuts', WHERE WHAT IT READS IS OF BULK AT MOST 1048576: true; the input reads as it did. -/
def queryPutsUptoRow : OpenClaim := { program := "ytbbmdakdghefnaagreatdoor", sum := "9db75ce1560107fbbc7079174929834d149eb9990cc4c04a41cba0c1af816140", func := "catchword/catchwordlaw18.QueryPuts", spec := "queryPuts", inPlace := ["internal/bytealg.CountString", "internal/bytealg.IndexByteString", "internal/bytealg.IndexString", "internal/bytealg.abigen_runtime_cmpstring"], unfollowed := true, recurses := true, named := ["unicode/utf8.first", "unicode/utf8.acceptRanges", "internal/bytealg.MaxLen"], plainKeys := false, apart := false, laid := [("unicode/utf8.acceptRanges", laid_unicode_utf8_acceptRanges), ("unicode/utf8.first", laid_unicode_utf8_first)], narrowed := true }
def QueryPutsUptoSaid : Prop := queryPutsUptoRow.holds Tryz.pinned (OpenSpec.upto queryPutsSpec)

/-- 'catchwordlaw18.QueryMeans', WHERE WHAT IT READS IS OF BULK AT MOST 1048576: true; the input reads as it did. -/
def queryMeansUptoRow : OpenClaim := { program := "ytbbmdakdghefnaagreatdoor", sum := "9db75ce1560107fbbc7079174929834d149eb9990cc4c04a41cba0c1af816140", func := "catchword/catchwordlaw18.QueryMeans", spec := "queryMeans", inPlace := ["internal/bytealg.CountString", "internal/bytealg.IndexByteString", "internal/bytealg.IndexString", "internal/bytealg.abigen_runtime_cmpstring"], unfollowed := true, recurses := true, named := ["unicode/utf8.first", "unicode/utf8.acceptRanges", "internal/bytealg.MaxLen"], plainKeys := false, apart := false, laid := [("unicode/utf8.acceptRanges", laid_unicode_utf8_acceptRanges), ("unicode/utf8.first", laid_unicode_utf8_first)], narrowed := true }
def QueryMeansUptoSaid : Prop := queryMeansUptoRow.holds Tryz.pinned (OpenSpec.upto queryMeansSpec)

end Rows
end Go.Proofs.YtbbmdakdghefnaaGreatDoor

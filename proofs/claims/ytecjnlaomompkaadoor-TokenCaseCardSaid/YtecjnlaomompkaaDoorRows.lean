/-
  NARROWER THAN 'FOR EVERY INPUT', by the rows' own cells (each row's printed sentence says how): TokenTells: laid · TokenCards: laid · TokenAgain: laid · TokenJoins: laid · TokenCase: laid · TokenValid: laid · TokenFew: laid.
  DERIVED. THE GIVEN ROWS OF THIS SEAT. 7 by the template 'for every input the law returns true; each argument reads behind the call as it read before'; 0 by the template 'total and deterministic' (their statements: YtecjnlaomompkaaDoorTotals.lean).
  GIVEN WITH THE SEED: the statements are not yours to turn. If you find one false, say at which input.
  Laid BY PROGRAM, IN A SANDBOX (cutbox-rows.mjs): the forced cells as the released guide's own fill.sh prints them over the translation a3d7bf938a6fb734… (all of the seat's roots in one cut). By AI agents, Wed Nov 11 2026. No macro, syntax, notation, axiom, sorry.
-/
import Derived.Test.YtecjnlaomompkaaDoorChecked
import GoSem.PinnedTables
import GoSem.Claim
import GoSem.ClaimJoined
import GoSem.ClaimMapViews
import Derived.JoinedTies
import Derived.KernelRfl
namespace Go.Proofs.YtecjnlaomompkaaDoor
/- THE CELL 'sum', in the pinned program and in every row, IS THE sha256 OF THE DUMP (.gsa) THAT YtecjnlaomompkaaDoorProg.lean LOADS. Nothing in Lean hashes anything: it is a label: what it is worth is what the hold of that sum in a sandbox is worth. -/
noncomputable def Tryd.pinned : Pinned := { name := "ytecjnlaomompkaadoor", sum := "a3d7bf938a6fb7341019d0205e49dab74ae4b0b16fbe19de00e5d2467af83a7c", checked := Tryd.checked }
namespace Rows
def none {H : Type} : Left H := { results := [], args := [] }

/- WHAT THE LISTED PACKAGE-LEVEL VARIABLES READ AS WHEN THE CALL BEGINS. Each datum BY PROGRAM (the guide's laid-datum.mjs) off the statement by which the dump's own 'gosem.cut.vars' lays the variable. In a bare row this is a premise. The card (YtecjnlaomompkaaDoorCards.lean) ties it to the program's text. -/
def laid_unicode_utf8_acceptRanges {H : Type} : DataW H := .agg [.agg [.lit (.int .u8 128), .lit (.int .u8 191)], .agg [.lit (.int .u8 160), .lit (.int .u8 191)], .agg [.lit (.int .u8 128), .lit (.int .u8 159)], .agg [.lit (.int .u8 144), .lit (.int .u8 191)], .agg [.lit (.int .u8 128), .lit (.int .u8 143)], .agg [.lit (.int .u8 0), .lit (.int .u8 0)], .agg [.lit (.int .u8 0), .lit (.int .u8 0)], .agg [.lit (.int .u8 0), .lit (.int .u8 0)], .agg [.lit (.int .u8 0), .lit (.int .u8 0)], .agg [.lit (.int .u8 0), .lit (.int .u8 0)], .agg [.lit (.int .u8 0), .lit (.int .u8 0)], .agg [.lit (.int .u8 0), .lit (.int .u8 0)], .agg [.lit (.int .u8 0), .lit (.int .u8 0)], .agg [.lit (.int .u8 0), .lit (.int .u8 0)], .agg [.lit (.int .u8 0), .lit (.int .u8 0)], .agg [.lit (.int .u8 0), .lit (.int .u8 0)]]
/-- One of Go's own tables, pinned by name: the form's constant. -/
def laid_unicode_utf8_first : DataW Unit := Go.Pinned.utf8First

/-- 'catchwordlaw05.TokenTells': WHATEVER THE INPUT: true; the input reads as it did. -/
def tokenTellsSpec : ChangeSpec := { name := "tokenTells", fn := fun _ => fun
  | [d] => { results := [.lit (.bool true)], args := [d] }
  | _ => none }
def tokenTellsRow : OpenClaim := { program := "ytecjnlaomompkaadoor", sum := "a3d7bf938a6fb7341019d0205e49dab74ae4b0b16fbe19de00e5d2467af83a7c", func := "catchword/catchwordlaw05.TokenTells", spec := "tokenTells", unfollowed := true, recurses := true, named := ["unicode/utf8.first", "unicode/utf8.acceptRanges"], apart := false, laid := [("unicode/utf8.acceptRanges", laid_unicode_utf8_acceptRanges), ("unicode/utf8.first", laid_unicode_utf8_first)] }
def TokenTellsSaid : Prop := tokenTellsRow.holds Tryd.pinned (OpenSpec.ofChange tokenTellsSpec)

/-- ITS FALSE NEIGHBOUR: 'it returns false'. Refute it at one input. -/
def tokenTellsWrong : ChangeSpec := { name := "tokenTells", fn := fun _ => fun
  | [d] => { results := [.lit (.bool false)], args := [d] }
  | _ => none }
def TokenTellsWrongFalsely : Prop := tokenTellsRow.holds Tryd.pinned (OpenSpec.ofChange tokenTellsWrong)

/-- 'catchwordlaw05.TokenCards': WHATEVER THE INPUT: true; the input reads as it did. -/
def tokenCardsSpec : ChangeSpec := { name := "tokenCards", fn := fun _ => fun
  | [d1, d2, d3] => { results := [.lit (.bool true)], args := [d1, d2, d3] }
  | _ => none }
def tokenCardsRow : OpenClaim := { program := "ytecjnlaomompkaadoor", sum := "a3d7bf938a6fb7341019d0205e49dab74ae4b0b16fbe19de00e5d2467af83a7c", func := "catchword/catchwordlaw05.TokenCards", spec := "tokenCards", unfollowed := true, recurses := true, named := ["unicode/utf8.first", "unicode/utf8.acceptRanges"], apart := false, laid := [("unicode/utf8.acceptRanges", laid_unicode_utf8_acceptRanges), ("unicode/utf8.first", laid_unicode_utf8_first)] }
def TokenCardsSaid : Prop := tokenCardsRow.holds Tryd.pinned (OpenSpec.ofChange tokenCardsSpec)

/-- ITS FALSE NEIGHBOUR: 'it returns false'. Refute it at one input. -/
def tokenCardsWrong : ChangeSpec := { name := "tokenCards", fn := fun _ => fun
  | [d1, d2, d3] => { results := [.lit (.bool false)], args := [d1, d2, d3] }
  | _ => none }
def TokenCardsWrongFalsely : Prop := tokenCardsRow.holds Tryd.pinned (OpenSpec.ofChange tokenCardsWrong)

/-- 'catchwordlaw05.TokenAgain': WHATEVER THE INPUT: true; the input reads as it did. -/
def tokenAgainSpec : ChangeSpec := { name := "tokenAgain", fn := fun _ => fun
  | [d] => { results := [.lit (.bool true)], args := [d] }
  | _ => none }
def tokenAgainRow : OpenClaim := { program := "ytecjnlaomompkaadoor", sum := "a3d7bf938a6fb7341019d0205e49dab74ae4b0b16fbe19de00e5d2467af83a7c", func := "catchword/catchwordlaw05.TokenAgain", spec := "tokenAgain", unfollowed := true, recurses := true, named := ["unicode/utf8.first", "unicode/utf8.acceptRanges"], apart := false, laid := [("unicode/utf8.acceptRanges", laid_unicode_utf8_acceptRanges), ("unicode/utf8.first", laid_unicode_utf8_first)] }
def TokenAgainSaid : Prop := tokenAgainRow.holds Tryd.pinned (OpenSpec.ofChange tokenAgainSpec)

/-- ITS FALSE NEIGHBOUR: 'it returns false'. Refute it at one input. -/
def tokenAgainWrong : ChangeSpec := { name := "tokenAgain", fn := fun _ => fun
  | [d] => { results := [.lit (.bool false)], args := [d] }
  | _ => none }
def TokenAgainWrongFalsely : Prop := tokenAgainRow.holds Tryd.pinned (OpenSpec.ofChange tokenAgainWrong)

/-- 'catchwordlaw05.TokenJoins': WHATEVER THE INPUT: true; the input reads as it did. -/
def tokenJoinsSpec : ChangeSpec := { name := "tokenJoins", fn := fun _ => fun
  | [d1, d2] => { results := [.lit (.bool true)], args := [d1, d2] }
  | _ => none }
def tokenJoinsRow : OpenClaim := { program := "ytecjnlaomompkaadoor", sum := "a3d7bf938a6fb7341019d0205e49dab74ae4b0b16fbe19de00e5d2467af83a7c", func := "catchword/catchwordlaw05.TokenJoins", spec := "tokenJoins", unfollowed := true, recurses := true, named := ["unicode/utf8.first", "unicode/utf8.acceptRanges"], apart := false, laid := [("unicode/utf8.acceptRanges", laid_unicode_utf8_acceptRanges), ("unicode/utf8.first", laid_unicode_utf8_first)] }
def TokenJoinsSaid : Prop := tokenJoinsRow.holds Tryd.pinned (OpenSpec.ofChange tokenJoinsSpec)

/-- ITS FALSE NEIGHBOUR: 'it returns false'. Refute it at one input. -/
def tokenJoinsWrong : ChangeSpec := { name := "tokenJoins", fn := fun _ => fun
  | [d1, d2] => { results := [.lit (.bool false)], args := [d1, d2] }
  | _ => none }
def TokenJoinsWrongFalsely : Prop := tokenJoinsRow.holds Tryd.pinned (OpenSpec.ofChange tokenJoinsWrong)

/-- 'catchwordlaw05.TokenCase': WHATEVER THE INPUT: true; the input reads as it did. -/
def tokenCaseSpec : ChangeSpec := { name := "tokenCase", fn := fun _ => fun
  | [d] => { results := [.lit (.bool true)], args := [d] }
  | _ => none }
def tokenCaseRow : OpenClaim := { program := "ytecjnlaomompkaadoor", sum := "a3d7bf938a6fb7341019d0205e49dab74ae4b0b16fbe19de00e5d2467af83a7c", func := "catchword/catchwordlaw05.TokenCase", spec := "tokenCase", unfollowed := true, recurses := true, named := ["unicode/utf8.first", "unicode/utf8.acceptRanges"], apart := false, laid := [("unicode/utf8.acceptRanges", laid_unicode_utf8_acceptRanges), ("unicode/utf8.first", laid_unicode_utf8_first)] }
def TokenCaseSaid : Prop := tokenCaseRow.holds Tryd.pinned (OpenSpec.ofChange tokenCaseSpec)

/-- ITS FALSE NEIGHBOUR: 'it returns false'. Refute it at one input. -/
def tokenCaseWrong : ChangeSpec := { name := "tokenCase", fn := fun _ => fun
  | [d] => { results := [.lit (.bool false)], args := [d] }
  | _ => none }
def TokenCaseWrongFalsely : Prop := tokenCaseRow.holds Tryd.pinned (OpenSpec.ofChange tokenCaseWrong)

/-- 'catchwordlaw05.TokenValid': WHATEVER THE INPUT: true; the input reads as it did. -/
def tokenValidSpec : ChangeSpec := { name := "tokenValid", fn := fun _ => fun
  | [d1, d2, d3] => { results := [.lit (.bool true)], args := [d1, d2, d3] }
  | _ => none }
def tokenValidRow : OpenClaim := { program := "ytecjnlaomompkaadoor", sum := "a3d7bf938a6fb7341019d0205e49dab74ae4b0b16fbe19de00e5d2467af83a7c", func := "catchword/catchwordlaw05.TokenValid", spec := "tokenValid", unfollowed := true, recurses := true, named := ["unicode/utf8.first", "unicode/utf8.acceptRanges"], apart := false, laid := [("unicode/utf8.acceptRanges", laid_unicode_utf8_acceptRanges), ("unicode/utf8.first", laid_unicode_utf8_first)] }
def TokenValidSaid : Prop := tokenValidRow.holds Tryd.pinned (OpenSpec.ofChange tokenValidSpec)

/-- ITS FALSE NEIGHBOUR: 'it returns false'. Refute it at one input. -/
def tokenValidWrong : ChangeSpec := { name := "tokenValid", fn := fun _ => fun
  | [d1, d2, d3] => { results := [.lit (.bool false)], args := [d1, d2, d3] }
  | _ => none }
def TokenValidWrongFalsely : Prop := tokenValidRow.holds Tryd.pinned (OpenSpec.ofChange tokenValidWrong)

/-- 'catchwordlaw05.TokenFew': WHATEVER THE INPUT: true; the input reads as it did. -/
def tokenFewSpec : ChangeSpec := { name := "tokenFew", fn := fun _ => fun
  | [d1, d2, d3] => { results := [.lit (.bool true)], args := [d1, d2, d3] }
  | _ => none }
def tokenFewRow : OpenClaim := { program := "ytecjnlaomompkaadoor", sum := "a3d7bf938a6fb7341019d0205e49dab74ae4b0b16fbe19de00e5d2467af83a7c", func := "catchword/catchwordlaw05.TokenFew", spec := "tokenFew", unfollowed := true, recurses := true, named := ["unicode/utf8.first", "unicode/utf8.acceptRanges"], apart := false, laid := [("unicode/utf8.acceptRanges", laid_unicode_utf8_acceptRanges), ("unicode/utf8.first", laid_unicode_utf8_first)] }
def TokenFewSaid : Prop := tokenFewRow.holds Tryd.pinned (OpenSpec.ofChange tokenFewSpec)

/-- ITS FALSE NEIGHBOUR: 'it returns false'. Refute it at one input. -/
def tokenFewWrong : ChangeSpec := { name := "tokenFew", fn := fun _ => fun
  | [d1, d2, d3] => { results := [.lit (.bool false)], args := [d1, d2, d3] }
  | _ => none }
def TokenFewWrongFalsely : Prop := tokenFewRow.holds Tryd.pinned (OpenSpec.ofChange tokenFewWrong)

/- THE SECOND FORM. 'bulk': how many values and letters a reading holds, each counted each time it is reached (what is shared counts as often as it is met; a slice's spare places count too). A statement '..UptoSaid' is the law's where the arguments, and the package variables that the reading takes, are together of bulk at most 1048576: NARROWER than '..Said'. Prove '..Said' where nothing that the law and all that it calls make is longer than what came in: it says more and counts as full. Else prove '..UptoSaid'. A law counts once. -/
mutual
def uptoBulk {H : Type} : DataW H → Nat
  | .lit (.string bytes) => bytes.length + 1
  | .lit _ => 1
  | .nil => 1
  | .ptr d => uptoBulk d + 1
  | .slice elems spare => uptoBulkAll elems + uptoBulkAll spare + 1
  | .agg parts => uptoBulkAll parts + 1
  | .iface _ d => uptoBulk d + 1
  | .map entries => uptoBulkEntries entries + 1
  | .held _ => 1
def uptoBulkAll {H : Type} : List (DataW H) → Nat
  | [] => 0
  | d :: r => uptoBulk d + uptoBulkAll r
def uptoBulkEntries {H : Type} : List (Lit × DataW H) → Nat
  | [] => 0
  | x :: r => uptoBulkEntry x + uptoBulkEntries r
def uptoBulkEntry {H : Type} : Lit × DataW H → Nat
  | (.string bytes, d) => bytes.length + uptoBulk d + 1
  | (_, d) => uptoBulk d + 1
 end
def uptoSmall : (H : Type) → List (DataW H) → Bool := fun _ ds => decide (uptoBulkAll ds ≤ 1048576)
def OpenSpec.upto (s : _root_.Go.ChangeSpec) : _root_.Go.OpenSpec := { _root_.Go.OpenSpec.ofChange s with cond := some uptoSmall }

/-- 'catchwordlaw05.TokenTells', WHERE WHAT IT READS IS OF BULK AT MOST 1048576: true; the input reads as it did. -/
def tokenTellsUptoRow : OpenClaim := { program := "ytecjnlaomompkaadoor", sum := "a3d7bf938a6fb7341019d0205e49dab74ae4b0b16fbe19de00e5d2467af83a7c", func := "catchword/catchwordlaw05.TokenTells", spec := "tokenTells", unfollowed := true, recurses := true, named := ["unicode/utf8.first", "unicode/utf8.acceptRanges"], apart := false, laid := [("unicode/utf8.acceptRanges", laid_unicode_utf8_acceptRanges), ("unicode/utf8.first", laid_unicode_utf8_first)], narrowed := true }
def TokenTellsUptoSaid : Prop := tokenTellsUptoRow.holds Tryd.pinned (OpenSpec.upto tokenTellsSpec)

/-- 'catchwordlaw05.TokenCards', WHERE WHAT IT READS IS OF BULK AT MOST 1048576: true; the input reads as it did. -/
def tokenCardsUptoRow : OpenClaim := { program := "ytecjnlaomompkaadoor", sum := "a3d7bf938a6fb7341019d0205e49dab74ae4b0b16fbe19de00e5d2467af83a7c", func := "catchword/catchwordlaw05.TokenCards", spec := "tokenCards", unfollowed := true, recurses := true, named := ["unicode/utf8.first", "unicode/utf8.acceptRanges"], apart := false, laid := [("unicode/utf8.acceptRanges", laid_unicode_utf8_acceptRanges), ("unicode/utf8.first", laid_unicode_utf8_first)], narrowed := true }
def TokenCardsUptoSaid : Prop := tokenCardsUptoRow.holds Tryd.pinned (OpenSpec.upto tokenCardsSpec)

/-- 'catchwordlaw05.TokenAgain', WHERE WHAT IT READS IS OF BULK AT MOST 1048576: true; the input reads as it did. -/
def tokenAgainUptoRow : OpenClaim := { program := "ytecjnlaomompkaadoor", sum := "a3d7bf938a6fb7341019d0205e49dab74ae4b0b16fbe19de00e5d2467af83a7c", func := "catchword/catchwordlaw05.TokenAgain", spec := "tokenAgain", unfollowed := true, recurses := true, named := ["unicode/utf8.first", "unicode/utf8.acceptRanges"], apart := false, laid := [("unicode/utf8.acceptRanges", laid_unicode_utf8_acceptRanges), ("unicode/utf8.first", laid_unicode_utf8_first)], narrowed := true }
def TokenAgainUptoSaid : Prop := tokenAgainUptoRow.holds Tryd.pinned (OpenSpec.upto tokenAgainSpec)

/-- 'catchwordlaw05.TokenJoins', WHERE WHAT IT READS IS OF BULK AT MOST 1048576: true; the input reads as it did. -/
def tokenJoinsUptoRow : OpenClaim := { program := "ytecjnlaomompkaadoor", sum := "a3d7bf938a6fb7341019d0205e49dab74ae4b0b16fbe19de00e5d2467af83a7c", func := "catchword/catchwordlaw05.TokenJoins", spec := "tokenJoins", unfollowed := true, recurses := true, named := ["unicode/utf8.first", "unicode/utf8.acceptRanges"], apart := false, laid := [("unicode/utf8.acceptRanges", laid_unicode_utf8_acceptRanges), ("unicode/utf8.first", laid_unicode_utf8_first)], narrowed := true }
def TokenJoinsUptoSaid : Prop := tokenJoinsUptoRow.holds Tryd.pinned (OpenSpec.upto tokenJoinsSpec)

/-- 'catchwordlaw05.TokenCase', WHERE WHAT IT READS IS OF BULK AT MOST 1048576: true; the input reads as it did. -/
def tokenCaseUptoRow : OpenClaim := { program := "ytecjnlaomompkaadoor", sum := "a3d7bf938a6fb7341019d0205e49dab74ae4b0b16fbe19de00e5d2467af83a7c", func := "catchword/catchwordlaw05.TokenCase", spec := "tokenCase", unfollowed := true, recurses := true, named := ["unicode/utf8.first", "unicode/utf8.acceptRanges"], apart := false, laid := [("unicode/utf8.acceptRanges", laid_unicode_utf8_acceptRanges), ("unicode/utf8.first", laid_unicode_utf8_first)], narrowed := true }
def TokenCaseUptoSaid : Prop := tokenCaseUptoRow.holds Tryd.pinned (OpenSpec.upto tokenCaseSpec)

/-- 'catchwordlaw05.TokenValid', WHERE WHAT IT READS IS OF BULK AT MOST 1048576: true; the input reads as it did. -/
def tokenValidUptoRow : OpenClaim := { program := "ytecjnlaomompkaadoor", sum := "a3d7bf938a6fb7341019d0205e49dab74ae4b0b16fbe19de00e5d2467af83a7c", func := "catchword/catchwordlaw05.TokenValid", spec := "tokenValid", unfollowed := true, recurses := true, named := ["unicode/utf8.first", "unicode/utf8.acceptRanges"], apart := false, laid := [("unicode/utf8.acceptRanges", laid_unicode_utf8_acceptRanges), ("unicode/utf8.first", laid_unicode_utf8_first)], narrowed := true }
def TokenValidUptoSaid : Prop := tokenValidUptoRow.holds Tryd.pinned (OpenSpec.upto tokenValidSpec)

/-- 'catchwordlaw05.TokenFew', WHERE WHAT IT READS IS OF BULK AT MOST 1048576: true; the input reads as it did. -/
def tokenFewUptoRow : OpenClaim := { program := "ytecjnlaomompkaadoor", sum := "a3d7bf938a6fb7341019d0205e49dab74ae4b0b16fbe19de00e5d2467af83a7c", func := "catchword/catchwordlaw05.TokenFew", spec := "tokenFew", unfollowed := true, recurses := true, named := ["unicode/utf8.first", "unicode/utf8.acceptRanges"], apart := false, laid := [("unicode/utf8.acceptRanges", laid_unicode_utf8_acceptRanges), ("unicode/utf8.first", laid_unicode_utf8_first)], narrowed := true }
def TokenFewUptoSaid : Prop := tokenFewUptoRow.holds Tryd.pinned (OpenSpec.upto tokenFewSpec)

end Rows
end Go.Proofs.YtecjnlaomompkaaDoor

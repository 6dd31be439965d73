/-
  No cell of these rows narrows 'for every input' (looked for: loops, veiled, ifaces, maps, wideKeys, modest, calm, conditions, laid).
  DERIVED. THE GIVEN ROWS OF THIS SEAT. 7 by the template 'for every input the law returns true; each argument reads behind the call as it read before'; 0 by the template 'total and deterministic' (their statements: YtaldbabkdoabkaaTotals.lean).
  GIVEN WITH THE SEED: the statements are not yours to turn. If you find one false, say at which input.
  Laid BY PROGRAM, IN A SANDBOX (cutbox-rows.mjs): the forced cells as the released guide's own fill.sh prints them over the translation a737b89dfefaa297… (all of the seat's roots in one cut). By AI agents, Wed Nov 11 2026. No macro, syntax, notation, axiom, sorry.
-/
import Derived.Test.YtaldbabkdoabkaaChecked
import GoSem.Claim
import GoSem.ClaimJoined
import GoSem.ClaimMapViews
import Derived.JoinedTies
import Derived.KernelRfl
namespace Go.Proofs.Ytaldbabkdoabkaa
/- THE CELL 'sum', in the pinned program and in every row, IS THE sha256 OF THE DUMP (.gsa) THAT YtaldbabkdoabkaaProg.lean LOADS. Nothing in Lean hashes anything: it is a label: what it is worth is what the hold of that sum in a sandbox is worth. -/
noncomputable def Try.pinned : Pinned := { name := "ytaldbabkdoabkaa", sum := "a737b89dfefaa2972616f48158e5cca6f04d88b292c6df2fe2d8da69a9b7eeff", checked := Try.checked }
namespace Rows
def none {H : Type} : Left H := { results := [], args := [] }

/-- 'catchwordlaw03.DiskTells': WHATEVER THE INPUT: true; the input reads as it did. -/
def diskTellsSpec : ChangeSpec := { name := "diskTells", fn := fun _ => fun
  | [d1, d2, d3, d4] => { results := [.lit (.bool true)], args := [d1, d2, d3, d4] }
  | _ => none }
def diskTellsRow : OpenClaim := { program := "ytaldbabkdoabkaa", sum := "a737b89dfefaa2972616f48158e5cca6f04d88b292c6df2fe2d8da69a9b7eeff", func := "catchword/catchwordlaw03.DiskTells", spec := "diskTells", unfollowed := true, recurses := true, apart := false }
def DiskTellsSaid : Prop := diskTellsRow.holds Try.pinned (OpenSpec.ofChange diskTellsSpec)

/-- ITS FALSE NEIGHBOUR: 'it returns false'. Refute it at one input. -/
def diskTellsWrong : ChangeSpec := { name := "diskTells", fn := fun _ => fun
  | [d1, d2, d3, d4] => { results := [.lit (.bool false)], args := [d1, d2, d3, d4] }
  | _ => none }
def DiskTellsWrongFalsely : Prop := diskTellsRow.holds Try.pinned (OpenSpec.ofChange diskTellsWrong)

/-- 'catchwordlaw03.DiskDoes': WHATEVER THE INPUT: true; the input reads as it did. -/
def diskDoesSpec : ChangeSpec := { name := "diskDoes", fn := fun _ => fun
  | [d1, d2] => { results := [.lit (.bool true)], args := [d1, d2] }
  | _ => none }
def diskDoesRow : OpenClaim := { program := "ytaldbabkdoabkaa", sum := "a737b89dfefaa2972616f48158e5cca6f04d88b292c6df2fe2d8da69a9b7eeff", func := "catchword/catchwordlaw03.DiskDoes", spec := "diskDoes", unfollowed := true, recurses := true, apart := false }
def DiskDoesSaid : Prop := diskDoesRow.holds Try.pinned (OpenSpec.ofChange diskDoesSpec)

/-- ITS FALSE NEIGHBOUR: 'it returns false'. Refute it at one input. -/
def diskDoesWrong : ChangeSpec := { name := "diskDoes", fn := fun _ => fun
  | [d1, d2] => { results := [.lit (.bool false)], args := [d1, d2] }
  | _ => none }
def DiskDoesWrongFalsely : Prop := diskDoesRow.holds Try.pinned (OpenSpec.ofChange diskDoesWrong)

/-- 'catchwordlaw03.DiskCrashes': WHATEVER THE INPUT: true; the input reads as it did. -/
def diskCrashesSpec : ChangeSpec := { name := "diskCrashes", fn := fun _ => fun
  | [d1, d2] => { results := [.lit (.bool true)], args := [d1, d2] }
  | _ => none }
def diskCrashesRow : OpenClaim := { program := "ytaldbabkdoabkaa", sum := "a737b89dfefaa2972616f48158e5cca6f04d88b292c6df2fe2d8da69a9b7eeff", func := "catchword/catchwordlaw03.DiskCrashes", spec := "diskCrashes", unfollowed := true, recurses := true, apart := false }
def DiskCrashesSaid : Prop := diskCrashesRow.holds Try.pinned (OpenSpec.ofChange diskCrashesSpec)

/-- ITS FALSE NEIGHBOUR: 'it returns false'. Refute it at one input. -/
def diskCrashesWrong : ChangeSpec := { name := "diskCrashes", fn := fun _ => fun
  | [d1, d2] => { results := [.lit (.bool false)], args := [d1, d2] }
  | _ => none }
def DiskCrashesWrongFalsely : Prop := diskCrashesRow.holds Try.pinned (OpenSpec.ofChange diskCrashesWrong)

/-- 'catchwordlaw03.DiskKeeps': WHATEVER THE INPUT: true; the input reads as it did. -/
def diskKeepsSpec : ChangeSpec := { name := "diskKeeps", fn := fun _ => fun
  | [d1, d2, d3] => { results := [.lit (.bool true)], args := [d1, d2, d3] }
  | _ => none }
def diskKeepsRow : OpenClaim := { program := "ytaldbabkdoabkaa", sum := "a737b89dfefaa2972616f48158e5cca6f04d88b292c6df2fe2d8da69a9b7eeff", func := "catchword/catchwordlaw03.DiskKeeps", spec := "diskKeeps", unfollowed := true, recurses := true, apart := false }
def DiskKeepsSaid : Prop := diskKeepsRow.holds Try.pinned (OpenSpec.ofChange diskKeepsSpec)

/-- ITS FALSE NEIGHBOUR: 'it returns false'. Refute it at one input. -/
def diskKeepsWrong : ChangeSpec := { name := "diskKeeps", fn := fun _ => fun
  | [d1, d2, d3] => { results := [.lit (.bool false)], args := [d1, d2, d3] }
  | _ => none }
def DiskKeepsWrongFalsely : Prop := diskKeepsRow.holds Try.pinned (OpenSpec.ofChange diskKeepsWrong)

/-- 'catchwordlaw03.DiskSure': WHATEVER THE INPUT: true; the input reads as it did. -/
def diskSureSpec : ChangeSpec := { name := "diskSure", fn := fun _ => fun
  | [d1, d2, d3, d4, d5, d6] => { results := [.lit (.bool true)], args := [d1, d2, d3, d4, d5, d6] }
  | _ => none }
def diskSureRow : OpenClaim := { program := "ytaldbabkdoabkaa", sum := "a737b89dfefaa2972616f48158e5cca6f04d88b292c6df2fe2d8da69a9b7eeff", func := "catchword/catchwordlaw03.DiskSure", spec := "diskSure", unfollowed := true, recurses := true, apart := false }
def DiskSureSaid : Prop := diskSureRow.holds Try.pinned (OpenSpec.ofChange diskSureSpec)

/-- ITS FALSE NEIGHBOUR: 'it returns false'. Refute it at one input. -/
def diskSureWrong : ChangeSpec := { name := "diskSure", fn := fun _ => fun
  | [d1, d2, d3, d4, d5, d6] => { results := [.lit (.bool false)], args := [d1, d2, d3, d4, d5, d6] }
  | _ => none }
def DiskSureWrongFalsely : Prop := diskSureRow.holds Try.pinned (OpenSpec.ofChange diskSureWrong)

/-- 'catchwordlaw03.DiskErrors': WHATEVER THE INPUT: true; the input reads as it did. -/
def diskErrorsSpec : ChangeSpec := { name := "diskErrors", fn := fun _ => fun
  | [d1, d2] => { results := [.lit (.bool true)], args := [d1, d2] }
  | _ => none }
def diskErrorsRow : OpenClaim := { program := "ytaldbabkdoabkaa", sum := "a737b89dfefaa2972616f48158e5cca6f04d88b292c6df2fe2d8da69a9b7eeff", func := "catchword/catchwordlaw03.DiskErrors", spec := "diskErrors", unfollowed := true, recurses := true, apart := false }
def DiskErrorsSaid : Prop := diskErrorsRow.holds Try.pinned (OpenSpec.ofChange diskErrorsSpec)

/-- ITS FALSE NEIGHBOUR: 'it returns false'. Refute it at one input. -/
def diskErrorsWrong : ChangeSpec := { name := "diskErrors", fn := fun _ => fun
  | [d1, d2] => { results := [.lit (.bool false)], args := [d1, d2] }
  | _ => none }
def DiskErrorsWrongFalsely : Prop := diskErrorsRow.holds Try.pinned (OpenSpec.ofChange diskErrorsWrong)

/-- 'catchwordlaw03.DiskTwice': WHATEVER THE INPUT: true; the input reads as it did. -/
def diskTwiceSpec : ChangeSpec := { name := "diskTwice", fn := fun _ => fun
  | [d1, d2, d3] => { results := [.lit (.bool true)], args := [d1, d2, d3] }
  | _ => none }
def diskTwiceRow : OpenClaim := { program := "ytaldbabkdoabkaa", sum := "a737b89dfefaa2972616f48158e5cca6f04d88b292c6df2fe2d8da69a9b7eeff", func := "catchword/catchwordlaw03.DiskTwice", spec := "diskTwice", unfollowed := true, recurses := true, apart := false }
def DiskTwiceSaid : Prop := diskTwiceRow.holds Try.pinned (OpenSpec.ofChange diskTwiceSpec)

/-- ITS FALSE NEIGHBOUR: 'it returns false'. Refute it at one input. -/
def diskTwiceWrong : ChangeSpec := { name := "diskTwice", fn := fun _ => fun
  | [d1, d2, d3] => { results := [.lit (.bool false)], args := [d1, d2, d3] }
  | _ => none }
def DiskTwiceWrongFalsely : Prop := diskTwiceRow.holds Try.pinned (OpenSpec.ofChange diskTwiceWrong)

/- THE SECOND FORM. 'bulk': how many values and letters a reading holds, each counted each time it is reached (what is shared counts as often as it is met; a slice's spare places count too). A statement '..UptoSaid' is the law's where the arguments, and the package variables that the reading takes, are together of bulk at most 1048576: NARROWER than '..Said'. Prove '..Said' where nothing that the law and all that it calls make is longer than what came in: it says more and counts as full. Else prove '..UptoSaid'. A law counts once. -/
mutual
def uptoBulk {H : Type} : DataW H → Nat
  | .lit (.string bytes) => bytes.length + 1
  | .lit _ => 1
  | .nil => 1
  | .ptr d => uptoBulk d + 1
  | .slice elems spare => uptoBulkAll elems + uptoBulkAll spare + 1
  | .agg parts => uptoBulkAll parts + 1
  | .iface _ d => uptoBulk d + 1
  | .map entries => uptoBulkEntries entries + 1
  | .held _ => 1
def uptoBulkAll {H : Type} : List (DataW H) → Nat
  | [] => 0
  | d :: r => uptoBulk d + uptoBulkAll r
def uptoBulkEntries {H : Type} : List (Lit × DataW H) → Nat
  | [] => 0
  | x :: r => uptoBulkEntry x + uptoBulkEntries r
def uptoBulkEntry {H : Type} : Lit × DataW H → Nat
  | (.string bytes, d) => bytes.length + uptoBulk d + 1
  | (_, d) => uptoBulk d + 1
 end
def uptoSmall : (H : Type) → List (DataW H) → Bool := fun _ ds => decide (uptoBulkAll ds ≤ 1048576)
def OpenSpec.upto (s : _root_.Go.ChangeSpec) : _root_.Go.OpenSpec := { _root_.Go.OpenSpec.ofChange s with cond := some uptoSmall }

/-- 'catchwordlaw03.DiskTells', WHERE WHAT IT READS IS OF BULK AT MOST 1048576: true; the input reads as it did. -/
def diskTellsUptoRow : OpenClaim := { program := "ytaldbabkdoabkaa", sum := "a737b89dfefaa2972616f48158e5cca6f04d88b292c6df2fe2d8da69a9b7eeff", func := "catchword/catchwordlaw03.DiskTells", spec := "diskTells", unfollowed := true, recurses := true, apart := false, narrowed := true }
def DiskTellsUptoSaid : Prop := diskTellsUptoRow.holds Try.pinned (OpenSpec.upto diskTellsSpec)

/-- 'catchwordlaw03.DiskDoes', WHERE WHAT IT READS IS OF BULK AT MOST 1048576: true; the input reads as it did. -/
def diskDoesUptoRow : OpenClaim := { program := "ytaldbabkdoabkaa", sum := "a737b89dfefaa2972616f48158e5cca6f04d88b292c6df2fe2d8da69a9b7eeff", func := "catchword/catchwordlaw03.DiskDoes", spec := "diskDoes", unfollowed := true, recurses := true, apart := false, narrowed := true }
def DiskDoesUptoSaid : Prop := diskDoesUptoRow.holds Try.pinned (OpenSpec.upto diskDoesSpec)

/-- 'catchwordlaw03.DiskCrashes', WHERE WHAT IT READS IS OF BULK AT MOST 1048576: true; the input reads as it did. -/
def diskCrashesUptoRow : OpenClaim := { program := "ytaldbabkdoabkaa", sum := "a737b89dfefaa2972616f48158e5cca6f04d88b292c6df2fe2d8da69a9b7eeff", func := "catchword/catchwordlaw03.DiskCrashes", spec := "diskCrashes", unfollowed := true, recurses := true, apart := false, narrowed := true }
def DiskCrashesUptoSaid : Prop := diskCrashesUptoRow.holds Try.pinned (OpenSpec.upto diskCrashesSpec)

/-- 'catchwordlaw03.DiskKeeps', WHERE WHAT IT READS IS OF BULK AT MOST 1048576: true; the input reads as it did. -/
def diskKeepsUptoRow : OpenClaim := { program := "ytaldbabkdoabkaa", sum := "a737b89dfefaa2972616f48158e5cca6f04d88b292c6df2fe2d8da69a9b7eeff", func := "catchword/catchwordlaw03.DiskKeeps", spec := "diskKeeps", unfollowed := true, recurses := true, apart := false, narrowed := true }
def DiskKeepsUptoSaid : Prop := diskKeepsUptoRow.holds Try.pinned (OpenSpec.upto diskKeepsSpec)

/-- 'catchwordlaw03.DiskSure', WHERE WHAT IT READS IS OF BULK AT MOST 1048576: true; the input reads as it did. -/
def diskSureUptoRow : OpenClaim := { program := "ytaldbabkdoabkaa", sum := "a737b89dfefaa2972616f48158e5cca6f04d88b292c6df2fe2d8da69a9b7eeff", func := "catchword/catchwordlaw03.DiskSure", spec := "diskSure", unfollowed := true, recurses := true, apart := false, narrowed := true }
def DiskSureUptoSaid : Prop := diskSureUptoRow.holds Try.pinned (OpenSpec.upto diskSureSpec)

/-- 'catchwordlaw03.DiskErrors', WHERE WHAT IT READS IS OF BULK AT MOST 1048576: true; the input reads as it did. -/
def diskErrorsUptoRow : OpenClaim := { program := "ytaldbabkdoabkaa", sum := "a737b89dfefaa2972616f48158e5cca6f04d88b292c6df2fe2d8da69a9b7eeff", func := "catchword/catchwordlaw03.DiskErrors", spec := "diskErrors", unfollowed := true, recurses := true, apart := false, narrowed := true }
def DiskErrorsUptoSaid : Prop := diskErrorsUptoRow.holds Try.pinned (OpenSpec.upto diskErrorsSpec)

/-- 'catchwordlaw03.DiskTwice', WHERE WHAT IT READS IS OF BULK AT MOST 1048576: true; the input reads as it did. -/
def diskTwiceUptoRow : OpenClaim := { program := "ytaldbabkdoabkaa", sum := "a737b89dfefaa2972616f48158e5cca6f04d88b292c6df2fe2d8da69a9b7eeff", func := "catchword/catchwordlaw03.DiskTwice", spec := "diskTwice", unfollowed := true, recurses := true, apart := false, narrowed := true }
def DiskTwiceUptoSaid : Prop := diskTwiceUptoRow.holds Try.pinned (OpenSpec.upto diskTwiceSpec)

end Rows
end Go.Proofs.Ytaldbabkdoabkaa

import Derived.Test.YtaldbabkdoabkaaProg
import Derived.Test.YtaldbabkdoabkaaQV
import Derived.Test.YtaldbabkdoabkaaQA
import Derived.Test.YtaldbabkdoabkaaQJ
import Derived.Test.YtaldbabkdoabkaaP0
namespace Go.Proofs.Ytaldbabkdoabkaa.T
open Go.RowKit Go.Proofs.YtaldbabkdoabkaaW.PrintWords Go.Proofs.YtaldbabkdoabkaaW.PrintLast Go.Proofs.YtaldbabkdoabkaaW.PrintMore
attribute [local go_sem] max2_int min2_int max_two min_two max_three min_three max_four min_four   -- for this text's walks alone
set_option linter.unusedVariables false
set_option linter.unusedSimpArgs false
/-! ### what Crash tells, in words -/
open Go.Proofs.Ytaldbabkdoabkaa.Plain
theorem qcrash {cap : Int} {A : Option Addr} {c : Nat} {l : List S48} {A1 : Option Addr} {c1 : Nat} {q : List Int} {r : List S48} {w : World} (hC : Kd.C k48 w A l.length l) (hc : l.length ≤ c) (hC1 : Kd.C (Kd.int .i64) w A1 q.length q) (hc1 : q.length ≤ c1) (hs : Sm l) (h : crashQ cap l q = r) :
    Calls Try.prog 27 #[.agg #[.int .i64 cap, .slice A l.length c], .slice A1 q.length c1] w fun en w' => ∃ (A' : Option Addr) (c' : Nat), en = .returned (.agg #[.int .i64 cap, .slice A' r.length c']) ∧ Aside0 (r.length ≤ c') ∧ Aside0 (Kd.C k48 w' A' r.length r) ∧ Below w.heap.size w w' := by
  refine (disk_Crash.calls KS cap A c l A1 c1 q cap r w hC hc hC1 hc1 (by rw [crash_eq cap l q hs KS (Nat.le_refl _), h])).mono ?_
  rintro en w' ⟨v, rfl, hV, hb⟩
  obtain ⟨A', c', rfl⟩ := Kd.V_slice hV
  exact ⟨A', c', rfl, ⟨(Kd.V_reads' hV).2.1⟩, ⟨(Kd.V_reads' hV).2.2⟩, hb⟩
end Go.Proofs.Ytaldbabkdoabkaa.T

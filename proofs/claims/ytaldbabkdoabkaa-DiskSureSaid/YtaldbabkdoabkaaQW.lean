import Derived.Test.YtaldbabkdoabkaaProg
import Derived.Test.YtaldbabkdoabkaaQV
import Derived.Test.YtaldbabkdoabkaaQA
import Derived.Test.YtaldbabkdoabkaaQJ
import Derived.Test.YtaldbabkdoabkaaQN
import Derived.Test.YtaldbabkdoabkaaP0
namespace Go.Proofs.Ytaldbabkdoabkaa.T
open Go.RowKit Go.Proofs.YtaldbabkdoabkaaW.PrintWords Go.Proofs.YtaldbabkdoabkaaW.PrintLast Go.Proofs.YtaldbabkdoabkaaW.PrintMore
attribute [local go_sem] max2_int min2_int max_two min_two max_three min_three max_four min_four   -- for this text's walks alone
set_option linter.unusedVariables false
set_option linter.unusedSimpArgs false
/-! ### what Do, Crash and few tell, in words -/
open Go.Proofs.Ytaldbabkdoabkaa.Plain
theorem qfewo {kind : Int} {a b : ByteArray} {A : Option Addr} {c : Nat} {d : List Int} {r : Bool} {w : World} (hC : Kd.C (Kd.int .u8) w A d.length d) (hc : d.length ≤ c) (h : fewO a b d = r) : Calls Try.prog 24 #[.agg #[.int .i64 kind, .string a, .string b, .slice A d.length c]] w fun e w' => e = .returned (.bool r) ∧ Below w.heap.size w w' :=
  catchwordlaw03_few.calls kind a b A c d r w hC hc (by rw [fewO_eq, h])
theorem qdo {cap : Int} {A : Option Addr} {c : Nat} {l : List S48} {kind : Int} {a b : ByteArray} {A1 : Option Addr} {c1 : Nat} {d : List Int} {r : List S48} {e : Int} {w : World} (hC : Kd.C k48 w A l.length l) (hc : l.length ≤ c) (hC1 : Kd.C (Kd.int .u8) w A1 d.length d) (hc1 : d.length ≤ c1) (hs : Sm l) (ha : a.size ≤ 100) (hb : b.size ≤ 100) (h : doQ cap l kind a b d = (r, e)) :
    Calls Try.prog 25 #[.agg #[.int .i64 cap, .slice A l.length c], .agg #[.int .i64 kind, .string a, .string b, .slice A1 d.length c1]] w fun en w' => ∃ (A' : Option Addr) (c' : Nat), en = .returned (.tuple #[.agg #[.int .i64 cap, .slice A' r.length c'], .int .i64 e]) ∧ Aside0 (r.length ≤ c') ∧ Aside0 (Kd.V k48 48 w' 0 (fun k_ => w.heap.size ≤ k_) (.slice A' r.length c') r) ∧ Below w.heap.size w w' := by
  refine (disk_Do.calls KS cap A c l kind a b A1 c1 d cap r e w hC hc hC1 hc1 (by rw [do_eq cap l kind a b d hs ha hb KS (Nat.le_refl _), h])).mono ?_
  rintro en w' ⟨v, rfl, hV, hb⟩
  obtain ⟨A', c', rfl⟩ := Kd.V_slice hV
  exact ⟨A', c', rfl, ⟨(Kd.V_reads' hV).2.1⟩, ⟨hV⟩, hb⟩
end Go.Proofs.Ytaldbabkdoabkaa.T

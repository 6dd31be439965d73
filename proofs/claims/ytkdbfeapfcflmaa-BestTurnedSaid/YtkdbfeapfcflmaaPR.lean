import Derived.Test.YtkdbfeapfcflmaaPQ
/- The plain law BestTurned. -/
namespace Go.Proofs.Ytkdbfeapfcflmaa.Plain
set_option linter.unusedVariables false
set_option linter.unusedSimpArgs false
open Go.RowKit Go.Proofs.Ytkdbfeapfcflmaa.T Go.Proofs.YtkdbfeapfcflmaaW.PrintWords Go.Proofs.YtkdbfeapfcflmaaW.PrintLast
theorem ofV_perm {lt : S27 → S27 → Bool} (n : Int) {a l : List S27} (o : mayB l = true → Order lt (fun z => z ∈ l)) (hn : mayB l = true → l.Nodup) (hp : a.Perm l) : ofV lt n a (mayB a) = ofV lt n l (mayB l) := by
  rw [may_perm hp]
  cases hm : mayB l with
  | false => unfold ofV; simp
  | true =>
    unfold ofV
    rw [sorted_of_perm (o hm) (fun y hy => hp.subset hy) (hp.nodup_iff.2 (hn hm)) hp]
theorem turned_law (n : Int) {a l : List S27} (hu : ∀ x ∈ l, HitG x) (hp : a.Perm l) : ofV aheadB n a (mayB a) = ofV aheadB n l (mayB l) ∧ ofV soonerB n a (mayB a) = ofV soonerB n l (mayB l) :=
  ⟨ofV_perm n (fun hm => ahead_order (may_good hu hm)) (fun hm => good_nodup (may_good hu hm)) hp,
   ofV_perm n (fun hm => sooner_order (may_good hu hm).2 (fun x y hx hy hne => good_id (may_good hu hm) hx hy hne)) (fun hm => good_nodup (may_good hu hm)) hp⟩
end Go.Proofs.Ytkdbfeapfcflmaa.Plain

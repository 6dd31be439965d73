import Derived.Test.YtkdbfeapfcflmaaPE
/- The plain law BestTells. -/
namespace Go.Proofs.Ytkdbfeapfcflmaa.Plain
set_option linter.unusedVariables false
set_option linter.unusedSimpArgs false
open Go.RowKit Go.Proofs.Ytkdbfeapfcflmaa.T Go.Proofs.YtkdbfeapfcflmaaW.PrintWords Go.Proofs.YtkdbfeapfcflmaaW.PrintLast
def allB (ls : List (List S27)) : Bool := decide (ls.length ≤ 4) && ls.all fewB
theorem all_loop (ls : List (List S27)) (hl : ls.length ≤ 4) : ∀ d i k, i + d = ls.length → 1300 + d < k → catchwordlaw20_all.l0 k ls (i : Int) = some ((ls.drop i).all fewB) := by
  intro d
  induction d with
  | zero =>
    intro i k h hk
    obtain ⟨k, rfl⟩ : ∃ m, k = m + 1 := ⟨k - 1, by omega⟩
    rw [catchwordlaw20_all.l0, if_neg (by omega), List.drop_eq_nil_of_le (by omega)]
    rfl
  | succ d ih =>
    intro i k h hk
    obtain ⟨k, rfl⟩ : ∃ m, k = m + 1 := ⟨k - 1, by omega⟩
    have hi : i < ls.length := by omega
    rw [catchwordlaw20_all.l0, if_pos (by omega), if_pos (by omega), rdL5 _ _ hi, few_eq k _ (by omega), Option.bind_some, w1 i (by omega), List.drop_eq_getElem_cons hi, List.all_cons]
    cases fewB ls[i] with
    | false => simp
    | true => rw [if_pos rfl, Bool.true_and]; exact ih (i + 1) k (by omega) (by omega)
theorem all_eq (k : Nat) (ls : List (List S27)) (hk : 1400 ≤ k) : catchwordlaw20_all.f k ls = some (allB ls) := by
  unfold catchwordlaw20_all.f allB
  by_cases h : (ls.length : Int) > 4
  · rw [if_pos h, decide_eq_false (by omega)]; rfl
  · rw [if_neg h, decide_eq_true (by omega), Bool.true_and]
    exact all_loop ls (by omega) ls.length 0 k (by omega) (by omega)
theorem flat_len (ls : List (List S27)) (h : allB ls = true) : ls.length ≤ 4 ∧ ls.flatten.length ≤ 5000 ∧ ∀ l ∈ ls, fewB l = true := by
  unfold allB at h
  simp only [Bool.and_eq_true, List.all_eq_true, decide_eq_true_eq] at h
  refine ⟨h.1, ?_, h.2⟩
  have key : ∀ ls : List (List S27), (∀ l ∈ ls, fewB l = true) → ls.flatten.length ≤ ls.length * 1110 := by
    intro ls
    induction ls with
    | nil => simp
    | cons l ls ih =>
      intro h
      have h1 := (few_small (h l (by simp))).1
      have h2 := ih (fun x hx => h x (by simp [hx]))
      rw [List.flatten_cons, List.length_append, List.length_cons]
      omega
  have := key ls h.2
  omega
theorem BestTells (n : Int) (ls : List (List S27)) (hl : ∀ l ∈ ls, ∀ x ∈ l, HitG x) : ∃ k, catchwordlaw20_BestTells.f k n ls = some true := by
  obtain ⟨k, hk⟩ := kd_four
  have hkd : KD + 6100 ≤ k := kd_6 hk
  have hkd1 : KD ≤ k := kd_0 hk
  have hkd' : KD ≤ k + 1 := kd_s hkd1
  have k5 : 5001 ≤ k := Nat.le_trans (by decide) (kd_num hkd1)
  refine ⟨k + 1, ?_⟩
  unfold catchwordlaw20_BestTells.f catchwordlaw20_awake.f
  rw [Option.bind_some, all_eq (k + 1) ls (Nat.le_trans (by decide) (kd_num hkd')), Option.bind_some, if_pos rfl, catchwordlaw20_BestTells.j0]
  cases hf : allB ls with
  | false => simp
  | true =>
    obtain ⟨h1, h2, h3⟩ := flat_len ls hf
    have h10 : ls.length ≤ 10 := Nat.le_trans h1 (by decide)
    have hsm : ∀ l ∈ ls, ∀ x ∈ l, Small x := fun l hl' x hx => ⟨hl l hl' x hx, (few_small (h3 l hl')).2 x hx⟩
    have hv : ∀ keys, (if mayB ls.flatten = true ∧ 0 ≤ n ∧ n ≤ 100 then (sorted (ltK keys) ls.flatten).take n.toNat else []) = ofV (ltK keys) n ls.flatten (mayB ls.flatten) := fun _ => rfl
    rw [if_neg (by simp), best_eq n ls hl h2 k (kd_kb hkd1), Option.bind_some, refof_eq n false ls h10 hsm h2 k hkd, Option.bind_some, hv]
    show (catchwordref20_Same.f k (ofV aheadB n ls.flatten (mayB ls.flatten)) (ofV aheadB n ls.flatten (mayB ls.flatten))).bind _ = _
    rw [same_refl _ (Nat.le_trans (ofV_le _ _ _ _) h2) k k5, Option.bind_some, first_eq n ls hl h2 k (kd_kb hkd1), Option.bind_some, refof_eq n true ls h10 hsm h2 k hkd, Option.bind_some, hv]
    show (catchwordref20_Same.f k (ofV soonerB n ls.flatten (mayB ls.flatten)) (ofV soonerB n ls.flatten (mayB ls.flatten))).bind _ = _
    rw [same_refl _ (Nat.le_trans (ofV_le _ _ _ _) h2) k k5, Option.bind_some, if_pos rfl]

end Go.Proofs.Ytkdbfeapfcflmaa.Plain

import Derived.Test.YtkdbfeapfcflmaaPC
import Derived.Test.YtkdbfeapfcflmaaTx3
import Derived.Test.YtkdbfeapfcflmaaOh
import Derived.Test.YtkdbfeapfcflmaaOe
/- Plain facts for Best: whether hits may be. -/
namespace Go.Proofs.Ytkdbfeapfcflmaa.Plain
set_option linter.unusedVariables false
set_option linter.unusedSimpArgs false
open Go.RowKit Go.Proofs.Ytkdbfeapfcflmaa.T Go.Proofs.YtkdbfeapfcflmaaW.PrintWords Go.Proofs.YtkdbfeapfcflmaaW.PrintLast
theorem u_of_wf {x : Int} (h : (Lit.int .u64 x).wf = true) : U x := by
  have e1 : IntKind.u64.min = 0 := by decide
  have e2 : IntKind.u64.max = 18446744073709551615 := by decide
  simp [Lit.wf, e1, e2] at h
  unfold U
  omega
theorem hit_u {x : S27} (h : HitG x) : U x.f2.f0 ∧ U x.f2.f1 := ⟨u_of_wf h.2.2.1, u_of_wf h.2.2.2⟩
theorem w1 (i : Nat) (h : i < 9223372036854775807) : wrap64 ((i : Int) + 1) = ((i + 1 : Nat) : Int) := by unfold wrap64; omega
theorem rd27 (l : List S27) (i : Nat) (h : i < l.length) : rd_T27 l (i : Int) = l[i] := by
  unfold rd_T27
  rw [Int.toNat_natCast, List.getD_eq_getElem?_getD, List.getElem?_eq_getElem h]
  rfl
theorem rdL5 (l : List (List S27)) (i : Nat) (h : i < l.length) : rd_L5 l (i : Int) = l[i] := by
  unfold rd_L5
  rw [Int.toNat_natCast, List.getD_eq_getElem?_getD, List.getElem?_eq_getElem h]
  rfl
def okH (x : S27) : Bool := decide (1 ≤ x.f0.size) && (decide (x.f0.size ≤ 16) && (decide (0 ≤ x.f1) && (decide (x.f1 ≤ 1073741824) && okF x.f2)))
def mayB (l : List S27) : Bool := l.all okH && (decide (idsOf l).Nodup && decide (l.length ≤ 1100))
def fewB (l : List S27) : Bool := decide (l.length ≤ 1110) && l.all fun x => decide (x.f0.size ≤ 40)
theorem okHit_eq (k : Nat) (x : S27) (hu : U x.f2.f0 ∧ U x.f2.f1) (hk : KB ≤ k) : okHit k x = some (okH x) := by
  have hk' : 40000000000000000000 ≤ k := hk
  have h2 := hu.2
  unfold U at h2
  unfold okHit okH
  by_cases h1 : x.f0.size < 1
  · rw [if_pos h1, decide_eq_false (by omega)]; rfl
  · rw [if_neg h1, decide_eq_true (by omega : 1 ≤ x.f0.size)]
    by_cases h3 : 16 < x.f0.size
    · rw [if_pos h3, decide_eq_false (by omega)]; rfl
    · rw [if_neg h3, decide_eq_true (by omega : x.f0.size ≤ 16)]
      by_cases h4 : x.f1 < 0
      · rw [if_pos h4, decide_eq_false (by omega : ¬ 0 ≤ x.f1)]; rfl
      · rw [if_neg h4, decide_eq_true (by omega : 0 ≤ x.f1)]
        by_cases h5 : 1073741824 < x.f1
        · rw [if_pos h5, decide_eq_false (by omega : ¬ x.f1 ≤ 1073741824)]; rfl
        · rw [if_neg h5, decide_eq_true (by omega : x.f1 ≤ 1073741824), may_eq k x.f2 hu.1 hu.2 (by omega)]
          simp
theorem mayLoop_eq (k : Nat) (hk : KB ≤ k) : ∀ l : List S27, (∀ x ∈ l, HitG x) → mayLoop k l = some (l.all okH)
  | [], _ => rfl
  | x :: l, h => by
    rw [mayLoop, okHit_eq k x (hit_u (h x (by simp))) hk, Option.bind_some, List.all_cons]
    cases okH x with
    | false => simp
    | true => simp [mayLoop_eq k hk l (fun y hy => h y (by simp [hy]))]
theorem bmay_eq (k : Nat) (l : List S27) (hk : KB ≤ k) (h : ∀ x ∈ l, HitG x) : best_May.f k l = some (mayB l) := by
  unfold best_May.f mayB
  rw [if_pos (by rw [List.all_eq_true]; intro x hx; exact decide_eq_true (h x hx).1), mayLoop_eq k hk l h, Option.bind_some]
  cases l.all okH with
  | false => simp
  | true =>
    rw [if_pos rfl, Bool.true_and]
    congr 2
    rw [decide_eq_decide, ← distinct_all]
    unfold idsOf
    rw [List.length_map]
theorem few_loop (l : List S27) (hl : l.length ≤ 1110) : ∀ d i k, i + d = l.length → d < k → catchwordlaw20_few.l0 k l (i : Int) = some ((l.drop i).all fun x => decide (x.f0.size ≤ 40))
  | d, i, 0, _, h => absurd h (by omega)
  | 0, i, k + 1, h, _ => by
    rw [catchwordlaw20_few.l0, if_neg (by omega), List.drop_eq_nil_of_le (by omega)]
    rfl
  | d + 1, i, k + 1, h, hk => by
    have hi : i < l.length := by omega
    rw [catchwordlaw20_few.l0, if_pos (by omega), if_pos (by omega), rd27 _ _ hi, List.drop_eq_getElem_cons hi, w1 i (by omega), List.all_cons]
    by_cases h1 : ((l[i].f0.size : Nat) : Int) > 40
    · rw [if_pos h1, decide_eq_false (by omega)]
      rfl
    · rw [if_neg h1, decide_eq_true (by omega), Bool.true_and]
      exact few_loop l hl d (i + 1) k (by omega) (by omega)
theorem few_eq (k : Nat) (l : List S27) (hk : 1200 ≤ k) : catchwordlaw20_few.f k l = some (fewB l) := by
  unfold catchwordlaw20_few.f fewB
  by_cases h : (l.length : Int) > 1110
  · rw [if_pos h, decide_eq_false (by omega)]; rfl
  · rw [if_neg h, decide_eq_true (by omega), Bool.true_and]
    exact few_loop l (by omega) l.length 0 k (by omega) (by omega)
/-! ### the document's May -/
def KD : Nat := 50000000000000000000
theorem kd_in {k : Nat} (h : KD ≤ k) : KB + 6000 ≤ k := Nat.le_trans (by decide) h
theorem kd_may {k : Nat} (h : KD ≤ k) : KB + 3000000 ≤ k := Nat.le_trans (by decide) h
theorem kd_kb {k : Nat} (h : KD ≤ k) : KB ≤ k := Nat.le_trans (by decide) h
theorem kd_num {k : Nat} (h : KD ≤ k) : 1000000 ≤ k := Nat.le_trans (by decide) h
theorem goodB_of_may {l : List S27} (hu : ∀ x ∈ l, HitG x) (h : mayB l = true) : goodB l = true := by
  unfold mayB at h
  unfold goodB
  simp only [Bool.and_eq_true, List.all_eq_true, decide_eq_true_eq] at h ⊢
  refine ⟨fun x hx => ?_, h.2.1⟩
  have ho := h.1 x hx
  unfold okH at ho
  simp only [Bool.and_eq_true, decide_eq_true_eq] at ho
  have hux := hit_u (hu x hx)
  unfold U at hux
  exact ⟨hux.1.1, hux.1.2, hux.2.1, hux.2.2, ho.2.2.2.2⟩
theorem few_small {l : List S27} (h : fewB l = true) : l.length ≤ 1110 ∧ ∀ x ∈ l, x.f0.size ≤ 40 := by
  unfold fewB at h
  simp only [Bool.and_eq_true, List.all_eq_true, decide_eq_true_eq] at h
  exact h
theorem kd_four : ∃ k, KD + 7000 ≤ k := ⟨KD + 7000, Nat.le_refl _⟩
theorem kd_6 {k : Nat} (h : KD + 7000 ≤ k) : KD + 6100 ≤ k := Nat.le_trans (Nat.add_le_add_left (by decide) _) h
theorem kd_s {k : Nat} (h : KD ≤ k) : KD ≤ k + 1 := Nat.le_succ_of_le h
theorem kd_0 {k : Nat} (h : KD + 7000 ≤ k) : KD ≤ k := Nat.le_trans (Nat.le_add_right _ _) h
theorem may_good {l : List S27} (hu : ∀ x ∈ l, HitG x) (h : mayB l = true) : Good l := goodB_good (goodB_of_may hu h)

end Go.Proofs.Ytkdbfeapfcflmaa.Plain

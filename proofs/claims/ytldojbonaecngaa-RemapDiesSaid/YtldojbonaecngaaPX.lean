import Derived.Test.YtldojbonaecngaaPG
import Derived.Test.YtldojbonaecngaaDi
namespace Go.Proofs.Ytldojbonaecngaa.Pure
set_option linter.unusedVariables false
set_option linter.unusedSimpArgs false
open Go.RowKit Go.Proofs.Ytldojbonaecngaa.T Go.Proofs.YtldojbonaecngaaW.PrintWords Go.Proofs.YtldojbonaecngaaW.PrintLast
theorem carry_one (n : Int) (t : List Int) (a b : List Bool) (h0 : 0 ≤ n) (h1 : n ≤ 64) (ha : a.length = t.length) (hb : b.length = t.length) : carryOf n [t] [a] [b] = alive n.toNat (died t a b t.length) := by
  have e1 : rd_L3 [t] ((0 : Nat) : Int) = t := rfl
  have e2 : rd_L2 [a] ((0 : Nat) : Int) = a := rfl
  have e3 : rd_L2 [b] ((0 : Nat) : Int) = b := rfl
  have hf : fits [t] [a] [b] = true := by
    unfold fits
    rw [List.all_eq_true]
    intro j hj
    have hj' := List.mem_range.1 hj
    obtain rfl : j = 0 := by simpa using hj'
    rw [e1, e2, e3]
    exact decide_eq_true ⟨ha, hb⟩
  unfold carryOf
  rw [if_pos ⟨h0, h1, rfl, rfl, hf⟩]
  have hd : diedAll [t] [a] [b] 1 = died t a b t.length := by
    rw [diedAll_next, e1, e2, e3]
    rfl
  show alive n.toNat (diedAll [t] [a] [b] 1) = _
  rw [hd]
theorem alive_at (N : Nat) (D : List Int) (i : Int) (h0 : 0 ≤ i) (h1 : i < (N : Int)) : rdOf false (alive N D) i = !D.contains i := by
  obtain ⟨m, rfl⟩ := Int.eq_ofNat_of_zero_le h0
  rw [rdOf_nat _ _ _ (by rw [alive_length]; omega)]
  simp [alive]
theorem less_le (now : List Bool) (k : Int) (j : Nat) (h : rdOf false (lessOf now k) (j : Int) = true) : rdOf false now (j : Int) = true := by
  unfold lessOf at h
  by_cases hk : 0 ≤ k ∧ k < (now.length : Int)
  · rw [if_pos hk] at h
    by_cases hj : j < now.length
    · rw [rdOf_nat _ _ _ (by rw [List.length_set]; exact hj), List.getElem_set] at h
      rw [rdOf_nat _ _ _ hj]
      by_cases he : k.toNat = j
      · rw [if_pos he] at h
        cases h
      · rw [if_neg he] at h
        exact h
    · have : rdOf false (now.set k.toNat false) (j : Int) = false := by
        simp only [rdOf, Int.toNat_natCast, List.getD_eq_getElem?_getD]
        rw [List.getElem?_eq_none (by rw [List.length_set]; omega)]
        rfl
      rw [this] at h
      cases h
  · rw [if_neg hk] at h
    exact h
theorem lessOf_length (now : List Bool) (k : Int) : (lessOf now k).length = now.length := by
  unfold lessOf
  by_cases hk : 0 ≤ k ∧ k < (now.length : Int)
  · rw [if_pos hk, List.length_set]
  · rw [if_neg hk]
theorem died_mem (t : List Int) (a b : List Bool) (m : Nat) (x : Int) : x ∈ died t a b m ↔ ∃ j, j < m ∧ rdOf false a (j : Int) = true ∧ rdOf false b (j : Int) = false ∧ rd t (j : Int) = x := by
  unfold died
  simp only [List.mem_map, List.mem_filter, List.mem_range, Bool.and_eq_true, Bool.not_eq_true']
  constructor
  · rintro ⟨j, ⟨h1, h2, h3⟩, h4⟩
    exact ⟨j, h1, h2, h3, h4⟩
  · rintro ⟨j, h1, h2, h3, h4⟩
    exact ⟨j, ⟨h1, h2, h3⟩, h4⟩
theorem dies_ok (n : Int) (t : List Int) (was now : List Bool) (k : Int) (h1 : t.length ≤ 64) (h2 : was.length = t.length) (h3 : now.length = t.length) (h4 : 0 ≤ n) (h5 : n ≤ 64) : DiesOk 1100000 n t was now k := by
  have hT : ∀ r ∈ [t], r.length ≤ 1000 := fun r hr => by rw [List.mem_singleton.1 hr]; omega
  have hN : ((n.toNat : Nat) : Int) = n := by omega
  have hl := lessOf_length now k
  refine ⟨_, _, _, carry_eq 1100000 n [t] [was] [was] (by simp) hT (Nat.le_refl _), carry_eq 1100000 n [t] [was] [now] (by simp) hT (Nat.le_refl _), carry_eq 1100000 n [t] [was] [lessOf now k] (by simp) hT (Nat.le_refl _), ?_⟩
  rw [carry_one n t was was h4 h5 h2 h2, carry_one n t was now h4 h5 h2 h3, carry_one n t was (lessOf now k) h4 h5 h2 (by omega)]
  refine ⟨by rw [alive_length]; exact hN, by rw [alive_length]; exact hN, by rw [alive_length]; exact hN, fun i i0 i1 => ?_⟩
  rw [alive_at _ _ _ i0 (by omega), alive_at _ _ _ i0 (by omega), alive_at _ _ _ i0 (by omega)]
  constructor
  · rw [Bool.not_eq_true', List.contains_eq_mem, decide_eq_false_iff_not, died_mem]
    rintro ⟨j, _, a1, a2, _⟩
    rw [a1] at a2
    cases a2
  · rw [Bool.not_eq_true', Bool.not_eq_true', List.contains_eq_mem, List.contains_eq_mem, decide_eq_false_iff_not, decide_eq_false_iff_not, died_mem, died_mem]
    rintro hn ⟨j, g1, g2, g3, g4⟩
    refine hn ⟨j, g1, g2, ?_, g4⟩
    cases hb : rdOf false (lessOf now k) (j : Int) with
    | false => rfl
    | true =>
      rw [less_le now k j hb] at g3
      cases g3
end Go.Proofs.Ytldojbonaecngaa.Pure
namespace Go.Proofs.Ytldojbonaecngaa.T
set_option linter.unusedVariables false
open Go.RowKit Go.Proofs.YtldojbonaecngaaW.PrintWords Go.Proofs.YtldojbonaecngaaW.PrintLast
def catchwordlaw10_RemapDies.f (k : Nat) (a0 : Int) (l1 : List Int) (l2 l3 : List Bool) (a4 : Int) : Option Bool := some true
theorem catchwordlaw10_RemapDies.calls (k : Nat) (a0 : Int) (A1 : Option Addr) (c1 : Nat) (l1 : List Int) (A2 : Option Addr) (c2 : Nat) (l2 : List Bool) (A3 : Option Addr) (c3 : Nat) (l3 : List Bool) (a4 : Int) (r : Bool) (w : World)
    (hr1 : Kd.C (Kd.int .i64) w A1 l1.length l1) (hc1 : l1.length ≤ c1) (hr2 : Kd.C Kd.bool w A2 l2.length l2) (hc2 : l2.length ≤ c2) (hr3 : Kd.C Kd.bool w A3 l3.length l3) (hc3 : l3.length ≤ c3) (h : catchwordlaw10_RemapDies.f k a0 l1 l2 l3 a4 = some r) :
    Calls Try.prog 9 #[.int .i64 a0, .slice A1 l1.length c1, .slice A2 l2.length c2, .slice A3 l3.length c3, .int .i64 a4] w fun e w' => e = .returned (.bool r) ∧ Below w.heap.size w w' := by
  obtain rfl : true = r := Option.some.inj h
  exact dies_calls a0 A1 c1 l1 A2 c2 l2 A3 c3 l3 a4 w 40 Pure.awake40 1100000 (fun h1 h2 h3 h4 h5 => Pure.dies_ok a0 l1 l2 l3 a4 h1 h2 h3 h4 h5) hr1 hc1 hr2 hc2 hr3 hc3
end Go.Proofs.Ytldojbonaecngaa.T
namespace Go.Proofs.Ytldojbonaecngaa.Pure
set_option linter.unusedVariables false
theorem RemapDies (a0 : Int) (l1 : List Int) (m1 : l1.length ≤ 9223372036854775807) (l2 : List Bool) (m2 : l2.length ≤ 9223372036854775807) (l3 : List Bool) (m3 : l3.length ≤ 9223372036854775807) (a4 : Int) : ∃ k, T.catchwordlaw10_RemapDies.f k a0 l1 l2 l3 a4 = some true := ⟨0, rfl⟩
end Go.Proofs.Ytldojbonaecngaa.Pure

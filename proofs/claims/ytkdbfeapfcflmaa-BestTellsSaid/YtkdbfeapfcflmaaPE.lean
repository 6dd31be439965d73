import Derived.Test.YtkdbfeapfcflmaaPG
import Derived.Test.YtkdbfeapfcflmaaTx7
import Derived.Test.YtkdbfeapfcflmaaTx8
import Derived.Test.YtkdbfeapfcflmaaTx9
import Derived.Test.YtkdbfeapfcflmaaTx12
/- Plain facts for Best: what of, and the document's Of, tell. -/
namespace Go.Proofs.Ytkdbfeapfcflmaa.Plain
set_option linter.unusedVariables false
set_option linter.unusedSimpArgs false
open Go.RowKit Go.Proofs.Ytkdbfeapfcflmaa.T Go.Proofs.YtkdbfeapfcflmaaW.PrintWords Go.Proofs.YtkdbfeapfcflmaaW.PrintLast
def ltK (keys : Bool) : S27 → S27 → Bool := if keys then soonerB else aheadB
theorem take_snoc (l : List S27) (i : Nat) (h : i < l.length) : l.take i ++ [l[i]] = l.take (i + 1) := by
  rw [List.take_succ_eq_append_getElem h]
def Small (x : S27) : Prop := HitG x ∧ x.f0.size ≤ 40
set_option maxRecDepth 100000 in
theorem in_loop (keys : Bool) (x : S27) (hx : Small x) (out : List S27) (hl : out.length ≤ 5000) (ho : ∀ y ∈ out, Small y) (K0 : Nat) (hK0 : KB ≤ K0) : ∀ d i k, i + d = out.length → K0 + d < k →
    catchwordref20_in.l0 k out keys (out.take i) (i : Int) x.f0 x.f1 x.f2.f0 x.f2.f1 = some (out.take i ++ ins (ltK keys) (out.drop i) x) := by
  have hKK : 40000000000000000000 ≤ K0 := hK0
  intro d
  induction d with
  | zero =>
    intro i k h hk
    obtain ⟨k, rfl⟩ : ∃ m, k = m + 1 := ⟨k - 1, by omega⟩
    have htl : (out.take i).length = i := by rw [List.length_take]; omega
    rw [catchwordref20_in.l0, if_neg (by omega), if_pos (by omega), Option.bind_some, if_pos (by omega), if_pos (by omega), Option.bind_some, Int.toNat_natCast, List.drop_eq_nil_of_le (by omega), if_pos (by simp; omega)]
    simp [ins]
  | succ d ih =>
    intro i k h hk
    obtain ⟨k, rfl⟩ : ∃ m, k = m + 1 := ⟨k - 1, by omega⟩
    have hi : i < out.length := by omega
    have htl : (out.take i).length = i := by rw [List.length_take]; omega
    have hy := ho out[i] (List.getElem_mem hi)
    have ih2 := ih (i + 1) k (by omega) (by omega)
    have hlen : i + 1 + (out.length - i) < 3518437208883 := by omega
    have fin : ins (ltK keys) (out.drop i) x = if ltK keys out[i] x then out[i] :: ins (ltK keys) (out.drop (i + 1)) x else x :: out.drop i := by
      rw [List.drop_eq_getElem_cons hi, ins]
    rw [fin]
    cases keys with
    | true =>
      rw [catchwordref20_in.l0, if_pos (by omega), if_pos rfl, if_pos (by omega), rd27 _ _ hi, rsooner_eq k _ _ hy.2 hx.2 (by omega), Option.bind_some, w1 i (by omega)]
      have hlt : ltK true out[i] x = soonerB out[i] x := rfl
      rw [hlt]
      cases soonerB out[i] x with
      | true =>
        rw [if_pos rfl, if_pos (by omega)]
        show catchwordref20_in.l0 k out true (out.take i ++ [out[i]]) _ _ _ _ _ = _
        rw [take_snoc _ _ hi, ih2, if_pos rfl, (take_snoc out i hi).symm, List.append_assoc]
        rfl
      | false =>
        rw [if_neg (by simp), if_pos (by omega), Option.bind_some, if_pos (by omega), Option.bind_some, Int.toNat_natCast, if_pos (by simp; omega), if_neg (by simp)]
        simp
    | false =>
      rw [catchwordref20_in.l0, if_pos (by omega), if_neg (by simp), if_pos (by omega), rd27 _ _ hi, rahead_eq k _ _ (hit_u hy.1) (hit_u hx.1) hy.2 hx.2 (by omega), Option.bind_some, w1 i (by omega)]
      have hlt : ltK false out[i] x = aheadB out[i] x := rfl
      rw [hlt]
      cases aheadB out[i] x with
      | true =>
        rw [if_pos rfl, if_pos (by omega)]
        show catchwordref20_in.l0 k out false (out.take i ++ [out[i]]) _ _ _ _ _ = _
        rw [take_snoc _ _ hi, ih2, if_pos rfl, (take_snoc out i hi).symm, List.append_assoc]
        rfl
      | false =>
        rw [if_neg (by simp), if_pos (by omega), Option.bind_some, if_pos (by omega), Option.bind_some, Int.toNat_natCast, if_pos (by simp; omega), if_neg (by simp)]
        simp
set_option maxRecDepth 100000 in
theorem in_eq (keys : Bool) (x : S27) (hx : Small x) (out : List S27) (hl : out.length ≤ 5000) (ho : ∀ y ∈ out, Small y) (k : Nat) (hk : KB + 6000 ≤ k) : catchwordref20_in.f k out x.f0 x.f1 x.f2.f0 x.f2.f1 keys = some (ins (ltK keys) out x) := by
  have h := in_loop keys x hx out hl ho KB (Nat.le_refl _) out.length 0 k (by omega) (by omega)
  unfold catchwordref20_in.f
  simpa using h
set_option maxRecDepth 100000 in
theorem of_l1 (n : Int) (keys : Bool) (all : List S27) (hl : all.length ≤ 5000) (ha : ∀ y ∈ all, Small y) (hn : 0 ≤ n) (K0 : Nat) (hK0 : KD ≤ K0) : ∀ d i k (acc : List S27), i + d = all.length → acc.length = i → (∀ y ∈ acc, Small y) → K0 + d < k →
    catchwordref20_Of.l1 k n keys all acc (i : Int) = some (((all.drop i).foldl (ins (ltK keys)) acc).take n.toNat) := by
  intro d
  induction d with
  | zero =>
    intro i k acc h hac hs hk
    obtain ⟨k, rfl⟩ : ∃ m, k = m + 1 := ⟨k - 1, by omega⟩
    rw [catchwordref20_Of.l1, if_neg (by omega), List.drop_eq_nil_of_le (by omega), List.foldl_nil]
    by_cases c : (acc.length : Int) > n
    · rw [if_pos c, if_pos hn, if_pos (by omega)]
    · rw [if_neg c, List.take_of_length_le (by omega)]
  | succ d ih =>
    intro i k acc h hac hs hk
    obtain ⟨k, rfl⟩ : ∃ m, k = m + 1 := ⟨k - 1, by omega⟩
    have hi : i < all.length := by omega
    have hx := ha all[i] (List.getElem_mem hi)
    have hp := ins_perm (lt := ltK keys) acc all[i]
    rw [catchwordref20_Of.l1, if_pos (by omega), if_pos (by omega), rd27 _ _ hi, in_eq keys _ hx acc (by omega) hs k (kd_in (by omega)), Option.bind_some, w1 i (by omega), List.drop_eq_getElem_cons hi, List.foldl_cons]
    refine ih (i + 1) k _ (by omega) (by rw [hp.length_eq]; simp; omega) (fun y hy => ?_) (by omega)
    rcases List.mem_cons.1 (hp.subset hy) with rfl | h1
    · exact hx
    · exact hs y h1
set_option maxRecDepth 100000 in
theorem of_l0 (n : Int) (keys : Bool) (ls : List (List S27)) (hls : ls.length ≤ 10) (hsm : ∀ l ∈ ls, ∀ x ∈ l, Small x) (htot : ls.flatten.length ≤ 5000) (K0 : Nat) (hK0 : KD ≤ K0) : ∀ d i k, i + d = ls.length → K0 + 6000 + d < k →
    catchwordref20_Of.l0 k n ls keys (ls.take i).flatten (i : Int) = some (if mayB ls.flatten = true ∧ 0 ≤ n ∧ n ≤ 100 then (sorted (ltK keys) ls.flatten).take n.toNat else []) := by
  intro d
  induction d with
  | zero =>
    intro i k h hk
    obtain ⟨k, rfl⟩ : ∃ m, k = m + 2 := ⟨k - 2, by omega⟩
    have hall : ∀ y ∈ ls.flatten, Small y := fun y hy => by
      obtain ⟨l, hl, hyl⟩ := List.mem_flatten.1 hy
      exact hsm l hl y hyl
    rw [catchwordref20_Of.l0, if_neg (by omega), List.take_of_length_le (by omega), refmay_eq (k + 1) ls.flatten htot (fun y hy => (hall y hy).1) (kd_may (by omega)), Option.bind_some]
    have hj : ∀ b, catchwordref20_Of.j1 (k + 1) n keys ls.flatten b = if b = true then some [] else catchwordref20_Of.l1 k n keys ls.flatten [] 0 := fun b => by rw [catchwordref20_Of.j1]
    rw [hj, hj]
    cases mayB ls.flatten with
    | false => simp
    | true =>
      rw [if_pos rfl]
      by_cases h0 : n < 0
      · rw [if_pos h0, if_pos rfl, if_neg (by omega)]
      · rw [if_neg h0]
        by_cases h1 : n > 100
        · rw [decide_eq_true h1, if_pos rfl, if_neg (by omega)]
        · rw [decide_eq_false h1, if_neg (by simp), if_pos ⟨rfl, by omega, by omega⟩]
          have := of_l1 n keys ls.flatten htot hall (by omega) KD (Nat.le_refl _) ls.flatten.length 0 k [] (by omega) rfl (by simp) (by omega)
          rw [List.drop_zero] at this
          exact this
  | succ d ih =>
    intro i k h hk
    obtain ⟨k, rfl⟩ : ∃ m, k = m + 1 := ⟨k - 1, by omega⟩
    have hi : i < ls.length := by omega
    have hs := sum_drop_ ls i hi
    have hle := flat_take_le ls (i + 1)
    have e : ls.getD i [] = ls[i] := by rw [List.getD_eq_getElem?_getD, List.getElem?_eq_getElem hi]; rfl
    rw [e] at hs
    have hlen := congrArg List.length hs
    rw [List.length_append] at hlen
    rw [catchwordref20_Of.l0, if_pos (by omega), if_pos (by omega), rdL5 _ _ hi, if_pos (by omega), w1 i (by omega), ← hs]
    exact ih (i + 1) k (by omega) (by omega)
set_option maxRecDepth 100000 in
theorem refof_eq (n : Int) (keys : Bool) (ls : List (List S27)) (hls : ls.length ≤ 10) (hsm : ∀ l ∈ ls, ∀ x ∈ l, Small x) (htot : ls.flatten.length ≤ 5000) (k : Nat) (hk : KD + 6100 ≤ k) :
    catchwordref20_Of.f k n ls keys = some (if mayB ls.flatten = true ∧ 0 ≤ n ∧ n ≤ 100 then (sorted (ltK keys) ls.flatten).take n.toNat else []) := by
  have h := of_l0 n keys ls hls hsm htot KD (Nat.le_refl _) ls.length 0 k (by omega) (by omega)
  unfold catchwordref20_Of.f
  simpa using h
set_option maxRecDepth 100000 in
theorem best_eq (n : Int) (ls : List (List S27)) (hu : ∀ l ∈ ls, ∀ x ∈ l, HitG x) (htot : ls.flatten.length ≤ 5000) (k : Nat) (hk : KB ≤ k) :
    best_Best.f k n ls = some (ofV aheadB n ls.flatten (mayB ls.flatten)) := by
  have hall : ∀ y ∈ ls.flatten, HitG y := fun y hy => by
    obtain ⟨l, hl, hyl⟩ := List.mem_flatten.1 hy
    exact hu l hl y hyl
  unfold best_Best.f best_of_13.f slices_Concat_Hit.f
  rw [if_pos (by omega), Option.bind_some, bmay_eq k _ hk hall, Option.bind_some]
  cases hm : mayB ls.flatten with
  | false =>
    rw [if_neg (by simp), Option.bind_some]
    unfold ofV
    rw [if_neg (by simp)]
  | true => rw [if_pos rfl, if_pos (goodB_of_may hall hm), Option.bind_some]
set_option maxRecDepth 100000 in
theorem first_eq (n : Int) (ls : List (List S27)) (hu : ∀ l ∈ ls, ∀ x ∈ l, HitG x) (htot : ls.flatten.length ≤ 5000) (k : Nat) (hk : KB ≤ k) :
    best_First.f k n ls = some (ofV soonerB n ls.flatten (mayB ls.flatten)) := by
  have hall : ∀ y ∈ ls.flatten, HitG y := fun y hy => by
    obtain ⟨l, hl, hyl⟩ := List.mem_flatten.1 hy
    exact hu l hl y hyl
  unfold best_First.f best_of_15.f slices_Concat_Hit.f
  rw [if_pos (by omega), Option.bind_some, bmay_eq k _ hk hall, Option.bind_some]
  cases hm : mayB ls.flatten with
  | false =>
    rw [if_neg (by simp), Option.bind_some]
    unfold ofV
    rw [if_neg (by simp)]
  | true => rw [if_pos rfl, if_pos (goodB_of_may hall hm), Option.bind_some]
theorem same_loop (l : List S27) (hl : l.length ≤ 5000) : ∀ d i k, i + d = l.length → d < k → catchwordref20_Same.l0 k l l (i : Int) = some true := by
  intro d
  induction d with
  | zero =>
    intro i k h hk
    obtain ⟨k, rfl⟩ : ∃ m, k = m + 1 := ⟨k - 1, by omega⟩
    rw [catchwordref20_Same.l0, if_neg (by omega)]
  | succ d ih =>
    intro i k h hk
    obtain ⟨k, rfl⟩ : ∃ m, k = m + 1 := ⟨k - 1, by omega⟩
    rw [catchwordref20_Same.l0, if_pos (by omega), if_pos (by omega), if_pos (by omega), if_neg (by simp), w1 i (by omega)]
    exact ih (i + 1) k (by omega) (by omega)
theorem same_refl (l : List S27) (hl : l.length ≤ 5000) (k : Nat) (hk : 5001 ≤ k) : catchwordref20_Same.f k l l = some true := by
  unfold catchwordref20_Same.f
  rw [if_pos rfl]
  exact same_loop l hl l.length 0 k (by omega) (by omega)
theorem ofV_le (lt : S27 → S27 → Bool) (n : Int) (all : List S27) (m : Bool) : (ofV lt n all m).length ≤ all.length := by
  unfold ofV
  split
  · have := (sorted_perm (lt := lt) all).length_eq
    rw [List.length_take]; omega
  · simp
end Go.Proofs.Ytkdbfeapfcflmaa.Plain

import Derived.Test.YtaldbabkdoabkaaQA
import Derived.Test.YtaldbabkdoabkaaQE
import Derived.Test.YtaldbabkdoabkaaQG
import Derived.Test.YtaldbabkdoabkaaQH
import Derived.Test.YtaldbabkdoabkaaQJ
import Derived.Test.YtaldbabkdoabkaaQP
import Derived.Test.YtaldbabkdoabkaaQQ
import Derived.Test.YtaldbabkdoabkaaQR
import Derived.Test.YtaldbabkdoabkaaQS
import Derived.Test.YtaldbabkdoabkaaQT
import Derived.Test.YtaldbabkdoabkaaP0
/- Plain facts for Disk. -/
namespace Go.Proofs.Ytaldbabkdoabkaa.Plain
set_option linter.unusedVariables false
set_option linter.unusedSimpArgs false
open Go.RowKit Go.Proofs.Ytaldbabkdoabkaa.T Go.Proofs.YtaldbabkdoabkaaW.PrintWords Go.Proofs.YtaldbabkdoabkaaW.PrintLast
theorem name_l0 (a : ByteArray) (hs : a.size ≤ 1000000) : ∀ (d p k : Nat), a.size - p = d → p ≤ a.size → d < k → catchwordref03_Name.l0 k a (p : Int) = some ((a.data.toList.drop p).all okc && decide (1 ≤ a.size) && decide (a.size ≤ 24)) := by
  intro d
  induction d with
  | zero =>
    intro p k hd hp hk
    obtain ⟨k, rfl⟩ : ∃ m, k = m + 1 := ⟨k - 1, by omega⟩
    rw [catchwordref03_Name.l0, if_neg (by omega), List.drop_eq_nil_of_le (by rw [size_list]; omega)]
    by_cases h : 1 ≤ a.size
    · rw [if_pos (by omega), decide_eq_true h]
      simp only [List.all_nil, Bool.true_and, Option.some.injEq, decide_eq_decide]
      omega
    · rw [if_neg (by omega), decide_eq_false h]; simp
  | succ d ih =>
    intro p k hd hp hk
    obtain ⟨k, rfl⟩ : ∃ m, k = m + 1 := ⟨k - 1, by omega⟩
    have hlt : p < a.size := by omega
    have hw : wrap64 ((p : Int) + 1) = ((p + 1 : Nat) : Int) := by unfold wrap64; omega
    rw [catchwordref03_Name.l0, if_pos (by omega), if_pos (by omega), drop_all hlt, hw, ih (p + 1) k (by omega) (by omega) (by omega)]
    have hb : bt a (p : Int) = ((a[p]'hlt).toNat : Int) := (bt_at a (p : Int) hlt).symm
    rw [hb]
    unfold okc
    generalize (a[p]'hlt).toNat = c
    generalize (a.data.toList.drop (p + 1)).all _ = r
    by_cases h1 : c < 97
    · rw [if_pos (by omega), decide_eq_false (by omega : ¬ 97 ≤ c)]
      by_cases h2 : c < 48
      · rw [if_pos (by omega), decide_eq_false (by omega : ¬ 48 ≤ c)]
        by_cases h3 : c = 46
        · rw [if_pos (by omega), decide_eq_true h3]; simp
        · rw [if_neg (by omega), decide_eq_false h3]; simp
      · rw [if_neg (by omega), decide_eq_true (by omega : 48 ≤ c)]
        by_cases h3 : c ≤ 57
        · rw [if_neg (by omega), decide_eq_true h3]; simp
        · rw [if_pos (by omega), decide_eq_false h3, if_neg (by omega), decide_eq_false (by omega : ¬ c = 46)]; simp
    · rw [if_neg (by omega), decide_eq_true (by omega : 97 ≤ c)]
      by_cases h2 : c ≤ 122
      · rw [if_neg (by omega), decide_eq_true h2]; simp
      · rw [if_pos (by omega), decide_eq_false h2, if_neg (by omega), decide_eq_true (by omega : 48 ≤ c), if_pos (by omega), decide_eq_false (by omega : ¬ c ≤ 57), if_neg (by omega), decide_eq_false (by omega : ¬ c = 46)]; simp
theorem name_eq (a : ByteArray) (hs : a.size ≤ 1000000) (k : Nat) (hk : a.size < k) : catchwordref03_Name.f k a = some (nameB a) := by
  unfold catchwordref03_Name.f nameB
  have h := name_l0 a hs a.size 0 k (by omega) (by omega) hk
  simpa using h
theorem rused_l0 (l : List S48) (h : Sm l) : ∀ (d i k s : Nat), l.length - i = d → i ≤ l.length → s ≤ 1000000 - 400 * d → d < k → catchwordref03_used.l0 k l (s : Int) (i : Int) = some ((s + usedN (l.drop i) : Nat) : Int) := by
  intro d
  induction d with
  | zero =>
    intro i k s hd hi hs hk
    obtain ⟨k, rfl⟩ : ∃ m, k = m + 1 := ⟨k - 1, by omega⟩
    rw [catchwordref03_used.l0, if_neg (by omega), List.drop_eq_nil_of_le (by omega)]
    simp [usedN]
  | succ d ih =>
    intro i k s hd hi hs hk
    have h200 := h.1
    obtain ⟨k, rfl⟩ : ∃ m, k = m + 1 := ⟨k - 1, by omega⟩
    have hlt : i < l.length := by omega
    have hx : (rd_T48 l (i : Int)).f1.length ≤ 400 := by rw [rd48 l i hlt]; exact (h.2 _ (List.getElem_mem hlt)).1
    rw [catchwordref03_used.l0, if_pos (by omega), if_pos (by omega), w64 i (by omega), w64a s _ (by omega) (by omega), ih (i + 1) k _ (by omega) (by omega) (by omega) (by omega), drop_c l i hlt, usedN_cons]
    congr 2
    omega
theorem rused_eq (l : List S48) (h : Sm l) (k : Nat) (hk : l.length < k) : catchwordref03_used.f k l = some ((usedN l : Nat) : Int) := by
  unfold catchwordref03_used.f
  have h1 := h.1
  have := rused_l0 l h l.length 0 k 0 (by omega) (by omega) (by omega) hk
  simpa using this
theorem rmay_l0 (cap : Int) (l : List S48) (h : Sm l) : ∀ (d i k : Nat), l.length - i = d → i ≤ l.length → 600 + d ≤ k → catchwordref03_May.l0 k (i : Int) cap l = some (adjB (prevO l i) (l.drop i) && decide (0 ≤ cap) && decide (cap ≤ 1048576) && decide ((usedN l : Int) ≤ cap)) := by
  intro d
  induction d with
  | zero =>
    intro i k hd hi hk
    have h200 := h.1
    obtain ⟨k, rfl⟩ : ∃ m, k = m + 1 := ⟨k - 1, by omega⟩
    have e : adjB (prevO l i) [] = true := by cases prevO l i <;> rfl
    rw [catchwordref03_May.l0, if_neg (by omega), List.drop_eq_nil_of_le (by omega), e, rused_eq l h k (by omega)]
    by_cases a1 : 0 ≤ cap
    · rw [if_pos (by omega), decide_eq_true a1]
      by_cases a2 : cap ≤ 1048576
      · rw [if_pos a2, decide_eq_true a2]; simp
      · rw [if_neg a2, decide_eq_false a2]; simp
    · rw [if_neg (by omega), decide_eq_false a1]; simp
  | succ d ih =>
    intro i k hd hi hk
    have h200 := h.1
    obtain ⟨k, rfl⟩ : ∃ m, k = m + 1 := ⟨k - 1, by omega⟩
    have hlt : i < l.length := by omega
    have hz : (rd_T48 l (i : Int)).f0.size ≤ 100 := by rw [rd48 l i hlt]; exact (h.2 _ (List.getElem_mem hlt)).2
    rw [catchwordref03_May.l0, if_pos (by omega), if_pos (by omega), name_eq _ (by omega) k (by omega), Option.bind_some, drop_c l i hlt]
    have hp1 : prevO l (i + 1) = some (rd_T48 l (i : Int)) := by
      unfold prevO
      rw [if_neg (by omega), rd48 l i hlt]
      simp [hlt]
    have ihh := ih (i + 1) k (by omega) (by omega) (by omega)
    rw [hp1] at ihh
    by_cases h0 : i = 0
    · subst h0
      have hp0 : prevO l 0 = none := rfl
      rw [hp0, adjB]
      cases nameB (rd_T48 l ((0 : Nat) : Int)).f0 with
      | false => simp
      | true =>
        rw [if_pos rfl, if_neg (by omega), w64 0 (by omega), ihh]
        simp
    · have hpi : prevO l i = some (rd_T48 l ((i - 1 : Nat) : Int)) := by
        unfold prevO
        rw [if_neg h0, rd48 l (i - 1) (by omega)]
        simp [show i - 1 < l.length by omega]
      have hw : wrap64 ((i : Int) - 1) = ((i - 1 : Nat) : Int) := by unfold wrap64; omega
      have hz1 : (rd_T48 l ((i - 1 : Nat) : Int)).f0.size ≤ 100 := by rw [rd48 l (i - 1) (by omega)]; exact (h.2 _ (List.getElem_mem _)).2
      rw [hpi, adjB]
      cases nameB (rd_T48 l (i : Int)).f0 with
      | false => simp
      | true =>
        rw [if_pos rfl, if_pos (by omega), hw, if_pos (by omega), if_pos (by omega), below_eq _ _ (by omega) (by omega) k (by unfold gBel; omega), Option.bind_some, w64 i (by omega), ihh]
        have e : Op.bytesLess (rd_T48 l ((i - 1 : Nat) : Int)).f0.toList (rd_T48 l (i : Int)).f0.toList = ltX (rd_T48 l ((i - 1 : Nat) : Int)) (rd_T48 l (i : Int)) := rfl
        rw [e]
        cases ltX (rd_T48 l ((i - 1 : Nat) : Int)) (rd_T48 l (i : Int)) <;> simp
theorem rmay_eq (cap : Int) (l : List S48) (h : Sm l) (k : Nat) (hk : KS ≤ k) : catchwordref03_May.f k cap l = some (mayB cap l) := by
  unfold catchwordref03_May.f mayB
  have h200 := h.1
  have hp0 : prevO l 0 = none := rfl
  by_cases h64 : (l.length : Int) > 64
  · rw [if_pos h64, decide_eq_false (by omega : ¬ l.length ≤ 64)]; simp
  · have := rmay_l0 cap l h l.length 0 k (by omega) (by omega) (by unfold KS at hk; omega)
    rw [hp0, List.drop_zero, adj_none] at this
    rw [if_neg h64, decide_eq_true (by omega : l.length ≤ 64)]
    simp only [Int.natCast_zero] at this
    rw [this]
    simp
theorem rsame_l0 (c1 c2 : Int) (l m : List S48) (hl : l.length = m.length) (h : Sm l) : ∀ (d i k : Nat), l.length - i = d → i ≤ l.length → 500 + d ≤ k → catchwordref03_Same.l0 k (i : Int) c1 l c2 m = some (decide (l.drop i = m.drop i)) := by
  intro d
  induction d with
  | zero =>
    intro i k hd hi hk
    obtain ⟨k, rfl⟩ : ∃ m, k = m + 1 := ⟨k - 1, by omega⟩
    rw [catchwordref03_Same.l0, if_neg (by omega), List.drop_eq_nil_of_le (by omega), List.drop_eq_nil_of_le (by omega)]
    rfl
  | succ d ih =>
    intro i k hd hi hk
    have h200 := h.1
    obtain ⟨k, rfl⟩ : ∃ m, k = m + 1 := ⟨k - 1, by omega⟩
    have hlt : i < l.length := by omega
    have hx : (rd_T48 l (i : Int)).f1.length ≤ 400 := by rw [rd48 l i hlt]; exact (h.2 _ (List.getElem_mem hlt)).1
    rw [catchwordref03_Same.l0, if_pos (by omega), if_pos (by omega), if_pos (by omega), bytes_eq _ _ (by omega) k (by omega), Option.bind_some, drop_c l i hlt, drop_c m i (by omega), w64 i (by omega)]
    by_cases e : rd_T48 l (i : Int) = rd_T48 m (i : Int)
    · rw [e, decide_eq_true rfl, if_pos rfl, if_pos rfl, if_neg (by simp), ih (i + 1) k (by omega) (by omega) (by omega)]
      simp
    · rw [decide_eq_false (fun h => e (by injection h) : ¬ (rd_T48 l (i : Int) :: l.drop (i + 1) = rd_T48 m (i : Int) :: m.drop (i + 1)))]
      by_cases e1 : (rd_T48 l (i : Int)).f1 = (rd_T48 m (i : Int)).f1
      · rw [if_pos (decide_eq_true e1)]
        by_cases e0 : (rd_T48 l (i : Int)).f0.toList = (rd_T48 m (i : Int)).f0.toList
        · rw [if_pos e0, if_pos]
          simp only [bne_iff_ne, ne_eq]
          exact fun e2 => e ((s48_eq _ _).2 ⟨e0, e1, e2⟩)
        · rw [if_neg e0]
      · rw [if_neg (by rw [decide_eq_false e1]; simp)]
theorem rsame_eq (c1 : Int) (l : List S48) (c2 : Int) (m : List S48) (h : Sm l) (k : Nat) (hk : KS ≤ k) : catchwordref03_Same.f k c1 l c2 m = some (decide (c1 = c2) && decide (l = m)) := by
  unfold catchwordref03_Same.f
  have h200 := h.1
  obtain ⟨k, rfl⟩ : ∃ m, k = m + 1 := ⟨k - 1, by unfold KS at hk; omega⟩
  by_cases hc : c1 = c2
  · rw [if_pos hc, decide_eq_true hc, catchwordref03_Same.j0]
    by_cases e : l.length = m.length
    · have := rsame_l0 c1 c2 l m e h l.length 0 k (by omega) (by omega) (by unfold KS at hk; omega)
      simp only [Int.natCast_zero, List.drop_zero] at this
      rw [if_neg (by rw [e]; simp), this]
      simp
    · rw [if_pos (by simp only [bne_iff_ne, ne_eq]; omega), decide_eq_false (fun h => e (by rw [h]))]
      rfl
  · rw [if_neg hc, decide_eq_false hc, catchwordref03_Same.j0, if_pos rfl]
    rfl
theorem rfind_l0 (l : List S48) (a : ByteArray) (cap : Int) (hl : l.length ≤ 200) : ∀ (d i k : Nat), l.length - i = d → i ≤ l.length → 2 * d + 2 ≤ k → (∀ j, j < i → ∀ y, l[j]? = some y → y.f0.toList ≠ a.toList) → catchwordref03_Find.l0 k a true (i : Int) cap l = some (findI l a) := by
  intro d
  induction d with
  | zero =>
    intro i k hd hi hk hne
    obtain ⟨k, rfl⟩ : ∃ m, k = m + 1 := ⟨k - 1, by omega⟩
    obtain ⟨k, rfl⟩ : ∃ m, k = m + 1 := ⟨k - 1, by omega⟩
    rw [catchwordref03_Find.l0, if_neg (by omega), catchwordref03_Find.j1, if_neg (by simp)]
    unfold findI
    rw [if_neg]
    intro hx
    obtain ⟨y, hy, e⟩ := isX_iff.1 (of_decide_eq_true hx)
    obtain ⟨j, hj, rfl⟩ := List.getElem_of_mem hy
    exact hne j (by omega) _ (List.getElem?_eq_getElem hj) e
  | succ d ih =>
    intro i k hd hi hk hne
    obtain ⟨k, rfl⟩ : ∃ m, k = m + 1 := ⟨k - 1, by omega⟩
    obtain ⟨k, rfl⟩ : ∃ m, k = m + 1 := ⟨k - 1, by omega⟩
    have hlt : i < l.length := by omega
    rw [catchwordref03_Find.l0, if_pos (by omega), catchwordref03_Find.j1, if_pos rfl, if_pos (by omega), if_pos (by omega)]
    by_cases e : (rd_T48 l (i : Int)).f0.toList = a.toList
    · rw [if_pos e]
      unfold findI
      have hx : isX a l = true := decide_eq_true (isX_iff.2 ⟨_, by rw [rd48 l i hlt] at e; exact List.getElem_mem hlt, by rw [rd48 l i hlt] at e; exact e⟩)
      rw [if_pos hx]
      congr 1
      have : posX a l = i := by
        unfold posX
        have hlt2 : i < (namesOf l).length := by unfold namesOf; rw [List.length_map]; exact hlt
        have h1 : (namesOf l)[i] = a.data.toList := by rw [names_at l i hlt, ← toList_data, e, toList_data]
        have hm : a.data.toList ∈ namesOf l := of_decide_eq_true hx
        have hlt3 := List.idxOf_lt_length_of_mem hm
        have h3 := List.getElem_idxOf hlt3
        rcases Nat.lt_trichotomy ((namesOf l).idxOf a.data.toList) i with h4 | h4 | h4
        · exfalso
          have hjl : (namesOf l).idxOf a.data.toList < l.length := by omega
          rw [names_at l _ hjl] at h3
          have := hne _ h4 _ (by rw [List.getElem?_eq_getElem hjl, rd48 l _ hjl] : l[(namesOf l).idxOf a.data.toList]? = some (rd_T48 l (((namesOf l).idxOf a.data.toList : Nat) : Int)))
          rw [toList_data, toList_data] at this
          exact this h3
        · exact h4
        · exfalso
          have h5 := List.not_of_lt_findIdx (p := fun x => x == a.data.toList) (xs := namesOf l) (i := i) h4
          rw [h1] at h5
          simp at h5
      omega
    · rw [if_neg e, w64 i (by omega)]
      refine ih (i + 1) k (by omega) (by omega) (by omega) (fun j hj y hy => ?_)
      by_cases hji : j = i
      · subst hji
        rw [List.getElem?_eq_getElem hlt, ← rd48 l j hlt] at hy
        obtain rfl := Option.some.inj hy
        exact e
      · exact hne j (by omega) y hy
theorem rfind_no (l : List S48) (a : ByteArray) (cap : Int) (k : Nat) (hk : 2 ≤ k) : catchwordref03_Find.l0 k a false 0 cap l = some (-1) := by
  obtain ⟨k, rfl⟩ : ∃ m, k = m + 1 := ⟨k - 1, by omega⟩
  obtain ⟨k, rfl⟩ : ∃ m, k = m + 1 := ⟨k - 1, by omega⟩
  rw [catchwordref03_Find.l0]
  split
  · rw [catchwordref03_Find.j1, if_neg (by simp)]
  · rw [catchwordref03_Find.j1, if_neg (by simp)]
theorem rfind_eq (cap : Int) (l : List S48) (a : ByteArray) (h : Sm l) (k : Nat) (hk : KS ≤ k) : catchwordref03_Find.f k cap l a = some (if mayB cap l = true then findI l a else -1) := by
  unfold catchwordref03_Find.f
  have hk' := hk
  unfold KS at hk'
  rw [rmay_eq cap l h k hk, Option.bind_some]
  cases hm : mayB cap l with
  | true =>
    rw [if_pos rfl]
    have := rfind_l0 l a cap h.1 l.length 0 k (by omega) (by omega) (by have := h.1; omega) (fun j hj => absurd hj (by omega))
    simpa using this
  | false => rw [if_neg (by simp)]; exact rfind_no l a cap k (by omega)
theorem rdo_eq (cap : Int) (l : List S48) (kind : Int) (a b : ByteArray) (dat : List Int) (h : Sm l) (ha : a.size ≤ 100) (hb : b.size ≤ 100) (hd : dat.length ≤ 1000) (k : Nat) (hk : KS ≤ k) :
    catchwordref03_Do.f k cap l kind a b dat = some (cap, (refQ cap l kind a b dat).1, (refQ cap l kind a b dat).2) := by
  have hk' := hk
  unfold KS at hk'
  have h200 := h.1
  have hin : refIn l a b dat = true := by
    simp only [refIn, Bool.and_eq_true, decide_eq_true_eq]
    exact ⟨⟨⟨⟨own_of_sm h, by omega⟩, by unfold gMax; omega⟩, by unfold gMax; omega⟩, by omega⟩
  unfold catchwordref03_Do.f refQ
  rw [if_pos hin, rmay_eq cap l h k hk, name_eq a (by omega) k (by omega), name_eq b (by omega) k (by omega), rused_eq l h k (by omega), rfind_eq cap l a h k hk]
  simp only [Option.bind_some]
  cases hm : mayB cap l with
  | false => simp
  | true =>
    simp only [if_true]
    cases hn : nameB a with
    | false => simp
    | true =>
      simp only [if_true]
      by_cases hkd : kind < 0 ∨ 4 ≤ kind
      · rw [if_pos hkd, if_pos hkd]
      · rw [if_neg hkd, if_neg hkd]
        have hu := usedN_le (fun x hx => (h.2 x hx).1)
        have hok : refOk l (usedN l : Int) (findI l a) = true := by
          simp only [refOk, Bool.and_eq_true, decide_eq_true_eq]
          refine ⟨⟨?_, by omega⟩, by omega⟩
          unfold findI
          split
          · rename_i hx
            have := posX_lt hx
            omega
          · omega
        rw [if_pos hok]
theorem rcrash_eq (cap : Int) (l : List S48) (p : List Int) (h : Sm l) (hp : p.length ≤ 100) (k : Nat) (hk : KS ≤ k) : catchwordref03_Crash.f k cap l p = some (cap, crashQ cap l p) := by
  have h200 := h.1
  unfold catchwordref03_Crash.f crashQ
  rw [if_pos ⟨by omega, by omega⟩, rmay_eq cap l h k hk, Option.bind_some]
  split <;> rfl
end Go.Proofs.Ytaldbabkdoabkaa.Plain

import Derived.Test.YtaldbabkdoabkaaProg
import Derived.Test.YtaldbabkdoabkaaQV
import Derived.Test.YtaldbabkdoabkaaQA
import Derived.Test.YtaldbabkdoabkaaQJ
import Derived.Test.YtaldbabkdoabkaaQL
import Derived.Test.YtaldbabkdoabkaaQU
import Derived.Test.YtaldbabkdoabkaaQW
import Derived.Test.YtaldbabkdoabkaaKL
import Derived.Test.YtaldbabkdoabkaaP0
namespace Go.Proofs.Ytaldbabkdoabkaa.T
open Go.RowKit Go.Proofs.YtaldbabkdoabkaaW.PrintWords Go.Proofs.YtaldbabkdoabkaaW.PrintLast Go.Proofs.YtaldbabkdoabkaaW.PrintMore
attribute [local go_sem] max2_int min2_int max_two min_two max_three min_three max_four min_four   -- for this text's walks alone
set_option linter.unusedVariables false
set_option linter.unusedSimpArgs false
/-! ### DiskSure, in plain words -/
open Go.Proofs.Ytaldbabkdoabkaa.Plain
def Has (cap : Int) (l : List S48) (a : ByteArray) (d : List Int) (s : Bool) : Prop := mayB cap l = true ∧ ∃ x ∈ l, x.f0.toList = a.toList ∧ x.f1 = d ∧ x.f2 = s
theorem Has.is {cap : Int} {l : List S48} {a : ByteArray} {d : List Int} {s : Bool} (h : Has cap l a d s) : isX a l = true ∧ (atX a l).f1 = d ∧ (atX a l).f2 = s := by
  obtain ⟨hm, x, hx, e, e1, e2⟩ := h
  have hi := isX_of hx e
  rw [← at_unique (may_parts hm).2.1 hi hx e]
  exact ⟨hi, e1, e2⟩
theorem sure_small {cap : Int} {l : List S48} {kind : Int} {a b : ByteArray} {d : List Int} {n : Nat} (hl : l.length ≤ n) (hx : ∀ x ∈ l, Okf x) (ha : a.size ≤ 40) (hb : b.size ≤ 40) (hd : d.length ≤ 300) : (doQ cap l kind a b d).1.length ≤ n + 1 ∧ ∀ x ∈ (doQ cap l kind a b d).1, Okf x := by
  have := doQ_small cap l kind a b d hx (by simp [fewO, ha, hb, hd])
  exact ⟨by omega, this.2⟩
theorem sure1 {cap : Int} {l : List S48} {a b : ByteArray} {d : List Int} (h : (doQ cap l 0 a b d).2 = 0) : Has cap (doQ cap l 0 a b d).1 a d false ∧ nameB a = true := by
  obtain ⟨m1, m2, m3, m4, m5⟩ := doQ_may cap l 0 a b d h
  refine ⟨⟨m2, ⟨a, d, false⟩, ?_, rfl, rfl, rfl⟩, m3⟩
  rw [m5] at h ⊢
  unfold doP at h ⊢
  rw [if_pos rfl] at h ⊢
  split at h
  · cases h
  · rename_i h1
    rw [if_neg h1]
    split at h
    · cases h
    · rename_i h2
      rw [if_neg h2]
      exact insX_mem.2 (.inr rfl)
theorem doQ_at {cap : Int} {l : List S48} {kind : Int} {a b : ByteArray} {d : List Int} (hm : mayB cap l = true) (hn : nameB a = true) (hk : ¬ (kind < 0 ∨ 4 ≤ kind)) : doQ cap l kind a b d = doP cap l kind a b d (usedN l : Int) (nameB b) := by
  unfold doQ
  rw [if_pos hm, if_pos hn, if_neg hk]
theorem sure2 {cap : Int} {l : List S48} {a b : ByteArray} {d e : List Int} {s : Bool} (hn : nameB a = true) (h : Has cap l a d s) : (doQ cap l 1 a b e).2 = 0 ∧ Has cap (doQ cap l 1 a b e).1 a d true := by
  obtain ⟨i1, i2, i3⟩ := h.is
  have eq : doQ cap l 1 a b e = (l.set (posX a l) ⟨(atX a l).f0, (atX a l).f1, true⟩, 0) := by
    rw [doQ_at h.1 hn (by decide)]
    unfold doP
    rw [if_neg (by decide), if_pos rfl, if_pos i1]
  have h0 : (doQ cap l 1 a b e).2 = 0 := by rw [eq]
  obtain ⟨m1, m2, _, _, _⟩ := doQ_may cap l 1 a b e h0
  refine ⟨h0, m2, ⟨(atX a l).f0, (atX a l).f1, true⟩, ?_, at_name (may_parts h.1).2.1 i1, i2, rfl⟩
  rw [eq]
  exact List.mem_iff_getElem?.2 ⟨posX a l, by rw [List.getElem?_set_self (posX_lt i1)]⟩
theorem sure3 {cap : Int} {l : List S48} {a b : ByteArray} {d e : List Int} {s : Bool} (hn : nameB a = true) (h : Has cap l a d s) : ((doQ cap l 2 a b e).2 = 0 ∨ (doQ cap l 2 a b e).2 = 1) ∧ ((doQ cap l 2 a b e).2 = 0 → Has cap (doQ cap l 2 a b e).1 b d s) := by
  obtain ⟨i1, i2, i3⟩ := h.is
  have eq : doQ cap l 2 a b e = if nameB b = false then (l, 1) else if (a.toList == b.toList) = true then (l, 0) else (insX ⟨b, (atX a l).f1, (atX a l).f2⟩ (delX b (delX a l)), 0) := by
    rw [doQ_at h.1 hn (by decide)]
    unfold doP
    rw [if_neg (by decide), if_neg (by decide), if_pos rfl, if_pos i1]
  refine ⟨?_, fun h0 => ?_⟩
  · rw [eq]
    split
    · exact .inr rfl
    · split <;> exact .inl rfl
  · obtain ⟨m1, m2, _, _, _⟩ := doQ_may cap l 2 a b e h0
    refine ⟨m2, ?_⟩
    rw [eq] at h0 ⊢
    split at h0
    · cases h0
    · rename_i hb
      rw [if_neg hb]
      split
      · rename_i he
        obtain ⟨_, x, hx, e0, e1, e2⟩ := h
        exact ⟨x, hx, e0.trans (beq_iff_eq.1 he), e1, e2⟩
      · exact ⟨⟨b, (atX a l).f1, (atX a l).f2⟩, insX_mem.2 (.inr rfl), rfl, i2, i3⟩
theorem crashL_keeps : ∀ (l : List S48) (q : List Int) (x : S48), x ∈ l → x.f2 = true → x ∈ crashL l q
  | [], _, x, h, _ => absurd h (by simp)
  | y :: l, q, x, h, hs => by
    have ih := fun q => crashL_keeps l q x
    rcases List.mem_cons.1 h with rfl | h
    · cases q <;> (rw [crashL, if_pos hs]; exact List.mem_cons_self)
    · cases q with
      | nil =>
        rw [crashL]
        split
        · exact List.mem_cons_of_mem _ (ih _ h hs)
        · exact ih _ h hs
      | cons n q =>
        rw [crashL]
        split
        · exact List.mem_cons_of_mem _ (ih _ h hs)
        · split
          · exact ih _ h hs
          · exact List.mem_cons_of_mem _ (ih _ h hs)
theorem crashL_from : ∀ (l : List S48) (q : List Int) (y : S48), y ∈ crashL l q → ∃ x ∈ l, x.f0 = y.f0 ∧ (y = x ∨ ∃ n : Nat, y.f1 = x.f1.take n)
  | [], q, y, h => by cases q <;> exact absurd h (by simp [crashL])
  | x :: l, q, y, h => by
    have up : (∃ x ∈ l, x.f0 = y.f0 ∧ (y = x ∨ ∃ n : Nat, y.f1 = x.f1.take n)) → ∃ z ∈ x :: l, z.f0 = y.f0 ∧ (y = z ∨ ∃ n : Nat, y.f1 = z.f1.take n) := fun ⟨z, hz, g⟩ => ⟨z, List.mem_cons_of_mem _ hz, g⟩
    have ih := fun q h => up (crashL_from l q y h)
    cases q with
    | nil =>
      rw [crashL] at h
      split at h
      · rcases List.mem_cons.1 h with rfl | h
        · exact ⟨y, List.mem_cons_self, rfl, .inl rfl⟩
        · exact ih _ h
      · exact ih _ h
    | cons n q =>
      rw [crashL] at h
      split at h
      · rcases List.mem_cons.1 h with rfl | h
        · exact ⟨y, List.mem_cons_self, rfl, .inl rfl⟩
        · exact ih _ h
      · split at h
        · exact ih _ h
        · rcases List.mem_cons.1 h with rfl | h
          · exact ⟨x, List.mem_cons_self, rfl, .inr ⟨_, rfl⟩⟩
          · exact ih _ h
theorem sure4 {cap : Int} {l : List S48} {b : ByteArray} {d : List Int} {s : Bool} (h : Has cap l b d s) (q : List Int) :
    (s = true → readQ cap (crashQ cap l q) b = (d, 0)) ∧ (∃ n : Nat, n ≤ d.length ∧ (readQ cap (crashQ cap l q) b = (d.take n, 0) ∨ readQ cap (crashQ cap l q) b = (d.take n, 2))) := by
  obtain ⟨i1, i2, i3⟩ := h.is
  obtain ⟨hm, x, hx, e0, e1, e2⟩ := h
  have hc : crashQ cap l q = crashL l q := by unfold crashQ; rw [if_pos hm]
  have hcm := crashL_may q hm
  rw [hc]
  refine ⟨fun hs => ?_, ?_⟩
  · subst hs
    have hin := crashL_keeps l q x hx e2
    have hi := isX_of hin e0
    unfold readQ
    rw [if_pos hcm, if_pos hi, ← at_unique (may_parts hcm).2.1 hi hin e0, e1]
  · unfold readQ
    rw [if_pos hcm]
    cases hi : isX b (crashL l q) with
    | false => exact ⟨0, Nat.zero_le _, .inr (by rw [if_neg (by simp)]; rfl)⟩
    | true =>
      rw [if_pos rfl]
      obtain ⟨z, hz, ez, g⟩ := crashL_from l q _ (atX_mem hi)
      have hze : z.f0.toList = b.toList := by rw [ez]; exact at_name (may_parts hcm).2.1 hi
      have hzx : z = atX b l := at_unique (may_parts hm).2.1 i1 hz hze
      rcases g with g | ⟨n, g⟩
      · refine ⟨d.length, Nat.le_refl _, .inl ?_⟩
        rw [g, hzx, i2, List.take_length]
      · rw [hzx, i2] at g
        refine ⟨min n d.length, Nat.min_le_right _ _, .inl ?_⟩
        rw [g, ← List.take_eq_take_min]
theorem crashQ_small {cap : Int} {l : List S48} (q : List Int) (h : ∀ x ∈ l, Okf x) : (crashQ cap l q).length ≤ l.length ∧ ∀ x ∈ crashQ cap l q, Okf x := by
  unfold crashQ
  split
  · exact crashL_small l q h
  · exact ⟨Nat.le_refl _, h⟩
end Go.Proofs.Ytaldbabkdoabkaa.T

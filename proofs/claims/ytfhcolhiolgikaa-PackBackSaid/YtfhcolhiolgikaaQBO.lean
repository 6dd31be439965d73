import Derived.Test.YtfhcolhiolgikaaQBV
import Derived.Test.YtfhcolhiolgikaaQBH
import Derived.Test.YtfhcolhiolgikaaQBA
import Derived.Test.YtfhcolhiolgikaaQBD
/- Texts of this claim, laid together by a program (merge.py): PY. -/
/- Plain facts for Pack: what is the same is the same; few. -/
namespace Go.Proofs.Ytfhcolhiolgikaa.Plain
set_option linter.unusedVariables false
set_option linter.unusedSimpArgs false
open Go.RowKit Go.Proofs.Ytfhcolhiolgikaa.T Go.Proofs.YtfhcolhiolgikaaW.PrintWords Go.Proofs.YtfhcolhiolgikaaW.PrintLast Go.Proofs.YtfhcolhiolgikaaW.PrintMore
theorem succ_of {f k : Nat} (h : f < k) : ∃ m, k = m + 1 := ⟨k - 1, by omega⟩
theorem ints_loop (l : List Int) (hl : l.length ≤ 1000000) : ∀ (f i k : Nat), f + i = l.length → f < k → catchwordref01_Ints.l0 k l l (i : Int) = some true := by
  intro f
  induction f with
  | zero =>
    intro i k h hk
    obtain ⟨k, rfl⟩ := succ_of hk
    rw [catchwordref01_Ints.l0, if_neg (by omega)]
  | succ f ih =>
    intro i k h hk
    obtain ⟨k, rfl⟩ := succ_of hk
    rw [catchwordref01_Ints.l0, if_pos (by omega), if_pos (by omega), if_pos (by omega), if_pos rfl, wstep (by omega)]
    exact ih (i + 1) k (by omega) (by omega)
theorem ints_same (l : List Int) (hl : l.length ≤ 1000000) (k : Nat) (hk : l.length < k) : catchwordref01_Ints.f k l l = some true := by
  unfold catchwordref01_Ints.f
  rw [if_pos rfl]
  exact ints_loop l hl l.length 0 k rfl hk
theorem texts_loop (l : List ByteArray) (hl : l.length ≤ 1000000) : ∀ (f i k : Nat), f + i = l.length → f < k → catchwordref05_Texts.l0 k l l (i : Int) = some true := by
  intro f
  induction f with
  | zero =>
    intro i k h hk
    obtain ⟨k, rfl⟩ := succ_of hk
    rw [catchwordref05_Texts.l0, if_neg (by omega)]
  | succ f ih =>
    intro i k h hk
    obtain ⟨k, rfl⟩ := succ_of hk
    rw [catchwordref05_Texts.l0, if_pos (by omega), if_pos (by omega), if_pos (by omega), if_pos rfl, wstep (by omega)]
    exact ih (i + 1) k (by omega) (by omega)
theorem texts_same (l : List ByteArray) (hl : l.length ≤ 1000000) (k : Nat) (hk : l.length < k) : catchwordref05_Texts.f k l l = some true := by
  unfold catchwordref05_Texts.f
  rw [if_pos rfl]
  exact texts_loop l hl l.length 0 k rfl hk
theorem posts_loop (l : List S64) (hl : l.length ≤ 250) (ha : ∀ p ∈ l, p.f1.length ≤ 250) : ∀ (f i k : Nat), f + i = l.length → f + 300 < k → catchwordref06_Same.l0 k l l (i : Int) = some true := by
  intro f
  induction f with
  | zero =>
    intro i k h hk
    obtain ⟨k, rfl⟩ := succ_of hk
    rw [catchwordref06_Same.l0, if_neg (by omega)]
  | succ f ih =>
    intro i k h hk
    obtain ⟨k, rfl⟩ := succ_of hk
    have hm := ha _ (rd64_mem l i (by omega))
    rw [catchwordref06_Same.l0, if_pos (by omega), if_pos (by omega), if_pos (by omega), ints_same _ (by omega) k (by omega), Option.bind_some, if_pos rfl, if_pos rfl, wstep (by omega)]
    exact ih (i + 1) k (by omega) (by omega)
theorem posts_same (l : List S64) (hl : l.length ≤ 250) (ha : ∀ p ∈ l, p.f1.length ≤ 250) (k : Nat) (hk : 600 ≤ k) : catchwordref06_Same.f k l l = some true := by
  unfold catchwordref06_Same.f
  rw [if_pos rfl]
  exact posts_loop l hl ha l.length 0 k rfl (by omega)
theorem seg_loop (ids : List ByteArray) (keys lens : List Int) (terms : List S44) (so : Bool) (hl : terms.length ≤ 250) (ha : ∀ t ∈ terms, t.f1.length ≤ 250 ∧ ∀ p ∈ t.f1, p.f1.length ≤ 250) : ∀ (f i k : Nat), f + i = terms.length → f + 700 < k → catchwordref08_Same.l0 k (i : Int) ids keys lens terms so ids keys lens terms so = some true := by
  intro f
  induction f with
  | zero =>
    intro i k h hk
    obtain ⟨k, rfl⟩ := succ_of hk
    rw [catchwordref08_Same.l0, if_neg (by omega)]
  | succ f ih =>
    intro i k h hk
    obtain ⟨k, rfl⟩ := succ_of hk
    have hm := ha _ (rd44_mem terms i (by omega))
    rw [catchwordref08_Same.l0, if_pos (by omega), if_pos (by omega), if_pos (by omega), posts_same _ hm.1 hm.2 k (by omega), Option.bind_some, if_pos rfl, if_pos rfl, wstep (by omega)]
    exact ih (i + 1) k (by omega) (by omega)
/-- A small segment. -/
structure SegSm (ids : List ByteArray) (keys lens : List Int) (terms : List S44) : Prop where
  ni : ids.length ≤ 250
  nk : keys.length ≤ 250
  nl : lens.length ≤ 250
  nt : terms.length ≤ 250
  ps : ∀ t ∈ terms, t.f1.length ≤ 250 ∧ ∀ p ∈ t.f1, p.f1.length ≤ 250
  is : ∀ x ∈ ids, x.size ≤ 100000
theorem seg_same {ids : List ByteArray} {keys lens : List Int} {terms : List S44} {so : Bool} (H : SegSm ids keys lens terms) : catchwordref08_Same.f 1000 ids keys lens terms so ids keys lens terms so = some true := by
  have h1 := H.ni
  have h2 := H.nk
  have h3 := H.nl
  unfold catchwordref08_Same.f
  rw [texts_same ids (by omega) 1000 (by omega), ints_same keys (by omega) 1000 (by omega), ints_same lens (by omega) 1000 (by omega)]
  have e1 : (so != so) = false := by cases so <;> rfl
  have e2 : ((terms.length : Int) != (terms.length : Int)) = false := by simp
  simp only [Option.bind_some, if_pos]
  rw [e1, e2, if_neg (by decide), catchwordref08_Same.j0, if_neg (by decide)]
  exact seg_loop ids keys lens terms so H.nt H.ps terms.length 0 999 rfl (by have := H.nt; omega)
/-! ### few -/
theorem few6_loop (l : List S64) (hl : l.length ≤ 70) : ∀ (f i k : Nat), f + i = l.length → f < k → ∃ r, catchwordlaw06_Few.l0 k l (i : Int) = some r ∧ (r = true → ∀ p ∈ l.drop i, p.f1.length ≤ 130) := by
  intro f
  induction f with
  | zero =>
    intro i k h hk
    obtain ⟨k, rfl⟩ := succ_of hk
    refine ⟨true, by rw [catchwordlaw06_Few.l0, if_neg (by omega)], fun _ p hp => ?_⟩
    rw [List.drop_eq_nil_of_le (by omega)] at hp; cases hp
  | succ f ih =>
    intro i k h hk
    obtain ⟨k, rfl⟩ := succ_of hk
    rw [catchwordlaw06_Few.l0, if_pos (by omega), if_pos (by omega), wstep (by omega)]
    by_cases hc : (((rd_T64 l (i : Int)).f1).length : Int) > 130
    · rw [if_pos hc]
      exact ⟨false, rfl, fun h => by cases h⟩
    · rw [if_neg hc]
      obtain ⟨r, e, hr⟩ := ih (i + 1) k (by omega) (by omega)
      refine ⟨r, e, fun h p hp => ?_⟩
      rw [drop64 l i (by omega)] at hp
      rcases List.mem_cons.1 hp with rfl | hp
      · omega
      · exact hr h p hp
theorem few6 (l : List S64) (k : Nat) (hk : 71 ≤ k) : ∃ r, catchwordlaw06_Few.f k l = some r ∧ (r = true → l.length ≤ 70 ∧ ∀ p ∈ l, p.f1.length ≤ 130) := by
  unfold catchwordlaw06_Few.f
  by_cases hc : (l.length : Int) > 70
  · rw [if_pos hc]
    exact ⟨false, rfl, fun h => by cases h⟩
  · rw [if_neg hc]
    obtain ⟨r, e, hr⟩ := few6_loop l (by omega) l.length 0 k rfl (by omega)
    exact ⟨r, e, fun h => ⟨by omega, hr h⟩⟩
theorem few8_terms (ids : List ByteArray) (keys lens : List Int) (terms : List S44) (so : Bool) (hl : terms.length ≤ 210) : ∀ (f i k : Nat), f + i = terms.length → f + 80 < k → ∃ r, catchwordlaw08_FewSeg.l1 k (i : Int) ids keys lens terms so = some r ∧ (r = true → ∀ t ∈ terms.drop i, t.f1.length ≤ 250 ∧ ∀ p ∈ t.f1, p.f1.length ≤ 250) := by
  intro f
  induction f with
  | zero =>
    intro i k h hk
    obtain ⟨k, rfl⟩ := succ_of hk
    refine ⟨true, by rw [catchwordlaw08_FewSeg.l1, if_neg (by omega)], fun _ p hp => ?_⟩
    rw [List.drop_eq_nil_of_le (by omega)] at hp; cases hp
  | succ f ih =>
    intro i k h hk
    obtain ⟨k, rfl⟩ := succ_of hk
    obtain ⟨r6, e6, h6⟩ := few6 (rd_T44 terms (i : Int)).f1 k (by omega)
    rw [catchwordlaw08_FewSeg.l1, if_pos (by omega), if_pos (by omega), e6, Option.bind_some]
    cases r6 with
    | false => exact ⟨false, by rw [if_neg (by decide)], fun h => by cases h⟩
    | true =>
      rw [if_pos rfl]
      by_cases hc : (((rd_T44 terms (i : Int)).f0).size : Int) > 40
      · rw [if_pos hc]; exact ⟨false, rfl, fun h => by cases h⟩
      · rw [if_neg hc, wstep (by omega)]
        obtain ⟨r, e, hr⟩ := ih (i + 1) k (by omega) (by omega)
        refine ⟨r, e, fun h t ht => ?_⟩
        rw [drop44 terms i (by omega)] at ht
        rcases List.mem_cons.1 ht with rfl | ht
        · have := h6 rfl
          exact ⟨by omega, fun p hp => by have := this.2 p hp; omega⟩
        · exact hr h t ht
theorem few8_ids (ids : List ByteArray) (keys lens : List Int) (terms : List S44) (so : Bool) (hi : ids.length ≤ 70) (hl : terms.length ≤ 210) : ∀ (f i k : Nat), f + i = ids.length → f + 300 < k → ∃ r, catchwordlaw08_FewSeg.l0 k (i : Int) ids keys lens terms so = some r ∧ (r = true → (∀ x ∈ ids.drop i, x.size ≤ 100000) ∧ ∀ t ∈ terms, t.f1.length ≤ 250 ∧ ∀ p ∈ t.f1, p.f1.length ≤ 250) := by
  intro f
  induction f with
  | zero =>
    intro i k h hk
    obtain ⟨k, rfl⟩ := succ_of hk
    rw [catchwordlaw08_FewSeg.l0, if_neg (by omega)]
    obtain ⟨r, e, hr⟩ := few8_terms ids keys lens terms so hl terms.length 0 k rfl (by omega)
    refine ⟨r, e, fun h => ⟨fun x hx => ?_, hr h⟩⟩
    rw [List.drop_eq_nil_of_le (by omega)] at hx; cases hx
  | succ f ih =>
    intro i k h hk
    obtain ⟨k, rfl⟩ := succ_of hk
    rw [catchwordlaw08_FewSeg.l0, if_pos (by omega), if_pos (by omega)]
    by_cases hc : ((rdOf ByteArray.empty ids (i : Int)).size : Int) > 40
    · rw [if_pos hc]; exact ⟨false, rfl, fun h => by cases h⟩
    · rw [if_neg hc, wstep (by omega)]
      obtain ⟨r, e, hr⟩ := ih (i + 1) k (by omega) (by omega)
      refine ⟨r, e, fun h => ⟨fun x hx => ?_, (hr h).2⟩⟩
      rw [dropS ids i (by omega)] at hx
      rcases List.mem_cons.1 hx with rfl | hx
      · omega
      · exact (hr h).1 x hx
theorem few8 (ids : List ByteArray) (keys lens : List Int) (terms : List S44) (so : Bool) : ∃ r, catchwordlaw08_FewSeg.f 500 ids keys lens terms so = some r ∧ (r = true → SegSm ids keys lens terms) := by
  unfold catchwordlaw08_FewSeg.f
  have hj : catchwordlaw08_FewSeg.j0 500 true ids keys lens terms so = some false := by rw [catchwordlaw08_FewSeg.j0, if_pos rfl]
  by_cases h1 : (ids.length : Int) > 70
  · rw [if_pos h1, hj]; exact ⟨false, rfl, fun h => by cases h⟩
  rw [if_neg h1]
  by_cases h2 : (keys.length : Int) > 70
  · rw [if_pos h2, hj]; exact ⟨false, rfl, fun h => by cases h⟩
  rw [if_neg h2]
  by_cases h3 : (lens.length : Int) > 70
  · rw [if_pos h3, hj]; exact ⟨false, rfl, fun h => by cases h⟩
  rw [if_neg h3]
  by_cases h4 : (terms.length : Int) > 210
  · rw [decide_eq_true h4, hj]; exact ⟨false, rfl, fun h => by cases h⟩
  rw [decide_eq_false h4, catchwordlaw08_FewSeg.j0, if_neg (by decide)]
  obtain ⟨r, e, hr⟩ := few8_ids ids keys lens terms so (by omega) (by omega) ids.length 0 499 rfl (by omega)
  exact ⟨r, e, fun h => ⟨by omega, by omega, by omega, by omega, (hr h).2, (hr h).1⟩⟩
end Go.Proofs.Ytfhcolhiolgikaa.Plain

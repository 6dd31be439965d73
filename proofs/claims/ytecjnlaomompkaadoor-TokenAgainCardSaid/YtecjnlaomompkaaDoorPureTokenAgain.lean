/- The pure statement of TokenAgain: each word is a term, and words with a blank between each have the same words. No conditions but the statement's own. -/
import Derived.Test.YtecjnlaomompkaaDoorTx6
import Derived.Test.YtecjnlaomompkaaDoorPE
namespace Go.Proofs.YtecjnlaomompkaaDoor.Pure
open Go.RowKit Go.Proofs.YtecjnlaomompkaaDoor.T Go.Proofs.YtecjnlaomompkaaDoorW.PrintWords Go.Proofs.YtecjnlaomompkaaDoorW.PrintLast Go.Lib Go.Proofs.YtecjnlaomompkaaDoor.PA Go.Proofs.YtecjnlaomompkaaDoor.PC

def joined : List ByteArray → List UInt8
  | [] => []
  | [w] => w.data.toList
  | w :: t => w.data.toList ++ 32 :: joined t
theorem words_nil : words [] = [] := by unfold words; rw [List.nil_append, bw_no let_blank]; rfl
theorem joined_words : ∀ (l : List ByteArray), (∀ w ∈ l, small w.data.toList ∧ 1 ≤ w.size) → words (joined l) = l
  | [], _ => words_nil
  | [w], h => by
    obtain ⟨h1, h2⟩ := h w (List.mem_cons_self)
    rw [joined, words_one h1 (by intro e; rw [size_eq, e] at h2; simp at h2), mkS_data]
  | w :: x :: t, h => by
    obtain ⟨h1, h2⟩ := h w (List.mem_cons_self)
    rw [joined, words_join, words_one h1 (by intro e; rw [size_eq, e] at h2; simp at h2), mkS_data, joined_words (x :: t) (fun y hy => h y (List.mem_cons_of_mem _ hy))]
    · rfl
    · intro h; cases h
theorem joined_valid : ∀ (l : List ByteArray), (∀ w ∈ l, validD w.data.toList = true) → validD (joined l) = true
  | [], _ => rfl
  | [w], h => h w (List.mem_cons_self)
  | w :: x :: t, h => by
    rw [joined, v_blank, h w (List.mem_cons_self), joined_valid (x :: t) (fun y hy => h y (List.mem_cons_of_mem _ hy))]
    · rfl
    · intro h; cases h
theorem joined_len : ∀ (l : List ByteArray), l ≠ [] → (joined l).length + 1 = (l.map (fun w => w.size + 1)).sum
  | [], h => absurd rfl h
  | [w], _ => by rw [joined, List.map_cons, List.map_nil, List.sum_cons, List.sum_nil, size_eq]; rfl
  | w :: x :: t, _ => by
    have := joined_len (x :: t) (by simp)
    rw [joined]
    · rw [List.length_append, List.length_cons, List.map_cons, List.sum_cons, ← this, size_eq]
      omega
    · intro h; cases h
theorem joined_snoc : ∀ (l : List ByteArray) (w : ByteArray), l ≠ [] → joined (l ++ [w]) = joined l ++ 32 :: w.data.toList
  | [], w, h => absurd rfl h
  | [x], w, _ => rfl
  | x :: y :: t, w, _ => by
    have := joined_snoc (y :: t) w (by simp)
    have e : joined (x :: y :: t) = x.data.toList ++ 32 :: joined (y :: t) := by rw [joined]; intro h; cases h
    have e2 : joined (x :: (y :: t ++ [w])) = x.data.toList ++ 32 :: joined (y :: t ++ [w]) := by rw [List.cons_append, joined]; intro h; cases h
    rw [List.cons_append, e2, this, e, List.append_assoc]
    rfl
theorem joined_le : ∀ (l m : List ByteArray), (joined l).length ≤ (joined (l ++ m)).length
  | [], m => by simp [joined]
  | l, [] => by simp
  | x :: l, w :: m => by
    have h1 := joined_len (x :: l) (by simp)
    have h2 := joined_len (x :: l ++ w :: m) (by simp)
    rw [List.map_append, List.sum_append] at h2
    omega
theorem again_loop (a : ByteArray) (ws : List ByteArray) (hc : ws.length ≤ 240) (hm : ∀ w ∈ ws, w.size ≤ 32) (hterm : ∀ w ∈ ws, pTerm w.data.toList = true) (hlen : (joined ws).length ≤ 240) (hpj : pWords (joined ws) = (ws, 0)) (hla : (joined ws).length ≤ a.size) :
    ∀ (d i k : Nat), i + d = ws.length → d + 3000 ≤ k → catchwordlaw05_TokenAgain.l0 k a ws (mkS (joined (ws.take i))) (i : Int) = some true := by
  intro d
  induction d with
  | zero =>
    intro i k hi hk
    obtain ⟨k, rfl⟩ : ∃ m, k = m + 1 := ⟨k - 1, by omega⟩
    rw [catchwordlaw05_TokenAgain.l0, if_neg (by omega), List.take_of_length_le (by omega), Words_eq k _ (by omega), Option.bind_some, mkS_list, hpj, Texts_eq _ _ _ (by dsimp only; omega) (by dsimp only; omega), Option.bind_some, if_pos (by simp), if_pos rfl, mkS_size, decide_eq_true (by omega)]
  | succ d ih =>
    intro i k hi hk
    obtain ⟨k, rfl⟩ : ∃ m, k = m + 1 := ⟨k - 1, by omega⟩
    have hlt : i < ws.length := by omega
    have hm := hm _ (List.getElem_mem hlt)
    have ht := hterm _ (List.getElem_mem hlt)
    have hnext := ih (i + 1) k (by omega) (by omega)
    rw [List.take_succ_eq_append_getElem hlt] at hnext
    have hle : (joined (ws.take i)).length ≤ 240 := by
      have := joined_le (ws.take i) (ws.drop i)
      rw [List.take_append_drop] at this
      omega
    have hws := size_eq ws[i]
    have hwr : wrap64 ((i : Int) + 1) = ((i + 1 : Nat) : Int) := by unfold wrap64; omega
    rw [catchwordlaw05_TokenAgain.l0, if_pos (by omega), if_pos (by omega), rd_of hlt, Term_eq k _ (by omega), Option.bind_some, ht, if_pos rfl, hwr, mkS_size]
    by_cases h0 : (i : Int) > 0
    · have hne : ws.take i ≠ [] := by
        intro e
        have := congrArg List.length e
        rw [List.length_take, List.length_nil] at this
        omega
      rw [joined_snoc _ _ hne] at hnext
      have e1 : (mkS (joined (ws.take i)) ++ (⟨#[32]⟩ : ByteArray)) = mkS (joined (ws.take i) ++ [32]) := mkS_app _ [32]
      have e2 : mkS (joined (ws.take i) ++ [32]) ++ ws[i] = mkS (joined (ws.take i) ++ 32 :: ws[i].data.toList) := by
        conv => lhs; rw [← mkS_data ws[i]]
        rw [mkS_app, List.append_assoc]
        rfl
      rw [if_pos h0, if_pos (by omega), e1, mkS_size, if_pos (by rw [List.length_append]; simp only [List.length_cons, List.length_nil]; omega), e2]
      exact hnext
    · have hi0 : i = 0 := by omega
      subst hi0
      rw [if_neg h0, if_pos (by omega)]
      rw [List.take_zero, List.nil_append] at hnext
      have e2 : mkS (joined (ws.take 0)) ++ ws[0] = mkS (joined [ws[0]]) := by
        conv => lhs; rw [← mkS_data ws[0]]
        rw [mkS_app]
        rfl
      rw [e2]
      exact hnext
theorem TokenAgain : catchwordlaw05_TokenAgain.Pure := by
  intro a ha
  refine ⟨4000, ?_⟩
  have hs := size_eq a
  have key : pWords a.data.toList = (words a.data.toList, 0) ∧ a.data.toList.length ≤ 240 ∧ validD a.data.toList = true ∧ (words a.data.toList).any (fun w => decide (32 < w.size)) = false ∨ ((pWords a.data.toList).1 = [] ∧ ((pWords a.data.toList).2 = 7 ∨ (pWords a.data.toList).2 = 8)) := by
    unfold pWords
    by_cases c1 : 240 < a.data.toList.length
    · rw [if_pos c1]; exact .inr ⟨rfl, .inr rfl⟩
    · rw [if_neg c1]
      by_cases c2 : validD a.data.toList = true
      · rw [if_pos c2]
        by_cases c3 : (words a.data.toList).any (fun w => decide (32 < w.size)) = true
        · rw [if_pos c3]; exact .inr ⟨rfl, .inr rfl⟩
        · rw [if_neg c3]; exact .inl ⟨rfl, by omega, c2, by simpa using c3⟩
      · rw [if_neg c2]; exact .inr ⟨rfl, .inl rfl⟩
  have hj : ∀ t, catchwordlaw05_TokenAgain.j0 4000 a true t = some true := by
    intro t
    rw [show (4000 : Nat) = 3999 + 1 from rfl, catchwordlaw05_TokenAgain.j0]
    cases t with
    | true => rfl
    | false =>
      rw [if_neg (by simp), Words_eq 3999 a (by omega), Option.bind_some]
      rcases key with ⟨hp, h240, hv, hany⟩ | ⟨h1, h2⟩
      · rw [hp, if_pos rfl]
        have hc := words_count a.data.toList
        have hmem : ∀ w ∈ words a.data.toList, small w.data.toList ∧ 1 ≤ w.size ∧ w.size ≤ 32 ∧ validD w.data.toList = true := by
          intro w hw
          refine ⟨bw_small _ _ (fun x hx => by simp at hx) w hw, bw_pos _ _ w hw, ?_, words_valid hv w hw⟩
          have := (List.any_eq_false.1 hany) w hw
          simpa using this
        have hterm : ∀ w ∈ words a.data.toList, pTerm w.data.toList = true := by
          intro w hw
          obtain ⟨m1, m2, m3, m4⟩ := hmem w hw
          have hw1 : words w.data.toList = [w] := by rw [words_one m1 (by intro e; rw [size_eq, e] at m2; simp at m2), mkS_data]
          have hsw := size_eq w
          have hpw : pWords w.data.toList = ([w], 0) := by
            unfold pWords
            rw [if_neg (by omega), if_pos m4, hw1, if_neg (by simp; omega)]
          unfold pTerm
          rw [hpw, mkS_data]
          simp
        have hsum := words_sum a.data.toList
        have hlen : (joined (words a.data.toList)).length ≤ a.data.toList.length := by
          by_cases e : words a.data.toList = []
          · rw [e]; simp [joined]
          · have := joined_len _ e
            omega
        have hpj : pWords (joined (words a.data.toList)) = (words a.data.toList, 0) := by
          unfold pWords
          rw [if_neg (by omega), joined_words _ (fun w hw => ⟨(hmem w hw).1, (hmem w hw).2.1⟩), if_pos (joined_valid _ (fun w hw => (hmem w hw).2.2.2)), if_neg (by rw [hany]; simp)]
        exact again_loop a _ (by omega) (fun w hw => (hmem w hw).2.2.1) hterm (by omega) hpj (by omega) (words a.data.toList).length 0 3999 (by omega) (by omega)
      · have hne : ¬ (pWords a.data.toList).2 = 0 := by omega
        have htf : pTerm a.data.toList = false := by
          unfold pTerm
          rw [decide_eq_false hne]
          rfl
        rw [if_neg hne, h1, if_pos (by simp), Term_eq 3999 a (by omega), Option.bind_some, htf, if_neg (by simp)]
        rcases h2 with h2 | h2
        · rw [if_pos h2]
        · rw [if_neg (by omega), h2]
          rfl
  unfold catchwordlaw05_TokenAgain.f
  rw [awake_eq 4000 (by omega), Option.bind_some, if_pos rfl]
  exact hj _

end Go.Proofs.YtecjnlaomompkaaDoor.Pure

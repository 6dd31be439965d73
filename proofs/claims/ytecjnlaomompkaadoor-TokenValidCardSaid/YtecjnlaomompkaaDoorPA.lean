/- Plain facts on UTF-8 and on the words of a text, over lists of bytes: no program in sight. -/
import Derived.Lib.ValidLaws
namespace Go.Proofs.YtecjnlaomompkaaDoor.PA
open Go.Lib

def lo (b : Nat) : Nat := if b = 224 then 160 else if b = 240 then 144 else 128
def hi (b : Nat) : Nat := if b = 237 then 159 else if b = 244 then 143 else 191
def sgN (n b0 b1 b2 b3 : Nat) : Nat :=
  if b0 < 128 then 1
  else if 194 ≤ b0 ∧ b0 ≤ 223 ∧ 1 < n ∧ 128 ≤ b1 ∧ b1 ≤ 191 then 2
  else if 224 ≤ b0 ∧ b0 ≤ 239 ∧ 1 < n ∧ lo b0 ≤ b1 ∧ b1 ≤ hi b0 ∧ 2 < n ∧ 128 ≤ b2 ∧ b2 ≤ 191 then 3
  else if 240 ≤ b0 ∧ b0 ≤ 244 ∧ 1 < n ∧ lo b0 ≤ b1 ∧ b1 ≤ hi b0 ∧ 2 < n ∧ 128 ≤ b2 ∧ b2 ≤ 191 ∧ 3 < n ∧ 128 ≤ b3 ∧ b3 ≤ 191 then 4
  else 0
def sg (l : List UInt8) : Nat := sgN l.length (l.getD 0 0).toNat (l.getD 1 0).toNat (l.getD 2 0).toNat (l.getD 3 0).toNat

theorem sgN_le (n b0 b1 b2 b3 : Nat) : sgN n b0 b1 b2 b3 ≤ 4 := by
  unfold sgN
  repeat' split
  all_goals omega
theorem sgN_len (n b0 b1 b2 b3 : Nat) (h : 1 ≤ n) : sgN n b0 b1 b2 b3 ≤ n := by
  unfold sgN
  repeat' split
  all_goals omega
set_option maxHeartbeats 4000000 in
theorem dec_bad (n b0 b1 b2 b3 : Nat) (h0 : b0 < 256) (h1 : b1 < 256) (h2 : b2 < 256) (h3 : b3 < 256) (h : sgN n b0 b1 b2 b3 = 0) : decodeN n b0 b1 b2 b3 = (65533, 1) := by
  unfold sgN lo hi at h
  unfold decodeN
  repeat' split at h
  all_goals first
    | (exfalso; omega)
    | skip
  all_goals
    repeat' split
  all_goals first
    | rfl
    | (exfalso; omega)
set_option maxHeartbeats 4000000 in
theorem dec_good (n b0 b1 b2 b3 : Nat) (h0 : b0 < 256) (h1 : b1 < 256) (h2 : b2 < 256) (h3 : b3 < 256) (m : Nat) (hm : sgN n b0 b1 b2 b3 = m) (hp : m ≠ 0) :
    ∃ r, decodeN n b0 b1 b2 b3 = (r, m) ∧ ¬ (r = 65533 ∧ m = 1) ∧
      ((m = 1 ∧ r = b0 ∧ b0 < 128) ∨ (m = 2 ∧ 128 ≤ r ∧ r ≤ 2047 ∧ 192 + r / 64 = b0 ∧ 128 + r % 64 = b1) ∨
        (m = 3 ∧ 2048 ≤ r ∧ r ≤ 65535 ∧ (r < 55296 ∨ 57343 < r) ∧ 224 + r / 4096 = b0 ∧ 128 + r / 64 % 64 = b1 ∧ 128 + r % 64 = b2) ∨
        (m = 4 ∧ 65536 ≤ r ∧ r ≤ 1114111 ∧ 240 + r / 262144 = b0 ∧ 128 + r / 4096 % 64 = b1 ∧ 128 + r / 64 % 64 = b2 ∧ 128 + r % 64 = b3)) := by
  unfold sgN lo hi at hm
  unfold decodeN
  repeat' split at hm
  all_goals first
    | (exfalso; omega)
    | skip
  all_goals
    subst hm
    repeat' split
  all_goals first
    | (exfalso; omega)
    | (refine ⟨_, rfl, ?_, ?_⟩ <;> omega)

/-! ### one sign -/
def Sign (c : List UInt8) : Prop := c ≠ [] ∧ sg c = c.length
theorem sg_le (l : List UInt8) : sg l ≤ 4 := sgN_le _ _ _ _ _
theorem sign_len {c : List UInt8} (h : Sign c) : 1 ≤ c.length ∧ c.length ≤ 4 := by
  have := sg_le c
  have h1 := List.length_pos_iff.2 h.1
  have h2 := h.2
  omega
set_option maxHeartbeats 4000000 in
theorem sgN_local {n n' b0 b1 b2 b3 b0' b1' b2' b3' m : Nat} (hm : sgN n b0 b1 b2 b3 = m) (h0 : m ≠ 0) (hn : m ≤ n') (e0 : b0' = b0) (e1 : 2 ≤ m → b1' = b1) (e2 : 3 ≤ m → b2' = b2) (e3 : 4 ≤ m → b3' = b3) : sgN n' b0' b1' b2' b3' = m := by
  subst e0
  unfold sgN at *
  generalize lo b0' = L at *
  generalize hi b0' = H at *
  by_cases c1 : b0' < 128
  · rw [if_pos c1] at hm ⊢
    exact hm
  · rw [if_neg c1] at hm ⊢
    by_cases c2 : 194 ≤ b0' ∧ b0' ≤ 223 ∧ 1 < n ∧ 128 ≤ b1 ∧ b1 ≤ 191
    · rw [if_pos c2] at hm
      subst hm
      rw [if_pos (by omega)]
    · rw [if_neg c2] at hm
      by_cases c3 : 224 ≤ b0' ∧ b0' ≤ 239 ∧ 1 < n ∧ L ≤ b1 ∧ b1 ≤ H ∧ 2 < n ∧ 128 ≤ b2 ∧ b2 ≤ 191
      · rw [if_pos c3] at hm
        subst hm
        have e1 := e1 (by omega)
        have e2 := e2 (by omega)
        rw [if_neg (by omega), if_pos (by omega)]
      · rw [if_neg c3] at hm
        by_cases c4 : 240 ≤ b0' ∧ b0' ≤ 244 ∧ 1 < n ∧ L ≤ b1 ∧ b1 ≤ H ∧ 2 < n ∧ 128 ≤ b2 ∧ b2 ≤ 191 ∧ 3 < n ∧ 128 ≤ b3 ∧ b3 ≤ 191
        · rw [if_pos c4] at hm
          subst hm
          have e1 := e1 (by omega)
          have e2 := e2 (by omega)
          have e3 := e3 (by omega)
          rw [if_neg (by omega), if_neg (by omega), if_pos (by omega)]
        · rw [if_neg c4] at hm
          omega
theorem getD_app_lt {c r : List UInt8} {i : Nat} (h : i < c.length) : (c ++ r).getD i 0 = c.getD i 0 := by
  simp [List.getD_eq_getElem?_getD, List.getElem?_append_left h]
theorem getD_take_lt {l : List UInt8} {m i : Nat} (h : i < m) : (l.take m).getD i 0 = l.getD i 0 := by
  simp [List.getD_eq_getElem?_getD, h]
theorem sign_app {c : List UInt8} (h : Sign c) (r : List UInt8) : sg (c ++ r) = c.length := by
  have hl := sign_len h
  exact sgN_local h.2 (by omega) (by rw [List.length_append]; omega) (by rw [getD_app_lt (by omega)]) (fun h => by rw [getD_app_lt (by omega)]) (fun h => by rw [getD_app_lt (by omega)]) (fun h => by rw [getD_app_lt (by omega)])
theorem sg_take (l : List UInt8) (hl : l ≠ []) (h : sg l ≠ 0) : sg l ≤ l.length ∧ Sign (l.take (sg l)) := by
  have h1 := List.length_pos_iff.2 hl
  have h2 : sg l ≤ l.length := sgN_len _ _ _ _ _ h1
  refine ⟨h2, ?_⟩
  have h4 : (l.take (sg l)).length = sg l := by rw [List.length_take, Nat.min_eq_left h2]
  constructor
  · intro e
    have h5 := congrArg List.length e
    rw [h4] at h5
    exact h h5
  · rw [h4]
    exact sgN_local rfl h (by rw [h4]; exact Nat.le_refl _) (by rw [getD_take_lt (by omega)]) (fun h => by rw [getD_take_lt (by omega)]) (fun h => by rw [getD_take_lt (by omega)]) (fun h => by rw [getD_take_lt (by omega)])

theorem dec_sign {c : List UInt8} (h : Sign c) (r : List UInt8) : ∃ x, decodeL (c ++ r) = (x, c.length) ∧ ¬ (x = 65533 ∧ c.length = 1) ∧
    ((∃ b : UInt8, c = [b] ∧ x = b.toNat ∧ b.toNat < 128) ∨ (∃ b0 b1 : UInt8, c = [b0, b1] ∧ 128 ≤ x ∧ x ≤ 2047 ∧ 192 + x / 64 = b0.toNat ∧ 128 + x % 64 = b1.toNat) ∨
      (∃ b0 b1 b2 : UInt8, c = [b0, b1, b2] ∧ 2048 ≤ x ∧ x ≤ 65535 ∧ (x < 55296 ∨ 57343 < x) ∧ 224 + x / 4096 = b0.toNat ∧ 128 + x / 64 % 64 = b1.toNat ∧ 128 + x % 64 = b2.toNat) ∨
      (∃ b0 b1 b2 b3 : UInt8, c = [b0, b1, b2, b3] ∧ 65536 ≤ x ∧ x ≤ 1114111 ∧ 240 + x / 262144 = b0.toNat ∧ 128 + x / 4096 % 64 = b1.toNat ∧ 128 + x / 64 % 64 = b2.toNat ∧ 128 + x % 64 = b3.toNat)) := by
  have ha := sign_app h r
  have hl := sign_len h
  rw [decodeL_N]
  obtain ⟨x, h1, h2, h3⟩ := dec_good (c ++ r).length _ _ _ _ ((c ++ r).getD 0 0).toNat_lt ((c ++ r).getD 1 0).toNat_lt ((c ++ r).getD 2 0).toNat_lt ((c ++ r).getD 3 0).toNat_lt c.length ha (by omega)
  refine ⟨x, h1, h2, ?_⟩
  rcases c with _ | ⟨a, _ | ⟨b, _ | ⟨d, _ | ⟨e, _ | ⟨f, t⟩⟩⟩⟩⟩
  · exact absurd rfl h.1
  · simp at h3
    exact .inl ⟨a, rfl, by omega, by omega⟩
  · simp at h3
    exact .inr (.inl ⟨a, b, rfl, by omega, by omega, by omega, by omega⟩)
  · simp at h3
    exact .inr (.inr (.inl ⟨a, b, d, rfl, by omega, by omega, by omega, by omega, by omega, by omega⟩))
  · simp at h3
    exact .inr (.inr (.inr ⟨a, b, d, e, rfl, by omega, by omega, by omega, by omega, by omega, by omega⟩))
  · simp at hl

/-! ### validD -/
theorem v_sign {c : List UInt8} (h : Sign c) (r : List UInt8) : validD (c ++ r) = validD r := by
  obtain ⟨x, h1, h2, _⟩ := dec_sign h r
  rw [validD_step _ (by simp [h.1]), h1, if_neg h2]
  simp
theorem v_bad {l : List UInt8} (hl : l ≠ []) (h : sg l = 0) : validD l = false := by
  rw [validD_step _ hl, decodeL_N, dec_bad _ _ _ _ _ (l.getD 0 0).toNat_lt (l.getD 1 0).toNat_lt (l.getD 2 0).toNat_lt (l.getD 3 0).toNat_lt h, if_pos ⟨rfl, rfl⟩]
theorem v_split {l : List UInt8} (hl : l ≠ []) (h : validD l = true) : ∃ c r, l = c ++ r ∧ Sign c ∧ validD r = true := by
  by_cases h0 : sg l = 0
  · rw [v_bad hl h0] at h; cases h
  · obtain ⟨h1, h2⟩ := sg_take l hl h0
    refine ⟨l.take (sg l), l.drop (sg l), (List.take_append_drop _ _).symm, h2, ?_⟩
    rw [← v_sign h2 (l.drop (sg l)), List.take_append_drop]
    exact h
/-- Induction along the signs of a valid text. -/
theorem v_induct {P : List UInt8 → Prop} (h0 : P []) (h1 : ∀ c r, Sign c → validD r = true → P r → P (c ++ r)) : ∀ (l : List UInt8), validD l = true → P l := by
  intro l
  obtain ⟨n, hn⟩ : ∃ n, l.length ≤ n := ⟨_, Nat.le_refl _⟩
  induction n generalizing l with
  | zero =>
    intro _
    have : l = [] := List.eq_nil_of_length_eq_zero (by omega)
    subst this
    exact h0
  | succ n ih =>
    intro h
    by_cases hl : l = []
    · subst hl; exact h0
    · obtain ⟨c, r, rfl, hc, hr⟩ := v_split hl h
      have := sign_len hc
      rw [List.length_append] at hn
      exact h1 c r hc hr (ih r (by omega) hr)
theorem v_app {a : List UInt8} (ha : validD a = true) (b : List UInt8) : validD (a ++ b) = validD b :=
  v_induct (P := fun a => validD (a ++ b) = validD b) rfl (fun c r hc _ ih => by rw [List.append_assoc, v_sign hc]; exact ih) a ha

/-- The first byte of what begins a sign is no byte within one. -/
theorem sign_head {c : List UInt8} (h : Sign c) : ∃ b t, c = b :: t ∧ ¬ (128 ≤ b.toNat ∧ b.toNat ≤ 191) ∧ (∀ x ∈ t, 128 ≤ x.toNat ∧ x.toNat ≤ 191) ∧ (t ≠ [] → 128 ≤ b.toNat) := by
  obtain ⟨x, _, _, h3⟩ := dec_sign h []
  rcases h3 with ⟨b, rfl, _, _⟩ | ⟨b0, b1, rfl, _, _, _, _⟩ | ⟨b0, b1, b2, rfl, _, _, _, _, _, _⟩ | ⟨b0, b1, b2, b3, rfl, _, _, _, _, _, _⟩
  · exact ⟨b, [], rfl, by omega, by simp, by simp⟩
  · exact ⟨b0, [b1], rfl, by omega, by simp; omega, by simp; omega⟩
  · exact ⟨b0, [b1, b2], rfl, by omega, by simp; omega, by simp; omega⟩
  · exact ⟨b0, [b1, b2, b3], rfl, by omega, by simp; omega, by simp; omega⟩
theorem sg_cont {b : UInt8} (t : List UInt8) (h : 128 ≤ b.toNat ∧ b.toNat ≤ 191) : sg (b :: t) = 0 := by
  simp only [sg, List.getD_cons_zero]
  unfold sgN
  repeat' split
  all_goals omega
/-- A sign that is cut is none. -/
theorem sg_cut {c : List UInt8} (h : Sign c) (j : Nat) (h0 : 0 < j) (hj : j < c.length) : sg (c.take j) = 0 := by
  by_cases e : sg (c.take j) = 0
  · exact e
  · have hne : c.take j ≠ [] := by
      intro e
      have := congrArg List.length e
      rw [List.length_take, List.length_nil] at this
      omega
    obtain ⟨h1, h2⟩ := sg_take _ hne e
    have h3 := sign_app h2 ((c.take j).drop (sg (c.take j)) ++ c.drop j)
    have h4 : (List.take (sg (c.take j)) (c.take j)).length = sg (c.take j) := by rw [List.length_take, Nat.min_eq_left h1]
    rw [← List.append_assoc, List.take_append_drop, List.take_append_drop, h.2, h4] at h3
    rw [List.length_take] at h1
    omega
theorem take_app_ge {a b : List UInt8} {k : Nat} (h : a.length ≤ k) : (a ++ b).take k = a ++ b.take (k - a.length) := by
  rw [List.take_append, List.take_of_length_le h]
theorem drop_app_ge {a b : List UInt8} {k : Nat} (h : a.length ≤ k) : (a ++ b).drop k = b.drop (k - a.length) := by
  rw [List.drop_append, List.drop_of_length_le h, List.nil_append]
theorem v_cut : ∀ (l : List UInt8), validD l = true → ∀ (k : Nat) (h : k < l.length), validD (l.take k) = !decide (128 ≤ (l[k]'h).toNat ∧ (l[k]'h).toNat ≤ 191) ∧ validD (l.drop k) = !decide (128 ≤ (l[k]'h).toNat ∧ (l[k]'h).toNat ≤ 191) := by
  refine v_induct ?_ ?_
  · intro k h; simp at h
  · intro c r hc hr ih k hk
    obtain ⟨b, t, rfl, hb, ht, _⟩ := sign_head hc
    by_cases hkc : (b :: t).length ≤ k
    · have hk' : k - (b :: t).length < r.length := by rw [List.length_append] at hk; omega
      obtain ⟨i1, i2⟩ := ih (k - (b :: t).length) hk'
      rw [take_app_ge hkc, drop_app_ge hkc, v_sign hc, List.getElem_append_right hkc]
      exact ⟨i1, i2⟩
    · rw [List.getElem_append_left (by omega)]
      rcases k with _ | k
      · simp only [List.take_zero, List.drop_zero, List.getElem_cons_zero]
        have hv : validD (b :: t ++ r) = true := by rw [v_sign hc]; exact hr
        rw [hv, validD_nil]
        simp
        omega
      · have hkt : k < t.length := by simp at hkc; omega
        have hx := ht (t[k]) (List.getElem_mem hkt)
        simp only [List.getElem_cons_succ]
        rw [decide_eq_true hx]
        constructor
        · rw [List.take_append_of_le_length (by simp at hkc ⊢; omega)]
          refine v_bad (by simp) (sg_cut hc (k + 1) (by omega) (by simp; omega))
        · rw [List.drop_append_of_le_length (by simp at hkc ⊢; omega)]
          have e : List.drop (k + 1) (b :: t) = t[k] :: t.drop (k + 1) := by rw [List.drop_succ_cons, List.drop_eq_getElem_cons hkt]
          rw [e, List.cons_append]
          exact v_bad (by simp) (sg_cont _ hx)
end Go.Proofs.YtecjnlaomompkaaDoor.PA

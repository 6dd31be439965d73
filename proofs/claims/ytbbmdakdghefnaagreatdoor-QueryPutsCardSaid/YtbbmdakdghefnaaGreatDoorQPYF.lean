import Derived.Test.YtbbmdakdghefnaaGreatDoorQPV
import Derived.Lib.ValidLaws
/- Texts of this claim, laid together by a program (merge.py): KA, KB. -/
/- Plain facts on UTF-8 and on the words of a text, over lists of bytes: no program in sight. -/
namespace Go.Proofs.YtbbmdakdghefnaaGreatDoor.KA
open Go.Proofs.YtbbmdakdghefnaaGreatDoorW.PrintLast
open Go.Lib
def lo (b : Nat) : Nat := if b = 224 then 160 else if b = 240 then 144 else 128
def hi (b : Nat) : Nat := if b = 237 then 159 else if b = 244 then 143 else 191
def sgN (n b0 b1 b2 b3 : Nat) : Nat :=
 if b0 < 128 then 1
 else if 194 ≤ b0 ∧ b0 ≤ 223 ∧ 1 < n ∧ 128 ≤ b1 ∧ b1 ≤ 191 then 2
 else if 224 ≤ b0 ∧ b0 ≤ 239 ∧ 1 < n ∧ lo b0 ≤ b1 ∧ b1 ≤ hi b0 ∧ 2 < n ∧ 128 ≤ b2 ∧ b2 ≤ 191 then 3
 else if 240 ≤ b0 ∧ b0 ≤ 244 ∧ 1 < n ∧ lo b0 ≤ b1 ∧ b1 ≤ hi b0 ∧ 2 < n ∧ 128 ≤ b2 ∧ b2 ≤ 191 ∧ 3 < n ∧ 128 ≤ b3 ∧ b3 ≤ 191 then 4
 else 0
def sg (l : List UInt8) : Nat := sgN l.length (l.getD 0 0).toNat (l.getD 1 0).toNat (l.getD 2 0).toNat (l.getD 3 0).toNat
theorem sgN_le (n b0 b1 b2 b3 : Nat) : sgN n b0 b1 b2 b3 ≤ 4 := by
 unfold sgN
 repeat' split
 all_goals omega
theorem sgN_len (n b0 b1 b2 b3 : Nat) (h : 1 ≤ n) : sgN n b0 b1 b2 b3 ≤ n := by
 unfold sgN
 repeat' split
 all_goals omega
set_option maxHeartbeats 4000000 in
theorem dec_bad (n b0 b1 b2 b3 : Nat) (h0 : b0 < 256) (h1 : b1 < 256) (h2 : b2 < 256) (h3 : b3 < 256) (h : sgN n b0 b1 b2 b3 = 0) : decodeN n b0 b1 b2 b3 = (65533, 1) := by
 unfold sgN lo hi at h; unfold decodeN
 repeat' split at h
 all_goals first
  | (exfalso; omega)
  | skip
 all_goals
  repeat' split
 all_goals first
  | rfl
  | (exfalso; omega)
set_option maxHeartbeats 4000000 in
theorem dec_good (n b0 b1 b2 b3 : Nat) (h0 : b0 < 256) (h1 : b1 < 256) (h2 : b2 < 256) (h3 : b3 < 256) (m : Nat) (hm : sgN n b0 b1 b2 b3 = m) (hp : m ≠ 0) :
  ∃ r, decodeN n b0 b1 b2 b3 = (r, m) ∧ ¬ (r = 65533 ∧ m = 1) ∧
   ((m = 1 ∧ r = b0 ∧ b0 < 128) ∨ (m = 2 ∧ 128 ≤ r ∧ r ≤ 2047 ∧ 192 + r / 64 = b0 ∧ 128 + r % 64 = b1) ∨
    (m = 3 ∧ 2048 ≤ r ∧ r ≤ 65535 ∧ (r < 55296 ∨ 57343 < r) ∧ 224 + r / 4096 = b0 ∧ 128 + r / 64 % 64 = b1 ∧ 128 + r % 64 = b2) ∨
    (m = 4 ∧ 65536 ≤ r ∧ r ≤ 1114111 ∧ 240 + r / 262144 = b0 ∧ 128 + r / 4096 % 64 = b1 ∧ 128 + r / 64 % 64 = b2 ∧ 128 + r % 64 = b3)) := by
 unfold sgN lo hi at hm; unfold decodeN
 repeat' split at hm
 all_goals first
  | (exfalso; omega)
  | skip
 all_goals
  subst hm
  repeat' split
 all_goals first
  | (exfalso; omega)
  | (refine ⟨_, rfl, ?_, ?_⟩ <;> omega)
def Sign (c : List UInt8) : Prop := c ≠ [] ∧ sg c = c.length
theorem sg_le (l : List UInt8) : sg l ≤ 4 := sgN_le _ _ _ _ _
theorem sign_len {c : List UInt8} (h : Sign c) : 1 ≤ c.length ∧ c.length ≤ 4 := by
 have := sg_le c; have h1 := List.length_pos_iff.2 h.1; have h2 := h.2; omega
set_option maxHeartbeats 4000000 in
theorem sgN_local {n n' b0 b1 b2 b3 b0' b1' b2' b3' m : Nat} (hm : sgN n b0 b1 b2 b3 = m) (h0 : m ≠ 0) (hn : m ≤ n') (e0 : b0' = b0) (e1 : 2 ≤ m → b1' = b1) (e2 : 3 ≤ m → b2' = b2) (e3 : 4 ≤ m → b3' = b3) : sgN n' b0' b1' b2' b3' = m := by
 subst e0; unfold sgN at *; generalize lo b0' = L at *; generalize hi b0' = H at *
 by_cases c1 : b0' < 128
 ·
  rw [if_pos c1] at hm ⊢; exact hm
 ·
  rw [if_neg c1] at hm ⊢
  by_cases c2 : 194 ≤ b0' ∧ b0' ≤ 223 ∧ 1 < n ∧ 128 ≤ b1 ∧ b1 ≤ 191
  ·
   rw [if_pos c2] at hm; subst hm; rw [if_pos z161_]
  ·
   rw [if_neg c2] at hm
   by_cases c3 : 224 ≤ b0' ∧ b0' ≤ 239 ∧ 1 < n ∧ L ≤ b1 ∧ b1 ≤ H ∧ 2 < n ∧ 128 ≤ b2 ∧ b2 ≤ 191
   ·
    rw [if_pos c3] at hm; subst hm; have e1 := e1 z161_; have e2 := e2 z161_; rw [if_neg z161_, if_pos z161_]
   ·
    rw [if_neg c3] at hm
    by_cases c4 : 240 ≤ b0' ∧ b0' ≤ 244 ∧ 1 < n ∧ L ≤ b1 ∧ b1 ≤ H ∧ 2 < n ∧ 128 ≤ b2 ∧ b2 ≤ 191 ∧ 3 < n ∧ 128 ≤ b3 ∧ b3 ≤ 191
    ·
     rw [if_pos c4] at hm; subst hm; have e1 := e1 z161_; have e2 := e2 z161_; have e3 := e3 z161_; rw [if_neg z161_, if_neg z161_, if_pos z161_]
    ·
     rw [if_neg c4] at hm; omega
theorem getD_app_lt {c r : List UInt8} {i : Nat} (h : i < c.length) : (c ++ r).getD i 0 = c.getD i 0 := by
 simp [List.getD_eq_getElem?_getD, List.getElem?_append_left h]
theorem getD_take_lt {l : List UInt8} {m i : Nat} (h : i < m) : (l.take m).getD i 0 = l.getD i 0 := by
 simp [List.getD_eq_getElem?_getD, h]
theorem sign_app {c : List UInt8} (h : Sign c) (r : List UInt8) : sg (c ++ r) = c.length := by
 have hl := sign_len h; exact sgN_local h.2 z161_ (by rw [List.length_append]; omega) (by rw [getD_app_lt z161_]) (fun h => by rw [getD_app_lt z161_]) (fun h => by rw [getD_app_lt z161_]) (fun h => by rw [getD_app_lt z161_])
theorem sg_take (l : List UInt8) (hl : l ≠ []) (h : sg l ≠ 0) : sg l ≤ l.length ∧ Sign (l.take (sg l)) := by
 have h1 := List.length_pos_iff.2 hl; have h2 : sg l ≤ l.length := sgN_len _ _ _ _ _ h1; refine ⟨h2, ?_⟩
 have h4 : (l.take (sg l)).length = sg l := by rw [List.length_take, Nat.min_eq_left h2]
 constructor
 ·
  intro e; have h5 := congrArg List.length e; rw [h4] at h5; exact h h5
 ·
  rw [h4]; exact sgN_local rfl h (by rw [h4]; exact Nat.le_refl _) (by rw [getD_take_lt z161_]) (fun h => by rw [getD_take_lt z161_]) (fun h => by rw [getD_take_lt z161_]) (fun h => by rw [getD_take_lt z161_])
theorem dec_sign {c : List UInt8} (h : Sign c) (r : List UInt8) : ∃ x, decodeL (c ++ r) = (x, c.length) ∧ ¬ (x = 65533 ∧ c.length = 1) ∧
  ((∃ b : UInt8, c = [b] ∧ x = b.toNat ∧ b.toNat < 128) ∨ (∃ b0 b1 : UInt8, c = [b0, b1] ∧ 128 ≤ x ∧ x ≤ 2047 ∧ 192 + x / 64 = b0.toNat ∧ 128 + x % 64 = b1.toNat) ∨
   (∃ b0 b1 b2 : UInt8, c = [b0, b1, b2] ∧ 2048 ≤ x ∧ x ≤ 65535 ∧ (x < 55296 ∨ 57343 < x) ∧ 224 + x / 4096 = b0.toNat ∧ 128 + x / 64 % 64 = b1.toNat ∧ 128 + x % 64 = b2.toNat) ∨
   (∃ b0 b1 b2 b3 : UInt8, c = [b0, b1, b2, b3] ∧ 65536 ≤ x ∧ x ≤ 1114111 ∧ 240 + x / 262144 = b0.toNat ∧ 128 + x / 4096 % 64 = b1.toNat ∧ 128 + x / 64 % 64 = b2.toNat ∧ 128 + x % 64 = b3.toNat)) := by
 have ha := sign_app h r; have hl := sign_len h; rw [decodeL_N]; obtain ⟨x, h1, h2, h3⟩ := dec_good (c ++ r).length _ _ _ _ ((c ++ r).getD 0 0).toNat_lt ((c ++ r).getD 1 0).toNat_lt ((c ++ r).getD 2 0).toNat_lt ((c ++ r).getD 3 0).toNat_lt c.length ha z161_; refine ⟨x, h1, h2, ?_⟩
 rcases c with _ | ⟨a, _ | ⟨b, _ | ⟨d, _ | ⟨e, _ | ⟨f, t⟩⟩⟩⟩⟩
 · exact absurd rfl h.1
 ·
  simp at h3
  exact .inl ⟨a, rfl, z161_, z161_⟩
 ·
  simp at h3
  exact .inr (.inl ⟨a, b, rfl, z161_, z161_, z161_, z161_⟩)
 ·
  simp at h3
  exact .inr (.inr (.inl ⟨a, b, d, rfl, z161_, z161_, z161_, z161_, z161_, z161_⟩))
 ·
  simp at h3
  exact .inr (.inr (.inr ⟨a, b, d, e, rfl, z161_, z161_, z161_, z161_, z161_, z161_⟩))
 · simp at hl
theorem v_sign {c : List UInt8} (h : Sign c) (r : List UInt8) : validD (c ++ r) = validD r := by
 obtain ⟨x, h1, h2, _⟩ := dec_sign h r; rw [validD_step _ (by simp [h.1]), h1, if_neg h2]
 simp
theorem v_bad {l : List UInt8} (hl : l ≠ []) (h : sg l = 0) : validD l = false := by
 rw [validD_step _ hl, decodeL_N, dec_bad _ _ _ _ _ (l.getD 0 0).toNat_lt (l.getD 1 0).toNat_lt (l.getD 2 0).toNat_lt (l.getD 3 0).toNat_lt h, if_pos ⟨rfl, rfl⟩]
theorem v_split {l : List UInt8} (hl : l ≠ []) (h : validD l = true) : ∃ c r, l = c ++ r ∧ Sign c ∧ validD r = true := by
 by_cases h0 : sg l = 0
 · rw [v_bad hl h0] at h; cases h
 ·
  obtain ⟨h1, h2⟩ := sg_take l hl h0; refine ⟨l.take (sg l), l.drop (sg l), (List.take_append_drop _ _).symm, h2, ?_⟩; rw [← v_sign h2 (l.drop (sg l)), List.take_append_drop]; exact h
/-- Induction along the signs of a valid text. -/
theorem v_induct {P : List UInt8 → Prop} (h0 : P []) (h1 : ∀ c r, Sign c → validD r = true → P r → P (c ++ r)) : ∀ (l : List UInt8), validD l = true → P l := by
 intro l; obtain ⟨n, hn⟩ : ∃ n, l.length ≤ n := ⟨_, Nat.le_refl _⟩
 induction n generalizing l with
 | zero =>
  intro _; have : l = [] := List.eq_nil_of_length_eq_zero z161_; subst this; exact h0
 | succ n ih =>
  intro h
  by_cases hl : l = []
  · subst hl; exact h0
  ·
   obtain ⟨c, r, rfl, hc, hr⟩ := v_split hl h; have := sign_len hc; rw [List.length_append] at hn; exact h1 c r hc hr (ih r z161_ hr)
end Go.Proofs.YtbbmdakdghefnaaGreatDoor.KA
/- Plain facts on the words of a text, over lists of bytes: no program in sight. -/
namespace Go.Proofs.YtbbmdakdghefnaaGreatDoor.KA
open Go.Proofs.YtbbmdakdghefnaaGreatDoorW.PrintLast
open Go.Lib
def letN (n : Nat) : Bool := decide (97 ≤ n ∧ n ≤ 122) || decide (65 ≤ n ∧ n ≤ 90) || decide (48 ≤ n ∧ n ≤ 57) || decide (128 ≤ n)
def lowN (n : Nat) : Nat := if 65 ≤ n ∧ n ≤ 90 then n + 32 else n
def letB (b : UInt8) : Bool := letN b.toNat
def lowB (b : UInt8) : UInt8 := UInt8.ofNat (lowN b.toNat)
theorem lowB_toNat (b : UInt8) : (lowB b).toNat = lowN b.toNat := by
 have := b.toNat_lt; simp only [lowB, UInt8.toNat_ofNat']; rw [Nat.mod_eq_of_lt]; unfold lowN
 split <;> omega
theorem u8_ext {a b : UInt8} (h : a.toNat = b.toNat) : a = b := UInt8.toNat_inj.1 h
theorem let_high {b : UInt8} (h : 128 ≤ b.toNat) : letB b = true ∧ lowB b = b := by
 constructor
 ·
  unfold letB letN; simp [h]
 ·
  apply u8_ext; rw [lowB_toNat]; unfold lowN
  split <;> omega
theorem let_blank : letB 32 = false := by decide
def mkS (l : List UInt8) : ByteArray := ⟨l.toArray⟩
theorem mkS_size (l : List UInt8) : (mkS l).size = l.length := by simp [mkS, ByteArray.size]
def bw : List UInt8 → List UInt8 → List ByteArray
 | [], _ => []
 | b :: t, now => if letB b = true then bw t (now ++ [lowB b]) else if now = [] then bw t [] else mkS now :: bw t []
def words (l : List UInt8) : List ByteArray := bw (l ++ [32]) []
theorem bw_let {b : UInt8} (h : letB b = true) (t now : List UInt8) : bw (b :: t) now = bw t (now ++ [lowB b]) := by simp [bw, h]
theorem bw_no {b : UInt8} (h : letB b = false) (t now : List UInt8) : bw (b :: t) now = if now = [] then bw t [] else mkS now :: bw t [] := by simp [bw, h]
theorem bw_count : ∀ (l now : List UInt8), 2 * (bw l now).length ≤ l.length + (if now = [] then 0 else 1)
 | [], now => by simp [bw]
 | x :: l, now => by
  cases h : letB x with
  | true =>
   rw [bw_let h]; have := bw_count l (now ++ [lowB x]); rw [if_neg z219_] at this; simp only [List.length_cons]; omega
  | false =>
   rw [bw_no h]; have := bw_count l []; rw [if_pos rfl] at this
   split <;> simp only [List.length_cons] <;> omega
theorem words_count (l : List UInt8) : 2 * (words l).length ≤ l.length + 1 := by
 have := bw_count (l ++ [32]) []; rw [if_pos rfl, List.length_append] at this; exact this
def small (l : List UInt8) : Prop := ∀ x ∈ l, letB x = true ∧ lowB x = x
theorem bw_all : ∀ (a : List UInt8), small a → ∀ (r now : List UInt8), bw (a ++ r) now = bw r (now ++ a)
 | [], _, r, now => by simp
 | x :: a, hs, r, now => by
  have hx := hs x (List.mem_cons_self); rw [List.cons_append, bw_let hx.1, hx.2, bw_all a (fun y hy => hs y (List.mem_cons_of_mem _ hy)), List.append_assoc]
  rfl
theorem small_high {c : List UInt8} (h : ∀ x ∈ c, 128 ≤ x.toNat) : small c := fun x hx => let_high (h x hx)
theorem low_ascii {b : UInt8} (h : b.toNat < 128) : (lowB b).toNat < 128 := by
 rw [lowB_toNat]; unfold lowN
 split <;> omega
def pWords (l : List UInt8) : List ByteArray × Int :=
 if 240 < l.length then ([], 8) else if validD l = true then (if (words l).any (fun w => decide (32 < w.size)) = true then ([], 8) else (words l, 0)) else ([], 7)
def pTerm (l : List UInt8) : Bool := decide ((pWords l).2 = 0) && decide ((pWords l).1 = [mkS l])
end Go.Proofs.YtbbmdakdghefnaaGreatDoor.KA

/- Plain facts on the words of a text, over lists of bytes: no program in sight. -/
import Derived.Test.YtecjnlaomompkaaDoorPA
namespace Go.Proofs.YtecjnlaomompkaaDoor.PA
open Go.Lib

def letN (n : Nat) : Bool := decide (97 ≤ n ∧ n ≤ 122) || decide (65 ≤ n ∧ n ≤ 90) || decide (48 ≤ n ∧ n ≤ 57) || decide (128 ≤ n)
def lowN (n : Nat) : Nat := if 65 ≤ n ∧ n ≤ 90 then n + 32 else n
def upN (n : Nat) : Nat := if 97 ≤ n ∧ n ≤ 122 then n - 32 else n
def letB (b : UInt8) : Bool := letN b.toNat
def lowB (b : UInt8) : UInt8 := UInt8.ofNat (lowN b.toNat)
def upB (b : UInt8) : UInt8 := UInt8.ofNat (upN b.toNat)
theorem lowB_toNat (b : UInt8) : (lowB b).toNat = lowN b.toNat := by
  have := b.toNat_lt
  simp only [lowB, UInt8.toNat_ofNat']
  rw [Nat.mod_eq_of_lt]
  unfold lowN
  split <;> omega
theorem upB_toNat (b : UInt8) : (upB b).toNat = upN b.toNat := by
  have := b.toNat_lt
  simp only [upB, UInt8.toNat_ofNat']
  rw [Nat.mod_eq_of_lt]
  unfold upN
  split <;> omega
theorem u8_ext {a b : UInt8} (h : a.toNat = b.toNat) : a = b := UInt8.toNat_inj.1 h
theorem low_low (b : UInt8) : lowB (lowB b) = lowB b := by
  apply u8_ext
  rw [lowB_toNat, lowB_toNat]
  unfold lowN
  repeat' split
  all_goals omega
theorem let_low (b : UInt8) : letB (lowB b) = letB b := by
  have h := b.toNat_lt
  unfold letB
  rw [lowB_toNat]
  unfold lowN letN
  rw [Bool.eq_iff_iff]
  simp only [Bool.or_eq_true, decide_eq_true_eq]
  split <;> omega
theorem low_up (b : UInt8) : lowB (upB b) = lowB b := by
  apply u8_ext
  rw [lowB_toNat, lowB_toNat, upB_toNat]
  unfold lowN upN
  repeat' split
  all_goals omega
theorem let_up (b : UInt8) : letB (upB b) = letB b := by
  unfold letB
  rw [upB_toNat]
  unfold upN letN
  rw [Bool.eq_iff_iff]
  simp only [Bool.or_eq_true, decide_eq_true_eq]
  split <;> omega
theorem let_high {b : UInt8} (h : 128 ≤ b.toNat) : letB b = true ∧ lowB b = b := by
  constructor
  · unfold letB letN
    simp [h]
  · apply u8_ext
    rw [lowB_toNat]
    unfold lowN
    split <;> omega
theorem let_blank : letB 32 = false := by decide

def mkS (l : List UInt8) : ByteArray := ⟨l.toArray⟩
theorem mkS_size (l : List UInt8) : (mkS l).size = l.length := by simp [mkS, ByteArray.size]
theorem mkS_list (l : List UInt8) : (mkS l).data.toList = l := by simp [mkS]
def bw : List UInt8 → List UInt8 → List ByteArray
  | [], _ => []
  | b :: t, now => if letB b = true then bw t (now ++ [lowB b]) else if now = [] then bw t [] else mkS now :: bw t []
def words (l : List UInt8) : List ByteArray := bw (l ++ [32]) []

theorem bw_let {b : UInt8} (h : letB b = true) (t now : List UInt8) : bw (b :: t) now = bw t (now ++ [lowB b]) := by simp [bw, h]
theorem bw_no {b : UInt8} (h : letB b = false) (t now : List UInt8) : bw (b :: t) now = if now = [] then bw t [] else mkS now :: bw t [] := by simp [bw, h]
theorem bw_blank : ∀ (a b now : List UInt8), bw (a ++ 32 :: b) now = bw (a ++ [32]) now ++ bw b []
  | [], b, now => by
    rw [List.nil_append, List.nil_append, bw_no let_blank, bw_no let_blank]
    split <;> simp [bw]
  | x :: a, b, now => by
    rw [List.cons_append, List.cons_append]
    cases h : letB x with
    | true => rw [bw_let h, bw_let h, bw_blank a b]
    | false =>
      rw [bw_no h, bw_no h, bw_blank a b]
      split <;> simp
theorem words_join (a b : List UInt8) : words (a ++ 32 :: b) = words a ++ words b := by
  unfold words
  rw [List.append_assoc, List.cons_append, bw_blank]
theorem bw_up : ∀ (l now : List UInt8), bw (l.map upB) now = bw l now
  | [], _ => rfl
  | x :: l, now => by
    rw [List.map_cons]
    cases h : letB x with
    | true => rw [bw_let h, bw_let (by rw [let_up]; exact h), low_up, bw_up l]
    | false => rw [bw_no h, bw_no (by rw [let_up]; exact h), bw_up l]
theorem words_up (l : List UInt8) : words (l.map upB) = words l := by
  unfold words
  have : l.map upB ++ [32] = (l ++ [32]).map upB := by rw [List.map_append]; rfl
  rw [this, bw_up]
theorem bw_count : ∀ (l now : List UInt8), 2 * (bw l now).length ≤ l.length + (if now = [] then 0 else 1)
  | [], now => by simp [bw]
  | x :: l, now => by
    cases h : letB x with
    | true =>
      rw [bw_let h]
      have := bw_count l (now ++ [lowB x])
      rw [if_neg (by simp)] at this
      simp only [List.length_cons]
      omega
    | false =>
      rw [bw_no h]
      have := bw_count l []
      rw [if_pos rfl] at this
      split <;> simp only [List.length_cons] <;> omega
theorem words_count (l : List UInt8) : 2 * (words l).length ≤ l.length + 1 := by
  have := bw_count (l ++ [32]) []
  rw [if_pos rfl, List.length_append] at this
  exact this
theorem bw_pos : ∀ (l now : List UInt8), ∀ w ∈ bw l now, 1 ≤ w.size
  | [], now, w, h => by simp [bw] at h
  | x :: l, now, w, h => by
    cases hx : letB x with
    | true => rw [bw_let hx] at h; exact bw_pos l _ w h
    | false =>
      rw [bw_no hx] at h
      split at h
      · exact bw_pos l _ w h
      · rename_i hn
        rcases List.mem_cons.1 h with rfl | h
        · rw [mkS_size]; exact List.length_pos_iff.2 hn
        · exact bw_pos l _ w h
def small (l : List UInt8) : Prop := ∀ x ∈ l, letB x = true ∧ lowB x = x
theorem bw_small : ∀ (l now : List UInt8), small now → ∀ w ∈ bw l now, small w.data.toList
  | [], now, _, w, h => by simp [bw] at h
  | x :: l, now, hs, w, h => by
    cases hx : letB x with
    | true =>
      rw [bw_let hx] at h
      refine bw_small l _ ?_ w h
      intro y hy
      rcases List.mem_append.1 hy with hy | hy
      · exact hs y hy
      · rw [List.mem_singleton.1 hy]
        exact ⟨by rw [let_low]; exact hx, low_low x⟩
    | false =>
      rw [bw_no hx] at h
      have h0 : small [] := fun x hx => by simp at hx
      split at h
      · exact bw_small l _ h0 w h
      · rcases List.mem_cons.1 h with rfl | h
        · rw [mkS_list]; exact hs
        · exact bw_small l _ h0 w h
theorem bw_all : ∀ (a : List UInt8), small a → ∀ (r now : List UInt8), bw (a ++ r) now = bw r (now ++ a)
  | [], _, r, now => by simp
  | x :: a, hs, r, now => by
    have hx := hs x (List.mem_cons_self)
    rw [List.cons_append, bw_let hx.1, hx.2, bw_all a (fun y hy => hs y (List.mem_cons_of_mem _ hy)), List.append_assoc]
    rfl
theorem words_one {a : List UInt8} (hs : small a) (hn : a ≠ []) : words a = [mkS a] := by
  unfold words
  rw [bw_all a hs, List.nil_append, bw_no let_blank, if_neg hn]
  rfl
theorem bw_sum : ∀ (l now : List UInt8), ((bw l now).map (fun w => w.size + 1)).sum ≤ l.length + now.length
  | [], now => by simp [bw]
  | x :: l, now => by
    cases h : letB x with
    | true =>
      rw [bw_let h]
      have := bw_sum l (now ++ [lowB x])
      rw [List.length_append] at this
      simp only [List.length_cons, List.length_nil] at *
      omega
    | false =>
      rw [bw_no h]
      have := bw_sum l []
      split
      · simp only [List.length_cons, List.length_nil] at *
        omega
      · simp only [List.map_cons, List.sum_cons, List.length_cons, List.length_nil, mkS_size] at *
        omega
theorem words_sum (l : List UInt8) : ((words l).map (fun w => w.size + 1)).sum ≤ l.length + 1 := by
  have := bw_sum (l ++ [32]) []
  rw [List.length_append] at this
  exact this

/-! ### validity and words -/
theorem v_ascii {b : UInt8} (h : b.toNat < 128) (r : List UInt8) : validD (b :: r) = validD r := validD_cons b r h
theorem sign_cases {c : List UInt8} (h : Sign c) : (∃ b, c = [b] ∧ b.toNat < 128) ∨ (∀ x ∈ c, 128 ≤ x.toNat) := by
  obtain ⟨b, t, rfl, _, ht, hb⟩ := sign_head h
  by_cases e : t = []
  · subst e
    by_cases h1 : b.toNat < 128
    · exact .inl ⟨b, rfl, h1⟩
    · exact .inr (by simp; omega)
  · refine .inr (fun x hx => ?_)
    rcases List.mem_cons.1 hx with rfl | hx
    · exact hb e
    · exact (ht x hx).1
theorem small_high {c : List UInt8} (h : ∀ x ∈ c, 128 ≤ x.toNat) : small c := fun x hx => let_high (h x hx)
theorem low_ascii {b : UInt8} (h : b.toNat < 128) : (lowB b).toNat < 128 := by
  rw [lowB_toNat]
  unfold lowN
  split <;> omega
theorem bw_valid : ∀ (l : List UInt8), validD l = true → ∀ now, validD now = true → ∀ w ∈ bw (l ++ [32]) now, validD w.data.toList = true := by
  refine v_induct ?_ ?_
  · intro now hn w hw
    rw [List.nil_append, bw_no let_blank] at hw
    split at hw
    · simp [bw] at hw
    · rcases List.mem_cons.1 hw with rfl | hw
      · rw [mkS_list]; exact hn
      · simp [bw] at hw
  · intro c r hc hr ih now hn w hw
    rw [List.append_assoc] at hw
    rcases sign_cases hc with ⟨b, rfl, hb⟩ | hh
    · rw [List.cons_append, List.nil_append] at hw
      cases hx : letB b with
      | true =>
        rw [bw_let hx] at hw
        exact ih _ (by rw [v_app hn, v_ascii (low_ascii hb)]; rfl) w hw
      | false =>
        rw [bw_no hx] at hw
        split at hw
        · exact ih _ rfl w hw
        · rcases List.mem_cons.1 hw with rfl | hw
          · rw [mkS_list]; exact hn
          · exact ih _ rfl w hw
    · rw [bw_all c (small_high hh)] at hw
      exact ih _ (by rw [v_app hn]; have := v_sign hc []; rw [List.append_nil] at this; rw [this]; rfl) w hw
theorem words_valid {l : List UInt8} (h : validD l = true) : ∀ w ∈ words l, validD w.data.toList = true := bw_valid l h [] rfl
theorem v_blank {a b : List UInt8} : validD (a ++ 32 :: b) = (validD a && validD b) := by
  cases ha : validD a with
  | true => rw [v_app ha, v_ascii (by decide), Bool.true_and]
  | false =>
    rw [Bool.false_and]
    cases h : validD (a ++ 32 :: b) with
    | false => rfl
    | true =>
      have := (v_cut _ h a.length (by simp)).1
      rw [List.take_left', ha] at this
      · simp at this
      · rfl
set_option maxHeartbeats 4000000 in
theorem sgN_up (n b0 b1 b2 b3 : Nat) : sgN n (upN b0) (upN b1) (upN b2) (upN b3) = sgN n b0 b1 b2 b3 := by
  unfold sgN
  by_cases c1 : b0 < 128
  · rw [if_pos c1, if_pos (by unfold upN; split <;> omega)]
  · have e0 : upN b0 = b0 := by unfold upN; rw [if_neg (by omega)]
    rw [e0, if_neg c1, if_neg c1]
    have hL : 128 ≤ lo b0 := by unfold lo; (repeat' split) <;> omega
    have hH : 143 ≤ hi b0 := by unfold hi; (repeat' split) <;> omega
    generalize lo b0 = L at *
    generalize hi b0 = H at *
    have h1 : ∀ x, (upN x < 128 ↔ x < 128) ∧ (128 ≤ x → upN x = x) := by
      intro x
      unfold upN
      split <;> omega
    have g1 := h1 b1
    have g2 := h1 b2
    have g3 := h1 b3
    generalize upN b1 = u1 at *
    generalize upN b2 = u2 at *
    generalize upN b3 = u3 at *
    have q2 : (194 ≤ b0 ∧ b0 ≤ 223 ∧ 1 < n ∧ 128 ≤ u1 ∧ u1 ≤ 191) ↔ (194 ≤ b0 ∧ b0 ≤ 223 ∧ 1 < n ∧ 128 ≤ b1 ∧ b1 ≤ 191) := by omega
    have q3 : (224 ≤ b0 ∧ b0 ≤ 239 ∧ 1 < n ∧ L ≤ u1 ∧ u1 ≤ H ∧ 2 < n ∧ 128 ≤ u2 ∧ u2 ≤ 191) ↔ (224 ≤ b0 ∧ b0 ≤ 239 ∧ 1 < n ∧ L ≤ b1 ∧ b1 ≤ H ∧ 2 < n ∧ 128 ≤ b2 ∧ b2 ≤ 191) := by omega
    have q4 : (240 ≤ b0 ∧ b0 ≤ 244 ∧ 1 < n ∧ L ≤ u1 ∧ u1 ≤ H ∧ 2 < n ∧ 128 ≤ u2 ∧ u2 ≤ 191 ∧ 3 < n ∧ 128 ≤ u3 ∧ u3 ≤ 191) ↔ (240 ≤ b0 ∧ b0 ≤ 244 ∧ 1 < n ∧ L ≤ b1 ∧ b1 ≤ H ∧ 2 < n ∧ 128 ≤ b2 ∧ b2 ≤ 191 ∧ 3 < n ∧ 128 ≤ b3 ∧ b3 ≤ 191) := by omega
    simp only [q2, q3, q4]
theorem getD_up (l : List UInt8) (i : Nat) : ((l.map upB).getD i 0).toNat = upN (l.getD i 0).toNat := by
  rw [List.getD_eq_getElem?_getD, List.getD_eq_getElem?_getD, List.getElem?_map]
  cases l[i]? with
  | none => rfl
  | some x => exact upB_toNat x
theorem sg_up (l : List UInt8) : sg (l.map upB) = sg l := by
  unfold sg
  rw [getD_up, getD_up, getD_up, getD_up, List.length_map, sgN_up]
theorem v_step {l : List UInt8} (hl : l ≠ []) (h : sg l ≠ 0) : validD l = validD (l.drop (sg l)) := by
  obtain ⟨h1, h2⟩ := sg_take l hl h
  conv => lhs; rw [← List.take_append_drop (sg l) l]
  exact v_sign h2 _
theorem v_up : ∀ (n : Nat) (l : List UInt8), l.length ≤ n → validD (l.map upB) = validD l
  | 0, l, h => by
    have : l = [] := List.eq_nil_of_length_eq_zero (by omega)
    subst this
    rfl
  | n + 1, l, h => by
    by_cases hl : l = []
    · subst hl; rfl
    · by_cases h0 : sg l = 0
      · rw [v_bad hl h0, v_bad (by simpa using hl) (by rw [sg_up]; exact h0)]
      · rw [v_step hl h0, v_step (by simpa using hl) (by rw [sg_up]; exact h0), sg_up, ← List.map_drop]
        exact v_up n _ (by rw [List.length_drop]; omega)

/-! ### what the words of a text are told as -/
def pWords (l : List UInt8) : List ByteArray × Int :=
  if 240 < l.length then ([], 8) else if validD l = true then (if (words l).any (fun w => decide (32 < w.size)) = true then ([], 8) else (words l, 0)) else ([], 7)
def pTerm (l : List UInt8) : Bool := decide ((pWords l).2 = 0) && decide ((pWords l).1 = [mkS l])
end Go.Proofs.YtecjnlaomompkaaDoor.PA

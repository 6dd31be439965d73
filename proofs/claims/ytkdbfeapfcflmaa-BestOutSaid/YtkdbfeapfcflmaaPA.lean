/- Plain facts for Best: a heap that keeps the first few of a row, and a row that is put in order one by one, tell the same. -/
namespace Go.Proofs.Ytkdbfeapfcflmaa.Plain
section
variable {α : Type} (d : α) (lt : α → α → Bool)
def g (h : List α) (i : Nat) : α := h.getD i d
def sw (h : List α) (i j : Nat) : List α := (h.set i (g d h j)).set j (g d h i)
def up (h : List α) (i : Nat) : List α :=
  if hi : i = 0 then h else if lt (g d h ((i - 1) / 2)) (g d h i) then up (sw d h ((i - 1) / 2) i) ((i - 1) / 2) else h
termination_by i
decreasing_by omega
/-- the worst of a node and its two children -/
def low1 (h : List α) (last k : Nat) : Nat := if k < h.length then (if lt (g d h last) (g d h k) then k else last) else last
def low (h : List α) (i : Nat) : Nat := low1 d lt h (low1 d lt h i (2 * i + 1)) (2 * i + 2)
def down : Nat → List α → Nat → List α
  | 0, h, _ => h
  | k + 1, h, i => if low d lt h i = i then h else down k (sw d h i (low d lt h i)) (low d lt h i)
def put (most : Nat) (h : List α) (x : α) : List α :=
  if h.length < most then up d lt (h ++ [x]) h.length
  else if 0 < most ∧ lt x (g d h 0) = true then down d lt h.length (h.set 0 x) 0 else h
def ins : List α → α → List α
  | [], x => [x]
  | y :: l, x => if lt y x then y :: ins l x else x :: y :: l

theorem sw_length (h : List α) (i j : Nat) : (sw d h i j).length = h.length := by simp [sw]
theorem g_sw (h : List α) (i j k : Nat) (hi : i < h.length) (hj : j < h.length) : g d (sw d h i j) k = if k = j then g d h i else if k = i then g d h j else g d h k := by
  unfold sw g
  simp only [List.getD_eq_getElem?_getD, List.getElem?_set, List.length_set]
  by_cases e1 : k = j
  · subst e1; simp [hj]
  · by_cases e2 : k = i
    · subst e2; simp [hi, e1, Ne.symm e1]
    · simp [e1, e2, Ne.symm e1, Ne.symm e2]
theorem sw_perm (h : List α) (i j : Nat) (hi : i < h.length) (hj : j < h.length) : (sw d h i j).Perm h := by
  have := List.set_set_perm (as := h) hi hj
  unfold sw g
  simpa [List.getD_eq_getElem?_getD, hi, hj] using this
theorem up_length (h : List α) (i : Nat) : (up d lt h i).length = h.length := by
  fun_induction up d lt h i with
  | case1 => rfl
  | case2 h i hi hlt ih => rw [ih, sw_length]
  | case3 => rfl
theorem up_perm (h : List α) (i : Nat) (hl : i < h.length) : (up d lt h i).Perm h := by
  fun_induction up d lt h i with
  | case1 => exact List.Perm.refl _
  | case2 h i hi hlt ih => exact (ih (by rw [sw_length]; omega)).trans (sw_perm d h _ _ (by omega) hl)
  | case3 => exact List.Perm.refl _
theorem low1_lt (h : List α) (last k : Nat) (hl : last < h.length) : low1 d lt h last k < h.length := by
  unfold low1; split <;> (try split) <;> omega
theorem low_lt (h : List α) (i : Nat) (hl : i < h.length) : low d lt h i < h.length := low1_lt d lt h _ _ (low1_lt d lt h _ _ hl)
theorem low_or (h : List α) (i : Nat) : low d lt h i = i ∨ low d lt h i = 2 * i + 1 ∨ low d lt h i = 2 * i + 2 := by
  unfold low low1; split <;> split <;> (try split) <;> (try split) <;> simp_all
theorem down_length : ∀ (k : Nat) (h : List α) (i : Nat), (down d lt k h i).length = h.length
  | 0, h, i => rfl
  | k + 1, h, i => by
    unfold down; split
    · rfl
    · rw [down_length k, sw_length]
theorem down_perm : ∀ (k : Nat) (h : List α) (i : Nat), i < h.length → (down d lt k h i).Perm h
  | 0, h, i, _ => List.Perm.refl _
  | k + 1, h, i, hl => by
    unfold down; split
    · exact List.Perm.refl _
    · exact (down_perm k _ _ (by rw [sw_length]; exact low_lt d lt h i hl)).trans (sw_perm d h _ _ hl (low_lt d lt h i hl))
/-! the order -/
structure Order (D : α → Prop) : Prop where
  irr : ∀ a, D a → lt a a = false
  tr : ∀ a b c, D a → D b → D c → lt a b = true → lt b c = true → lt a c = true
  tot : ∀ a b, D a → D b → a ≠ b → lt a b = true ∨ lt b a = true
variable {d lt} {D : α → Prop}
theorem Order.asymm (o : Order lt D) {a b : α} (ha : D a) (hb : D b) (h : lt a b = true) : lt b a = false := by
  cases h' : lt b a with
  | false => rfl
  | true => exact absurd (o.tr a b a ha hb ha h h') (by simp [o.irr a ha])
theorem Order.ge_tr (o : Order lt D) {a b c : α} (ha : D a) (hb : D b) (hc : D c) (h : lt a b = false) (k : lt b c = false) : lt a c = false := by
  by_cases e : a = b
  · subst e; exact k
  · by_cases e' : b = c
    · subst e'; exact h
    · have h1 := (o.tot a b ha hb e).resolve_left (by simp [h])
      have h2 := (o.tot b c hb hc e').resolve_left (by simp [k])
      exact o.asymm hc ha (o.tr c b a hc hb ha h2 h1)
def Heap (d : α) (lt : α → α → Bool) (h : List α) : Prop := ∀ i, 0 < i → i < h.length → lt (g d h ((i - 1) / 2)) (g d h i) = false
theorem g_mem (d : α) (h : List α) (i : Nat) (hi : i < h.length) : g d h i ∈ h := by
  unfold g; rw [List.getD_eq_getElem?_getD, List.getElem?_eq_getElem hi]; exact List.getElem_mem hi
theorem up_heap (o : Order lt D) (h : List α) (i : Nat) (hD : ∀ x ∈ h, D x) (hl : i < h.length)
    (h1 : ∀ j, 0 < j → j < h.length → j ≠ i → lt (g d h ((j - 1) / 2)) (g d h j) = false)
    (h2 : ∀ j, 0 < j → j < h.length → (j - 1) / 2 = i → 0 < i → lt (g d h ((i - 1) / 2)) (g d h j) = false) : Heap d lt (up d lt h i) := by
  fun_induction up d lt h i with
  | case1 h => intro j hj hjl; exact h1 j hj hjl (by omega)
  | case2 h i hi hlt ih =>
    have hp : (i - 1) / 2 < h.length := by omega
    have hD' : ∀ k, k < h.length → D (g d h k) := fun k hk => hD _ (g_mem d h k hk)
    have hne : (i - 1) / 2 ≠ i := by omega
    apply ih (fun x hx => hD x ((sw_perm d h _ _ hp hl).subset hx)) (by rw [sw_length]; omega)
    · intro j hj hjl hjn
      rw [sw_length] at hjl
      rw [g_sw d h _ _ _ hp hl, g_sw d h _ _ _ hp hl]
      by_cases e : j = i
      · subst e
        rw [if_neg hne, if_pos rfl, if_pos rfl]
        exact o.asymm (hD' _ hp) (hD' _ hl) hlt
      · rw [if_neg e, if_neg hjn]
        by_cases e2 : (j - 1) / 2 = i
        · rw [if_pos e2]; exact h2 j hj hjl e2 (by omega)
        · rw [if_neg e2]
          by_cases e3 : (j - 1) / 2 = (i - 1) / 2
          · rw [if_pos e3]
            refine o.ge_tr (hD' _ hl) (hD' _ hp) (hD' _ hjl) (o.asymm (hD' _ hp) (hD' _ hl) hlt) ?_
            rw [← e3]; exact h1 j hj hjl e
          · rw [if_neg e3]; exact h1 j hj hjl e
    · intro j hj hjl hjp hpos
      rw [sw_length] at hjl
      rw [g_sw d h _ _ _ hp hl, g_sw d h _ _ _ hp hl]
      have q1 : ((i - 1) / 2 - 1) / 2 ≠ i := by omega
      have q2 : ((i - 1) / 2 - 1) / 2 ≠ (i - 1) / 2 := by omega
      have hq := h1 ((i - 1) / 2) hpos hp (by omega)
      rw [if_neg q1, if_neg q2]
      by_cases e : j = i
      · rw [if_pos e]; exact hq
      · have e2 : j ≠ (i - 1) / 2 := by omega
        rw [if_neg e, if_neg e2]
        refine o.ge_tr (hD' _ (by omega)) (hD' _ hp) (hD' _ hjl) hq ?_
        rw [← hjp]; exact h1 j hj hjl e
  | case3 h i hi hlt =>
    intro j hj hjl
    by_cases e : j = i
    · subst e; simpa using hlt
    · exact h1 j hj hjl e
theorem low1_ge (o : Order lt D) (h : List α) (last k : Nat) (hD : ∀ x ∈ h, D x) (hl : last < h.length) : (lt (g d h (low1 d lt h last k)) (g d h last) = false) ∧ (k < h.length → lt (g d h (low1 d lt h last k)) (g d h k) = false) := by
  unfold low1
  have hD' : ∀ k, k < h.length → D (g d h k) := fun k hk => hD _ (g_mem d h k hk)
  by_cases hk : k < h.length
  · rw [if_pos hk]
    cases e : lt (g d h last) (g d h k) with
    | true => simp only [if_true]; exact ⟨o.asymm (hD' _ hl) (hD' _ hk) e, fun _ => o.irr _ (hD' _ hk)⟩
    | false => simp only [Bool.false_eq_true, if_false]; exact ⟨o.irr _ (hD' _ hl), fun _ => e⟩
  · rw [if_neg hk]; exact ⟨o.irr _ (hD' _ hl), fun h => absurd h hk⟩
theorem low_ge (o : Order lt D) (h : List α) (i : Nat) (hD : ∀ x ∈ h, D x) (hl : i < h.length) : lt (g d h (low d lt h i)) (g d h i) = false ∧ ∀ j, 0 < j → j < h.length → (j - 1) / 2 = i → lt (g d h (low d lt h i)) (g d h j) = false := by
  have hD' : ∀ k, k < h.length → D (g d h k) := fun k hk => hD _ (g_mem d h k hk)
  have a := low1_ge (d := d) o h i (2 * i + 1) hD hl
  have l1 := low1_lt d lt h i (2 * i + 1) hl
  have b := low1_ge (d := d) o h (low1 d lt h i (2 * i + 1)) (2 * i + 2) hD l1
  have l2 := low_lt d lt h i hl
  refine ⟨o.ge_tr (hD' _ l2) (hD' _ l1) (hD' _ hl) b.1 a.1, fun j hj hjl hp => ?_⟩
  have : j = 2 * i + 1 ∨ j = 2 * i + 2 := by omega
  rcases this with rfl | rfl
  · exact o.ge_tr (hD' _ l2) (hD' _ l1) (hD' _ hjl) b.1 (a.2 hjl)
  · exact b.2 hjl
theorem down_heap (o : Order lt D) : ∀ (k : Nat) (h : List α) (i : Nat), h.length ≤ k + i → (∀ x ∈ h, D x) → i < h.length →
    (∀ j, 0 < j → j < h.length → (j - 1) / 2 ≠ i → lt (g d h ((j - 1) / 2)) (g d h j) = false) →
    (∀ j, 0 < j → j < h.length → (j - 1) / 2 = i → 0 < i → lt (g d h ((i - 1) / 2)) (g d h j) = false) → Heap d lt (down d lt k h i)
  | 0, h, i, hk, hD, hl, h1, h2 => by omega
  | k + 1, h, i, hk, hD, hl, h1, h2 => by
    have hD' : ∀ k, k < h.length → D (g d h k) := fun k hk => hD _ (g_mem d h k hk)
    obtain ⟨b1, b2⟩ := low_ge (d := d) o h i hD hl
    have hll := low_lt d lt h i hl
    unfold down
    by_cases e : low d lt h i = i
    · rw [if_pos e]
      intro j hj hjl
      by_cases hp : (j - 1) / 2 = i
      · rw [hp]; have := b2 j hj hjl hp; rwa [e] at this
      · exact h1 j hj hjl hp
    · rw [if_neg e]
      have hpar : (low d lt h i - 1) / 2 = i ∧ 0 < low d lt h i ∧ i < low d lt h i := by have := low_or d lt h i; omega
      refine down_heap o k _ _ (by rw [sw_length]; omega) (fun x hx => hD x ((sw_perm d h _ _ hl hll).subset hx)) (by rw [sw_length]; exact hll) ?_ ?_
      · intro j hj hjl hjp
        rw [sw_length] at hjl
        rw [g_sw d h _ _ _ hl hll, g_sw d h _ _ _ hl hll, if_neg hjp]
        by_cases e1 : j = low d lt h i
        · rw [if_pos e1, if_pos (by rw [e1]; exact hpar.1)]; exact b1
        · rw [if_neg e1]
          by_cases e2 : (j - 1) / 2 = i
          · rw [if_pos e2, if_neg (by omega)]; exact b2 j hj hjl e2
          · rw [if_neg e2]
            by_cases e3 : j = i
            · rw [if_pos e3]
              subst e3
              have := h2 (low d lt h j) hpar.2.1 hll hpar.1 hj
              exact this
            · rw [if_neg e3]; exact h1 j hj hjl e2
      · intro j hj hjl hjp hpos
        rw [sw_length] at hjl
        rw [hpar.1, g_sw d h _ _ _ hl hll, g_sw d h _ _ _ hl hll, if_neg (by omega), if_pos rfl, if_neg (by omega), if_neg (by omega)]
        rw [← hjp]
        exact h1 j hj hjl (by omega)
theorem heap_root (o : Order lt D) (h : List α) (hD : ∀ x ∈ h, D x) (hh : Heap d lt h) : ∀ i, i < h.length → lt (g d h 0) (g d h i) = false := by
  have hD' : ∀ k, k < h.length → D (g d h k) := fun k hk => hD _ (g_mem d h k hk)
  intro i
  induction i using Nat.strongRecOn with
  | ind i ih =>
    intro hi
    by_cases e : i = 0
    · subst e; exact o.irr _ (hD' _ hi)
    · exact o.ge_tr (hD' _ (by omega)) (hD' _ (by omega)) (hD' _ hi) (ih ((i - 1) / 2) (by omega) (by omega)) (hh i (by omega) hi)
/-- what has been put in is split into those that are kept and others, behind all of them -/
def Kept (d : α) (lt : α → α → Bool) (most : Nat) (all h : List α) : Prop := ∃ rest, (h ++ rest).Perm all ∧ Heap d lt h ∧ h.length = min most all.length ∧ ∀ x ∈ h, ∀ r ∈ rest, lt x r = true
theorem put_kept (o : Order lt D) (most : Nat) (all h : List α) (x : α) (hD : ∀ y ∈ all, D y) (hx : D x) (hn : (all ++ [x]).Nodup) (hk : Kept d lt most all h) : Kept d lt most (all ++ [x]) (put d lt most h x) := by
  obtain ⟨rest, hp, hh, hl, ha⟩ := hk
  have hlen := hp.length_eq
  rw [List.length_append] at hlen
  have hDh : ∀ y ∈ h, D y := fun y hy => hD y (hp.subset (by simp [hy]))
  have hDr : ∀ y ∈ rest, D y := fun y hy => hD y (hp.subset (by simp [hy]))
  have hxn : x ∉ all := by
    intro hm
    have := List.nodup_append.1 hn
    exact this.2.2 x hm x (by simp) rfl
  unfold put
  by_cases c1 : h.length < most
  · rw [if_pos c1]
    have hr : rest = [] := List.eq_nil_of_length_eq_zero (by omega)
    subst hr
    rw [List.append_nil] at hp
    have hup := up_perm d lt (h ++ [x]) h.length (by simp)
    refine ⟨[], ?_, ?_, ?_, by simp⟩
    · rw [List.append_nil]; exact hup.trans (hp.append_right [x])
    · refine up_heap o _ _ (fun y hy => ?_) (by simp) ?_ ?_
      · rcases List.mem_append.1 hy with h1 | h1
        · exact hDh y h1
        · simp only [List.mem_singleton] at h1; subst h1; exact hx
      · intro j hj hjl hjn
        simp only [List.length_append, List.length_cons, List.length_nil] at hjl
        have e : ∀ k, k < h.length → g d (h ++ [x]) k = g d h k := fun k hk => by unfold g; simp [List.getD_eq_getElem?_getD, List.getElem?_append_left hk]
        rw [e _ (by omega), e _ (by omega)]
        exact hh j hj (by omega)
      · intro j hj hjl hjp hpos
        simp only [List.length_append, List.length_cons, List.length_nil] at hjl
        omega
    · rw [up_length]; simp; omega
  · rw [if_neg c1]
    have hml : h.length = most := by omega
    by_cases c2 : 0 < most ∧ lt x (g d h 0) = true
    · rw [if_pos c2]
      have h0 : 0 < h.length := by omega
      have hgm := g_mem d h 0 h0
      cases h with
      | nil => simp at h0
      | cons a t =>
      have ga : g d (a :: t) 0 = a := rfl
      rw [ga] at c2 hgm
      have hset : (a :: t).set 0 x = x :: t := rfl
      rw [hset]
      have hnd : (a :: t ++ rest).Nodup := hp.nodup_iff.2 (List.nodup_append.1 hn).1
      have hna : a ∉ t ++ rest := (List.nodup_cons.1 hnd).1
      have hdp := down_perm d lt (a :: t).length (x :: t) 0 (by simp)
      have hDx : ∀ y ∈ x :: t, D y := fun y hy => by
        rcases List.mem_cons.1 hy with rfl | h1
        · exact hx
        · exact hDh y (by simp [h1])
      have hroot := heap_root (d := d) o (a :: t) hDh hh
      refine ⟨a :: rest, ?_, ?_, ?_, ?_⟩
      · refine (hdp.append_right _).trans ?_
        refine List.Perm.trans ?_ ((hp.append_right [x]))
        have e1 : (x :: t ++ a :: rest).Perm (x :: (a :: t ++ rest)) := by
          simp only [List.cons_append]
          exact (List.perm_middle).cons x
        refine e1.trans ?_
        exact (List.perm_append_comm (l₁ := [x]) (l₂ := a :: t ++ rest))
      · refine down_heap o _ _ _ (by simp) hDx (by simp) ?_ ?_
        · intro j hj hjl hjp
          have e : ∀ k, 0 < k → g d (x :: t) k = g d (a :: t) k := fun k hk => by
            obtain ⟨m, rfl⟩ : ∃ m, k = m + 1 := ⟨k - 1, by omega⟩
            simp [g]
          rw [e _ (by omega), e _ hj]
          exact hh j hj (by simpa using hjl)
        · intro j hj hjl hjp hpos; omega
      · rw [down_length]; simp at hl hml ⊢; omega
      · intro y hy r hr
        have hy' : y = x ∨ y ∈ t := by simpa using hdp.subset hy
        have hya : lt y a = true := by
          rcases hy' with rfl | hyt
          · exact c2.2
          · obtain ⟨i, hi, hie⟩ := List.getElem_of_mem hyt
            have hr := hroot (i + 1) (by simp; omega)
            have eg : g d (a :: t) (i + 1) = y := by simp [g, List.getD_eq_getElem?_getD, hi, hie]
            rw [ga, eg] at hr
            exact (o.tot a y (hDh a (by simp)) (hDh y (by simp [hyt])) (fun e => hna (by subst e; simp [hyt]))).resolve_left (by simp [hr])
        rcases List.mem_cons.1 hr with rfl | hr'
        · exact hya
        · exact o.tr y a r (hDx y (by simpa using hy')) (hDh a (by simp)) (hDr r hr') hya (ha a (by simp) r hr')
    · rw [if_neg c2]
      refine ⟨x :: rest, ?_, hh, by simp; omega, ?_⟩
      · have e1 : (h ++ x :: rest).Perm (x :: (h ++ rest)) := List.perm_middle
        exact e1.trans ((hp.cons x).trans (List.perm_append_comm (l₁ := [x]) (l₂ := all)))
      · intro y hy r hr
        have h0 : 0 < h.length := List.length_pos_of_mem hy
        have hgm := g_mem d h 0 h0
        have hroot := heap_root (d := d) o h hDh hh
        have hxg : lt (g d h 0) x = true := (o.tot _ _ (hDh _ hgm) hx (fun e => hxn (hp.subset (by rw [← e]; simp [hgm])))).resolve_right (fun e => c2 ⟨by omega, e⟩)
        have hyx : lt y x = true := by
          obtain ⟨i, hi, hie⟩ := List.getElem_of_mem hy
          have hr := hroot i hi
          have eg : g d h i = y := by simp [g, List.getD_eq_getElem?_getD, hi, hie]
          rw [eg] at hr
          by_cases e : g d h 0 = y
          · rw [← e]; exact hxg
          · exact o.tr _ _ _ (hDh y hy) (hDh _ hgm) hx ((o.tot _ _ (hDh _ hgm) (hDh y hy) e).resolve_left (by simp [hr])) hxg
        rcases List.mem_cons.1 hr with rfl | hr'
        · exact hyx
        · exact ha y hy r hr'
theorem fold_kept (o : Order lt D) (most : Nat) : ∀ (l all h : List α), (∀ y ∈ all ++ l, D y) → (all ++ l).Nodup → Kept d lt most all h → Kept d lt most (all ++ l) (l.foldl (put d lt most) h)
  | [], all, h, _, _, hk => by simpa using hk
  | x :: l, all, h, hD, hn, hk => by
    have e : all ++ x :: l = (all ++ [x]) ++ l := by simp
    rw [e] at hD hn ⊢
    exact fold_kept o most l (all ++ [x]) _ hD hn (put_kept o most all h x (fun y hy => hD y (by simp [hy])) (hD x (by simp)) (List.nodup_append.1 hn).1 hk)
/-! put in order, one by one -/
def Lt (lt : α → α → Bool) (a b : α) : Prop := lt a b = true
theorem ins_perm : ∀ (l : List α) (x : α), (ins lt l x).Perm (x :: l)
  | [], x => List.Perm.refl _
  | y :: l, x => by
    unfold ins; split
    · exact ((ins_perm l x).cons y).trans (List.Perm.swap x y l)
    · exact List.Perm.refl _
theorem ins_sorted (o : Order lt D) : ∀ (l : List α) (x : α), (∀ y ∈ l, D y) → D x → x ∉ l → l.Pairwise (Lt lt) → (ins lt l x).Pairwise (Lt lt)
  | [], x, _, _, _, _ => by simp [ins]
  | y :: l, x, hD, hx, hn, hp => by
    have hp' := List.pairwise_cons.1 hp
    unfold ins; split
    · rename_i h
      refine List.pairwise_cons.2 ⟨fun z hz => ?_, ins_sorted o l x (fun z hz => hD z (by simp [hz])) hx (fun hm => hn (by simp [hm])) hp'.2⟩
      rcases List.mem_cons.1 ((ins_perm l x).subset hz) with rfl | hz'
      · exact h
      · exact hp'.1 z hz'
    · rename_i h
      have hxy : lt x y = true := (o.tot x y hx (hD y (by simp)) (fun e => hn (by simp [e]))).resolve_right (by simpa using h)
      refine List.pairwise_cons.2 ⟨fun z hz => ?_, hp⟩
      rcases List.mem_cons.1 hz with rfl | hz'
      · exact hxy
      · exact o.tr x y z hx (hD y (by simp)) (hD z (by simp [hz'])) hxy (hp'.1 z hz')
theorem foldl_ins_perm : ∀ (l a : List α), (l.foldl (ins lt) a).Perm (a ++ l)
  | [], a => by simp
  | x :: l, a => by
    refine (foldl_ins_perm l (ins lt a x)).trans ?_
    have e : (ins lt a x ++ l).Perm ((x :: a) ++ l) := (ins_perm a x).append_right l
    exact e.trans (by simpa using (List.perm_middle (l₁ := a) (a := x) (l₂ := l)).symm)
theorem foldl_ins_sorted (o : Order lt D) : ∀ (l a : List α), (∀ y ∈ a ++ l, D y) → (a ++ l).Nodup → a.Pairwise (Lt lt) → (l.foldl (ins lt) a).Pairwise (Lt lt)
  | [], a, _, _, hp => hp
  | x :: l, a, hD, hn, hp => by
    have hpm : (ins lt a x ++ l).Perm (a ++ x :: l) := ((ins_perm a x).append_right l).trans (by simpa using (List.perm_middle (l₁ := a) (a := x) (l₂ := l)).symm)
    refine foldl_ins_sorted o l _ (fun y hy => hD y (hpm.subset hy)) (hpm.nodup_iff.2 hn) (ins_sorted o a x (fun y hy => hD y (by simp [hy])) (hD x (by simp)) ?_ hp)
    intro hm
    exact (List.nodup_append.1 hn).2.2 x hm x (by simp) rfl
/-- whatever is sorted and has the same ones is the same -/
theorem sorted_eq (o : Order lt D) {a b : List α} (ha : ∀ y ∈ a, D y) (hp : a.Perm b) (h1 : a.Pairwise (Lt lt)) (h2 : b.Pairwise (Lt lt)) : a = b :=
  List.Perm.eq_of_pairwise (le := Lt lt) (fun x y hx hy h h' => absurd (o.asymm (ha x hx) (ha y (hp.symm.subset hy)) h) (by rw [show lt y x = true from h']; simp)) h1 h2 hp
def sorted (lt : α → α → Bool) (l : List α) : List α := l.foldl (ins lt) []
theorem sorted_perm (l : List α) : (sorted lt l).Perm l := by
  have := foldl_ins_perm (lt := lt) l []
  rwa [List.nil_append] at this
theorem sorted_sorted (o : Order lt D) (l : List α) (hD : ∀ y ∈ l, D y) (hn : l.Nodup) : (sorted lt l).Pairwise (Lt lt) := foldl_ins_sorted o l [] (by simpa using hD) (by simpa using hn) List.Pairwise.nil
/-- THE HEAP'S LAW: what a heap of few keeps, in order, are the first few of all in order. -/
theorem heap_tells (o : Order lt D) (most : Nat) (l s : List α) (hD : ∀ y ∈ l, D y) (hn : l.Nodup) (hs : s.Perm (l.foldl (put d lt most) [])) (hss : s.Pairwise (Lt lt)) : s = (sorted lt l).take most := by
  obtain ⟨rest, hp, _, hl, ha⟩ := fold_kept (d := d) o most l [] [] (by simpa using hD) (by simpa using hn) ⟨[], by simp, fun i h1 h2 => by simp at h2, by simp, by simp⟩
  rw [List.nil_append] at hp hl
  have hDr : ∀ y ∈ rest, D y := fun y hy => hD y (hp.subset (by simp [hy]))
  have hnd : (l.foldl (put d lt most) [] ++ rest).Nodup := hp.nodup_iff.2 hn
  have e : s ++ sorted lt rest = sorted lt l := by
    have hpp : (s ++ sorted lt rest).Perm l := ((hs.append_right _).trans ((sorted_perm rest).append_left _)).trans hp
    refine sorted_eq o (fun y hy => hD y (hpp.subset hy)) (hpp.trans (sorted_perm l).symm) ?_ (sorted_sorted o l hD hn)
    refine List.pairwise_append.2 ⟨hss, sorted_sorted o rest hDr (List.nodup_append.1 hnd).2.1, fun x hx y hy => ?_⟩
    exact ha x (hs.subset hx) y ((sorted_perm rest).subset hy)
  have hsl : s.length = min most l.length := by rw [hs.length_eq, hl]
  have hll : l.length = s.length + rest.length := by have := hp.length_eq; rw [List.length_append] at this; rw [hs.length_eq]; omega
  rw [← e]
  by_cases c : most ≤ l.length
  · rw [List.take_append_of_le_length (by omega), List.take_of_length_le (by omega)]
  · have hr : rest = [] := List.eq_nil_of_length_eq_zero (by omega)
    subst hr
    simp [sorted]
    rw [List.take_of_length_le (by omega)]
end
end Go.Proofs.Ytkdbfeapfcflmaa.Plain

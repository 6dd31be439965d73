import Derived.Test.YtkdbfeapfcflmaaPH
/- The plain law BestParts; parts of rows; what is put in order in parts. -/
namespace Go.Proofs.Ytkdbfeapfcflmaa.Plain
set_option linter.unusedVariables false
set_option linter.unusedSimpArgs false
open Go.RowKit Go.Proofs.Ytkdbfeapfcflmaa.T Go.Proofs.YtkdbfeapfcflmaaW.PrintWords Go.Proofs.YtkdbfeapfcflmaaW.PrintLast
section
variable {α : Type} {lt : α → α → Bool} {D : α → Prop}
theorem trunc_ins : ∀ (l : List α) (k : Nat) (x : α), (ins lt l x).take k = (ins lt (l.take k) x).take k
  | [], k, x => by simp
  | y :: l, 0, x => by simp
  | y :: l, k + 1, x => by
    rw [List.take_succ_cons, ins, ins]
    by_cases h : lt y x = true
    · rw [if_pos h, if_pos h, List.take_succ_cons, List.take_succ_cons, trunc_ins l k x]
    · rw [if_neg h, if_neg h, List.take_succ_cons, List.take_succ_cons]
      cases k with
      | zero => simp
      | succ k => rw [List.take_succ_cons, List.take_succ_cons, List.take_take, Nat.min_eq_left (by omega)]
theorem trunc_fold : ∀ (L a : List α) (k : Nat), (L.foldl (ins lt) a).take k = (L.foldl (ins lt) (a.take k)).take k
  | [], a, k => by simp [List.take_take]
  | x :: L, a, k => by
    rw [List.foldl_cons, List.foldl_cons, trunc_fold L (ins lt a x) k, trunc_fold L (ins lt (a.take k) x) k, trunc_ins a k x]
theorem sorted_of_perm (o : Order lt D) {X Y : List α} (hD : ∀ y ∈ X, D y) (hn : X.Nodup) (hp : X.Perm Y) : sorted lt X = sorted lt Y :=
  sorted_eq o (fun y hy => hD y ((sorted_perm X).subset hy)) ((sorted_perm X).trans (hp.trans (sorted_perm Y).symm)) (sorted_sorted o X hD hn) (sorted_sorted o Y (fun y hy => hD y (hp.symm.subset hy)) (hp.nodup_iff.1 hn))
theorem sorted_self (o : Order lt D) {X : List α} (hD : ∀ y ∈ X, D y) (hn : X.Nodup) (hs : X.Pairwise (Lt lt)) : sorted lt X = X :=
  sorted_eq o (fun y hy => hD y ((sorted_perm X).subset hy)) (sorted_perm X) (sorted_sorted o X hD hn) hs
theorem top_left (o : Order lt D) {X Y : List α} (k : Nat) (hD : ∀ y ∈ X, D y) (hn : X.Nodup) : (sorted lt ((sorted lt X).take k ++ Y)).take k = (sorted lt (X ++ Y)).take k := by
  have h1 : sorted lt ((sorted lt X).take k) = (sorted lt X).take k := sorted_self o (fun y hy => hD y ((sorted_perm X).subset (List.mem_of_mem_take hy))) (((sorted_perm X).nodup_iff.2 hn).sublist (List.take_sublist k _)) ((sorted_sorted o X hD hn).sublist (List.take_sublist k _))
  unfold sorted at h1 ⊢
  rw [List.foldl_append, List.foldl_append, h1, ← trunc_fold]
theorem top_both (o : Order lt D) {X Y : List α} (k : Nat) (hD : ∀ y ∈ X ++ Y, D y) (hn : (X ++ Y).Nodup) : (sorted lt ((sorted lt X).take k ++ (sorted lt Y).take k)).take k = (sorted lt (X ++ Y)).take k := by
  have hX : ∀ y ∈ X, D y := fun y hy => hD y (by simp [hy])
  have hY : ∀ y ∈ Y, D y := fun y hy => hD y (by simp [hy])
  obtain ⟨nX, nY, nXY⟩ := List.nodup_append.1 hn
  have sub : ∀ y ∈ (sorted lt Y).take k, y ∈ Y := fun y hy => (sorted_perm Y).subset (List.mem_of_mem_take hy)
  have hn' : (X ++ (sorted lt Y).take k).Nodup := List.nodup_append.2 ⟨nX, ((sorted_perm Y).nodup_iff.2 nY).sublist (List.take_sublist k _), fun a ha b hb => nXY a ha b (sub b hb)⟩
  rw [top_left o k hX nX, sorted_of_perm o (X := X ++ (sorted lt Y).take k) (fun y hy => by
    rcases List.mem_append.1 hy with h | h
    · exact hX y h
    · exact hY y (sub y h)) hn' List.perm_append_comm, top_left o k hY nY, sorted_of_perm o (X := Y ++ X) (fun y hy => hD y (List.perm_append_comm.subset hy)) (List.perm_append_comm.nodup_iff.1 hn) List.perm_append_comm]
end
/-- some of a row, in whichever order -/
def Part (a l : List S27) : Prop := ∃ R, (a ++ R).Perm l
theorem Part.trans {a b l : List S27} (h : Part a b) (k : Part b l) : Part a l := by
  obtain ⟨R, hR⟩ := h
  obtain ⟨S, hS⟩ := k
  exact ⟨R ++ S, by rw [← List.append_assoc]; exact (hR.append_right S).trans hS⟩
theorem Part.append {a b x y : List S27} (h : Part a x) (k : Part b y) : Part (a ++ b) (x ++ y) := by
  obtain ⟨R, hR⟩ := h
  obtain ⟨S, hS⟩ := k
  refine ⟨R ++ S, List.Perm.trans ?_ (hR.append hS)⟩
  rw [List.append_assoc, List.append_assoc]
  refine List.Perm.append_left a ?_
  rw [← List.append_assoc, ← List.append_assoc]
  exact List.Perm.append_right S List.perm_append_comm
theorem Part.of_perm {a l : List S27} (h : a.Perm l) : Part a l := ⟨[], by simpa using h⟩
theorem Part.top (lt : S27 → S27 → Bool) (l : List S27) (k : Nat) : Part ((sorted lt l).take k) l := ⟨(sorted lt l).drop k, by rw [List.take_append_drop]; exact sorted_perm l⟩
theorem Part.mem {a l : List S27} (h : Part a l) {x : S27} (hx : x ∈ a) : x ∈ l := by
  obtain ⟨R, hR⟩ := h
  exact hR.subset (by simp [hx])
theorem Part.may {a l : List S27} (h : Part a l) (hm : mayB l = true) : mayB a = true := by
  have hmem := fun x (hx : x ∈ a) => h.mem hx
  obtain ⟨R, hR⟩ := h
  unfold mayB at hm ⊢
  simp only [Bool.and_eq_true, List.all_eq_true, decide_eq_true_eq] at hm ⊢
  refine ⟨fun x hx => hm.1 x (hmem x hx), ?_, ?_⟩
  · have h2 : (idsOf (a ++ R)).Nodup := by
      unfold idsOf at hm ⊢
      exact (hR.map _).nodup_iff.2 hm.2.1
    unfold idsOf at h2 ⊢
    rw [List.map_append] at h2
    exact (List.nodup_append.1 h2).1
  · have := hR.length_eq
    rw [List.length_append] at this
    omega
theorem may_perm {a l : List S27} (h : a.Perm l) : mayB a = mayB l := by
  cases h1 : mayB l with
  | true => exact (Part.of_perm h).may h1
  | false =>
    cases h2 : mayB a with
    | false => rfl
    | true => rw [(Part.of_perm h.symm).may h2] at h1; cases h1
theorem ofV_on {lt : S27 → S27 → Bool} {n : Int} {l : List S27} (h0 : 0 ≤ n) (h1 : n ≤ 100) (hm : mayB l = true) : ofV lt n l (mayB l) = (sorted lt l).take n.toNat := by
  unfold ofV
  rw [hm, if_pos ⟨rfl, h0, h1⟩]
theorem two_good {lt : S27 → S27 → Bool} {n : Int} {x y : List S27} {mx my : Bool} (hx : ∀ a ∈ x, HitG a) (hy : ∀ a ∈ y, HitG a) (hl : x.length + y.length ≤ 5000) :
    (∀ a ∈ ofV lt n x mx ++ ofV lt n y my, HitG a) ∧ (ofV lt n x mx ++ ofV lt n y my).length ≤ 5000 := by
  have sub : ∀ {z : List S27} {m : Bool} {a : S27}, a ∈ ofV lt n z m → a ∈ z := fun {z m a} h => by
    unfold ofV at h
    split at h
    · exact (sorted_perm z).subset (List.mem_of_mem_take h)
    · simp at h
  refine ⟨fun a ha => ?_, ?_⟩
  · rcases List.mem_append.1 ha with h | h
    · exact hx a (sub h)
    · exact hy a (sub h)
  · rw [List.length_append]
    have := ofV_le lt n x mx
    have := ofV_le lt n y my
    omega
theorem top_parts {lt : S27 → S27 → Bool} (n : Int) (x y l : List S27) (o : Order lt (fun z => z ∈ l)) (hn : l.Nodup) (hp : (x ++ y).Perm l) (hm : mayB l = true) (h0 : 0 ≤ n) (h1 : n ≤ 100) :
    ofV lt n (ofV lt n x (mayB x) ++ ofV lt n y (mayB y)) (mayB (ofV lt n x (mayB x) ++ ofV lt n y (mayB y))) = ofV lt n l (mayB l) := by
  have mx : mayB x = true := Part.may ⟨y, hp⟩ hm
  have my : mayB y = true := Part.may ⟨x, List.perm_append_comm.trans hp⟩ hm
  have hxy : (x ++ y).Nodup := hp.nodup_iff.2 hn
  have hD : ∀ z ∈ x ++ y, z ∈ l := fun z hz => hp.subset hz
  rw [ofV_on h0 h1 mx, ofV_on h0 h1 my, ofV_on h0 h1 hm]
  have mm : mayB ((sorted lt x).take n.toNat ++ (sorted lt y).take n.toNat) = true := (((Part.top lt x n.toNat).append (Part.top lt y n.toNat)).trans (Part.of_perm hp)).may hm
  rw [ofV_on h0 h1 mm, top_both o n.toNat hD hxy, sorted_of_perm o hD hxy hp]
theorem parts_law (n less : Int) (l : List S27) (q : Nat) (hu : ∀ x ∈ l, HitG x) (hm : mayB l = true) (h0 : 0 ≤ n) (h1 : n ≤ 100) (hq : q ≤ l.length) (h2 : 0 ≤ less) (h3 : less ≤ n) :
    ofV aheadB n (ofV aheadB n (l.take q) (mayB (l.take q)) ++ ofV aheadB n (l.drop q) (mayB (l.drop q))) (mayB (ofV aheadB n (l.take q) (mayB (l.take q)) ++ ofV aheadB n (l.drop q) (mayB (l.drop q)))) = ofV aheadB n l (mayB l) ∧
    ofV soonerB n (ofV soonerB n (l.drop q) (mayB (l.drop q)) ++ ofV soonerB n (l.take q) (mayB (l.take q))) (mayB (ofV soonerB n (l.drop q) (mayB (l.drop q)) ++ ofV soonerB n (l.take q) (mayB (l.take q)))) = ofV soonerB n l (mayB l) ∧
    ofV aheadB less l (mayB l) = (ofV aheadB n l (mayB l)).take less.toNat := by
  have hg := may_good hu hm
  have hnd := good_nodup hg
  have o1 := ahead_order hg
  have o2 := sooner_order hg.2 (fun x y hx hy hne => good_id hg hx hy hne)
  have p1 : (l.take q ++ l.drop q).Perm l := by rw [List.take_append_drop]
  refine ⟨top_parts n _ _ l o1 hnd p1 hm h0 h1, top_parts n _ _ l o2 hnd (List.perm_append_comm.trans p1) hm h0 h1, ?_⟩
  rw [ofV_on h0 h1 hm, ofV_on h2 (by omega) hm, List.take_take, Nat.min_eq_left (by omega)]
end Go.Proofs.Ytkdbfeapfcflmaa.Plain

import Derived.WalkSpells
import Derived.Test.YtbbmdakdghefnaaGreatDoorQPD
import Derived.Test.YtbbmdakdghefnaaGreatDoorQPE
/- Texts of this claim, laid together by a program (merge.py): So. -/
namespace Go.Proofs.YtbbmdakdghefnaaGreatDoor.T
open Go.RowKit Go.Proofs.YtbbmdakdghefnaaGreatDoorW.PrintWords Go.Proofs.YtbbmdakdghefnaaGreatDoorW.PrintLast Go.Proofs.YtbbmdakdghefnaaGreatDoorW.PrintMore
attribute [local go_sem] max2_int min2_int max_two min_two max_three min_three max_four min_four
set_option linter.unusedVariables false
set_option linter.unusedSimpArgs false
/-- the sorted row by putting in, word by word: what the kernel reckons with -/
def putB (x : List UInt8) : List (List UInt8) → List (List UInt8)
 | [] => [x]
 | y :: r => if decide (x ≤ y) = true then x :: y :: r else y :: putB x r
def insB : List (List UInt8) → List (List UInt8)
 | [] => []
 | x :: r => putB x (insB r)
theorem putB_perm (x : List UInt8) : ∀ l, (putB x l).Perm (x :: l)
 | [] => List.Perm.refl _
 | y :: r => by
  unfold putB
  split
  · exact List.Perm.refl _
  · exact ((putB_perm x r).cons y).trans (List.Perm.swap x y r)
theorem insB_perm : ∀ l, (insB l).Perm l
 | [] => List.Perm.refl _
 | x :: r => (putB_perm x (insB r)).trans ((insB_perm r).cons x)
theorem putB_sorted (x : List UInt8) : ∀ l : List (List UInt8), l.Pairwise (· ≤ ·) → (putB x l).Pairwise (· ≤ ·)
 | [], _ => by simp [putB]
 | y :: r, h => by
  obtain ⟨h1, h2⟩ := List.pairwise_cons.1 h; unfold putB
  split
  ·
   rename_i hx
   have hx := of_decide_eq_true hx; refine List.pairwise_cons.2 ⟨fun z hz => ?_, h⟩
   rcases List.mem_cons.1 hz with rfl | hz
   · exact hx
   · exact List.le_trans hx (h1 z hz)
  ·
   rename_i hx
   have hx : y ≤ x := (List.le_total x y).resolve_left (fun h => hx (decide_eq_true h)); refine List.pairwise_cons.2 ⟨fun z hz => ?_, putB_sorted x r h2⟩
   rcases List.mem_cons.1 ((putB_perm x r).mem_iff.1 hz) with rfl | hz
   · exact hx
   · exact h1 z hz
theorem insB_sorted : ∀ l : List (List UInt8), (insB l).Pairwise (· ≤ ·)
 | [] => List.Pairwise.nil
 | x :: r => putB_sorted x _ (insB_sorted r)
theorem insB_sort (l : List (List UInt8)) : (l.mergeSort fun x y => decide (x ≤ y)) = insB l := by
 have h1 : (l.mergeSort fun x y => decide (x ≤ y)).Pairwise (· ≤ ·) := by
  have := List.pairwise_mergeSort (le := fun x y : List UInt8 => decide (x ≤ y)) (fun a b c h1 h2 => decide_eq_true (List.le_trans (of_decide_eq_true h1) (of_decide_eq_true h2))) (fun a b => by
   rcases List.le_total a b with h | h
   · simp [h]
   · simp [h]) l
  exact this.imp (fun h => of_decide_eq_true h)
 exact List.Perm.eq_of_pairwise (fun a b _ _ h1 h2 => List.le_antisymm h1 h2) h1 (insB_sorted l) ((List.mergeSort_perm l _).trans (insB_perm l).symm)
def isB (xs : List ByteArray) : List ByteArray := (insB (xs.map ofB_)).map toB_
theorem isB_sortB (xs : List ByteArray) : isB xs = sortB xs := by rw [isB, sortB, insB_sort]
set_option maxHeartbeats 1000000 in
theorem collect_calls (A : Option Addr) (c : Nat) (xs : List ByteArray) (Bs : Nat) (w : World) (hC : Kd.C Kd.string w A xs.length xs) (hBs : w.cell? ⟨Bs, 0, none⟩ = some (.slice A xs.length c)) (hl : xs.length ≤ 1000000) :
  Calls Tryz.prog 93 #[.func (.func 95) #[] #[.pointer (some ⟨Bs, 0, none⟩)]] w fun e w' => ∃ v : Value, e = .returned v ∧ Kd.R Kd.string 9 w' w.heap.size (fun _ => True) v xs ∧ Below w.heap.size w w' := by
 go_enter Tryz.func93, Tryz.ntmps93
 go_wp2_with (first | (go_at_call 130; (refine (callsIn_wide.1 (appendSeq_in A c xs Bs _ hC hBs hl)).mono ?_); rintro e w1 ⟨v, rfl, hR, hb⟩))
 go_ret; exact ⟨v, rfl, hR, hb⟩
set_option maxHeartbeats 1000000 in
theorem sorted_calls (A : Option Addr) (c : Nat) (xs : List ByteArray) (Bs : Nat) (w : World) (hC : Kd.C Kd.string w A xs.length xs) (hBs : w.cell? ⟨Bs, 0, none⟩ = some (.slice A xs.length c)) (hl : xs.length ≤ 1000000) :
  Calls Tryz.prog 60 #[.func (.func 95) #[] #[.pointer (some ⟨Bs, 0, none⟩)]] w fun e w' => ∃ v : Value, e = .returned v ∧ Kd.R Kd.string 9 w' w.heap.size (fun _ => True) v (sortB xs) ∧ Below w.heap.size w w' := by
 go_enter Tryz.func60, Tryz.ntmps60
 go_wp2_with (first | (go_at_call 93; (refine (collect_calls A c xs Bs _ hC hBs hl).mono ?_); rintro e w1 ⟨v, rfl, hR, hb⟩; obtain ⟨A2, c2, rfl⟩ := Kd.R_slice hR; have hs2 := below_size hb) | (go_at_call 94; (refine (sort_calls w.heap.size (fun _ => True) A2 c2 xs w _ z161_ hR hb hs2).mono ?_); rintro e w2 ⟨rfl, hR2, hb2⟩))
 go_ret; exact ⟨_, rfl, hR2, hb2⟩
def f102.f (xs : List ByteArray) : Option (List ByteArray) := if xs.length ≤ 1000000 then some (compB (isB xs)) else none
theorem values_calls' (A : Option Addr) (n c : Nat) (w : World) :
  Calls Tryz.prog 61 #[.slice A n c] w fun e w' => ∃ b, e = .returned (.func (.func 95) #[] #[.pointer (some ⟨b, 0, none⟩)]) ∧ w'.cell? ⟨b, 0, none⟩ = some (.slice A n c) ∧ (∃ o, w' = w.alloc o) := by
 refine (values_calls A n c w).mono ?_; rintro e w' ⟨rfl, rfl⟩; exact ⟨_, rfl, (blk_cell (blk_new w (.cells #[.slice A n c] 23)) 0).trans rfl, _, rfl⟩
theorem own_mid {A : Option Addr} {c b : Nat} {xs r : List ByteArray} {W wv : World} (hw : ∃ o, wv = W.alloc o) (hc : wv.cell? ⟨b, 0, none⟩ = some (.slice A xs.length c)) (hn : f102.f xs = some r) (hC : Kd.C Kd.string W A xs.length xs) :
  Calls Tryz.prog 60 #[.func (.func 95) #[] #[.pointer (some ⟨b, 0, none⟩)]] wv fun e w' => ∃ A' c', e = .returned (.slice A' (sortB xs).length c') ∧ Kd.R Kd.string 9 w' wv.heap.size (fun _ => True) (.slice A' (sortB xs).length c') (sortB xs) ∧ Below wv.heap.size wv w' := by
 obtain ⟨o, rfl⟩ := hw
 have hl : xs.length ≤ 1000000 := by
  by_cases h : xs.length ≤ 1000000
  · exact h
  ·
   rw [f102.f, if_neg h] at hn; cases hn
 refine (sorted_calls A c xs b _ (Kd.C_alloc hC _) hc hl).mono ?_; rintro e w' ⟨v, rfl, hR, hb⟩; obtain ⟨A', c', rfl⟩ := Kd.R_slice hR; exact ⟨A', c', rfl, hR, hb⟩
theorem own_tail {A' : Option Addr} {c' : Nat} {xs r : List ByteArray} {W wv ws : World} (hw : ∃ o, wv = W.alloc o) (hR : Kd.R Kd.string 9 ws wv.heap.size (fun _ => True) (.slice A' (sortB xs).length c') (sortB xs)) (hb : Below wv.heap.size wv ws) (hn : f102.f xs = some r) :
  Calls Tryz.prog 59 #[.slice A' (sortB xs).length c'] ws fun e w' => ∃ v : Value, e = .returned v ∧ Kd.R Kd.string 9 w' W.heap.size (fun _ => True) v r ∧ Below W.heap.size W w' := by
 obtain ⟨o, rfl⟩ := hw
 have hl : xs.length ≤ 1000000 ∧ compB (sortB xs) = r := by
  by_cases h : xs.length ≤ 1000000
  ·
   rw [f102.f, if_pos h, isB_sortB] at hn; exact ⟨h, Option.some.inj hn⟩
  ·
   rw [f102.f, if_neg h] at hn; cases hn
 obtain ⟨hl, rfl⟩ := hl; refine (compact_calls _ (fun _ => True) A' c' (sortB xs) _ ws (by rw [sortB_length]; omega) hR hb (below_size hb)).mono ?_; rintro e w' ⟨rfl, hR2, hb2⟩; refine ⟨_, rfl, Kd.R_lower hR2 ?_, below_step (below_alloc (Below.refl _ _) o) hb2⟩; rw [World.size_alloc]; omega
def f82.f (l0 : List ByteArray) : Option (List ByteArray) := if l0.length * 16 ≤ 140737488355328 then some l0 else none
set_option maxHeartbeats 1000000 in
set_option maxRecDepth 100000 in
theorem f82.calls (A0 : Option Addr) (c0 : Nat) (l0 : List ByteArray) (r : List ByteArray) (w : World) (hr0 : Kd.C Kd.string w A0 l0.length l0) (hc0 : l0.length ≤ c0) (h : f82.f l0 = some r) :
  Calls Tryz.prog 63 #[.slice A0 l0.length c0] w fun e w' => ∃ v0_ : Value, e = .returned (v0_) ∧ Kd.R Kd.string 9 w' w.heap.size (fun _ => True) v0_ r ∧ Below w.heap.size w w' := by
 unfold f82.f at h
 by_cases hl : l0.length * 16 ≤ 140737488355328
 ·
  rw [if_pos hl] at h; obtain rfl := Option.some.inj h; have HR := A_ hr0; have HL := A_ hl; clear h; have hnil : ∀ (w : World) (a : Option Addr) (n c n' c' : Nat), (binOp .eql 23 (.slice a n c) (.slice none n' c')).run Tryz.prog w = .ok (.bool a.isNone) w := fun w a n c n' c' => Lib.run_eql_slice_nil w _ _ a n c n' c' Tryz.underlying23
  cases A0 with
  | none =>
   have hn : l0 = [] := by
    apply List.eq_nil_of_length_eq_zero
    by_cases h0 : l0.length = 0
    · exact h0
    ·
     obtain ⟨ad, he, _⟩ := hr0.2.2 z161_; cases he
   subst hn; clear HR HL hl hr0; go_enter Tryz.func63, Tryz.ntmps63; go_wp2; go_ret; exact ⟨_, rfl, Kd.R_nil _ _ _ _ _, Below.refl _ _⟩
  | some ad =>
   clear hr0 hl; have hB0 := A_ (Below.refl w.heap.size w); go_enter Tryz.func63, Tryz.ntmps63
   go_wp2_with (first | ((with_reducible refine gate_dst (N := 5) rfl ?_); refine Kd.R_lit Kd.string w.heap.size 9 ?hg (N := 5) ?hd (xs := ([] : List ByteArray)) (inner := []) (ok := fun _ => True) (okp := fun _ => True) ?hr ?hp (fun _ hk => hk) trivial (Below.refl _ _) (Nat.le_refl _) z219_ ?_; (case hd => rfl); (case hg => rfl); (case hr => exact z107_); (case hp => exact Reps.none _ _); intro v10 w5 ho6 hb hg_ hnew_; clear hg_ hnew_; have n0_ := A_ (Kd.C_below HR.out hb); have n1_ := A_ ho6; have n2_ := A_ hb; clear HR hB0; have HR := n0_; have HO := n1_; have HB := n2_; clear n0_ n1_ n2_ hb ho6; obtain ⟨Ao8, co8, eo8⟩ := Kd.R_slice HO.out; subst eo8) | ((with_reducible refine gate_builtin (b := .append) (xs := #[.tmp 5, .tmp 6]) rfl ?_); at_builtin; refine Kd.R_append_rows Kd.string (w0 := w) w.heap.size rfl (.tmp 5) (.tmp 6) 23 9 (.string ⟨#[]⟩) 16 rfl Tryz.underlying23 info9 rfl z106_ z161_ (.slice Ao8 ([] : List ByteArray).length co8) ([] : List ByteArray) l0 _ _ _ (fun _ => True) (fun _ => False) rfl rfl HO.out HR.out (fun _ _ h => h) (fun _ h => h.elim) (fun _ _ => trivial) HB.out (below_size HB.out) z149_ ?_; intro v11 w7 ho hb hg hat; clear hg hat; rw [List.nil_append] at ho; have n0_ := A_ ho; have n1_ := A_ hb; clear HO HB HR; have HO := n0_; have HB := n1_; clear n0_ n1_ ho hb))
   go_ret; exact ⟨_, rfl, HO.out, HB.out⟩
 ·
  rw [if_neg hl] at h; exact absurd h z219_
end Go.Proofs.YtbbmdakdghefnaaGreatDoor.T

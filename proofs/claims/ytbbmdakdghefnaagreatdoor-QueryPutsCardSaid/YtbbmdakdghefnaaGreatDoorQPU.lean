import Derived.Test.YtbbmdakdghefnaaGreatDoorQPC
import Derived.Test.YtbbmdakdghefnaaGreatDoorQPT
import Derived.Test.YtbbmdakdghefnaaGreatDoorQPD
/- Texts of this claim, laid together by a program (merge.py): Ts. -/
namespace Go.Proofs.YtbbmdakdghefnaaGreatDoor.T
open Go.RowKit Go.Proofs.YtbbmdakdghefnaaGreatDoorW.PrintWords Go.Proofs.YtbbmdakdghefnaaGreatDoorW.PrintLast Go.Proofs.YtbbmdakdghefnaaGreatDoorW.PrintMore
attribute [local go_sem] max2_int min2_int max_two min_two max_three min_three max_four min_four
set_option linter.unusedVariables false
set_option linter.unusedSimpArgs false
section
open Go.Sort
theorem sortWorldK_flat {α : Type} [Inhabited α] (enc : α → List Value) (k : Nat) (W : World) (blk m : Nat) (dk : Array α) (os : Array Obj) : sortWorldK enc k W blk 0 m dk os = sortWorld id W blk 0 m (flatK enc k dk) os := rfl
theorem reps_at {β : Type} {R : β → List Value → Prop} {k : Nat} {xs : List β} {inner : List Value} {enc : β → List Value} (h : Reps R k xs inner) (hR : ∀ x cs, R x cs → cs = enc x) (t : Nat) (x : β) (hx : xs[t / k]? = some x) (hk : 0 < k) : inner[t]? = (enc x)[t % k]? := by
 have h1 := hR _ _ (h.2 (t / k) x hx); rw [← h1, List.getElem?_take, if_pos (Nat.mod_lt _ hk), List.getElem?_drop]
 congr 1
 have := Nat.div_add_mod t k; rw [Nat.mul_comm] at this; omega
variable {α β : Type} [Inhabited α] {d : Kd β} {enc : α → List Value} {encb : β → List Value} {W : World} {blk m e base N cap : Nat} {ok : Nat → Prop} {xs : List β} {f : α → β} {dk : Array α} {os : Array Obj}
theorem swk_holds (HO : d.R e W base ok (.slice (some ⟨blk, 0, none⟩) N cap) xs) (hk : 0 < d.sz) (hM : ∀ w base ok x cs, d.M w base ok x cs → cs = encb x) (hl : ∀ x, (encb x).length = d.sz) (dd : Array α) (hx : xs = dd.toList.map f) (he : ∀ x, enc x = encb (f x)) : HoldsK enc d.sz W blk 0 dd := by
 intro t ht; obtain ⟨_, inner, ho, hr⟩ := HO; rw [size_flatK] at ht
 have hlen : xs.length = dd.size := by rw [hx]; simp
 rcases ho.2 with ⟨hv, _⟩ | ⟨g', cap', cur, hv, hb, hh, hnc, hcm, hcs, htake⟩
 · cases hv
 injection hv with ha hn hc
 injection ha with ha
 injection ha with hg'
 subst hg'; subst hc
 have hin : inner[t]? = cur[t]? := by
  rw [← htake, List.getElem?_take, if_pos (by rw [hlen]; exact ht), Array.getElem?_toList]
 have hdiv : t / d.sz < dd.size := Nat.div_lt_of_lt_mul (by rw [Nat.mul_comm]; exact ht)
 have hxe : xs[t / d.sz]? = some (f dd[t / d.sz]!) := by
  rw [hx, List.getElem?_map, Array.getElem?_toList, getElem!_pos dd _ hdiv, Array.getElem?_eq_getElem hdiv]
  rfl
 have h2 := reps_at hr (fun x cs hc => hM _ _ _ x cs hc) t _ hxe hk
 have hlt : t % d.sz < (encb (f dd[t / d.sz]!)).length := by rw [hl]; exact Nat.mod_lt _ hk
 refine ⟨?_, blk_frozen hh _⟩; rw [Nat.zero_add, blk_cell hh, ← hin, h2, get_flatK _ _ _ _ ht, he]; rw [List.getElem?_eq_getElem hlt]; simp [hlt]
theorem swk_row (HO : d.R e W base ok (.slice (some ⟨blk, 0, none⟩) N cap) xs) (hk : 0 < d.sz) (hM : ∀ w base ok x cs, d.M w base ok x cs ↔ cs = encb x) (hl : ∀ x, (encb x).length = d.sz) (hs : dk.size = N) (he : ∀ x, enc x = encb (f x)) : d.R e (sortWorldK enc d.sz W blk 0 m dk os) base ok (.slice (some ⟨blk, 0, none⟩) N cap) (dk.toList.map f) := by
 obtain ⟨h0, inner, ho, hr⟩ := HO
 have hlen : (dk.toList.map f).length = N := by simp [hs]
 have hN : N = xs.length := by
  rcases ho.2 with ⟨hv, _⟩ | ⟨g', cap', cur, hv, _⟩
  · cases hv
  · injection hv
 rcases ho.2 with ⟨hv, _⟩ | ⟨g', cap', cur, hv, hb, hh, hnc, hcm, hcs, htake⟩
 · cases hv
 injection hv with ha hn hc
 injection ha with ha
 injection ha with hg'
 subst hg'; subst hc; rw [← hN] at hnc htake; refine ⟨h0, (putCells id 0 (flatK enc d.sz dk) cur).toList.take (N * d.sz), ?_, ?_⟩
 ·
  rw [hlen]
  have hsz : (putCells id 0 (flatK enc d.sz dk) cur).size = cap * d.sz := by simp [putCells, hcs]
  have hle : N * d.sz ≤ cap * d.sz := Nat.mul_le_mul_right _ hnc; refine ⟨?_, .inr ⟨blk, cap, _, rfl, hb, ?_, hnc, hcm, hsz, rfl⟩⟩
  ·
   rw [List.length_take, Array.length_toList, hsz]; omega
  ·
   rw [sortWorldK_flat]; exact sw_same 0 hh
 ·
  have hsz : (putCells id 0 (flatK enc d.sz dk) cur).size = cap * d.sz := by simp [putCells, hcs]
  have hle : N * d.sz ≤ cap * d.sz := Nat.mul_le_mul_right _ hnc; refine ⟨by rw [List.length_take, Array.length_toList, hsz, hlen]; omega, fun j p hp => ?_⟩; rw [hM]
  have hj : j < dk.size := by have := (List.getElem?_eq_some_iff.1 hp).1; simpa using this
  have hpe : p = f dk[j]! := by
   rw [List.getElem?_map, Array.getElem?_toList, Array.getElem?_eq_getElem hj] at hp; rw [getElem!_pos dk j hj]
   simpa using hp.symm
  subst hpe
  have hjk : j * d.sz + d.sz ≤ N * d.sz := by
   have := Nat.mul_le_mul_right d.sz (show j + 1 ≤ N from z161_)
   rwa [Nat.add_mul, Nat.one_mul] at this
  apply List.ext_getElem?; intro i; rw [List.getElem?_take]
  by_cases hi : i < d.sz
  ·
   rw [if_pos hi, List.getElem?_drop, List.getElem?_take, if_pos z161_, Array.getElem?_toList]
   have ht : j * d.sz + i < dk.size * d.sz := by rw [hs]; omega
   have e1 : (j * d.sz + i) / d.sz = j := (blk_iff d.sz j _ hk).1 ⟨z161_, z161_⟩
   have e2 : (j * d.sz + i) % d.sz = i := by rw [Nat.mod_eq_sub_div_mul, e1]; omega
   have hcl : j * d.sz + i < cur.size := z161_
   have hil : i < (encb (f dk[j]!)).length := by rw [hl]; exact hi
   simp only [putCells, Array.getElem?_mapIdx, Array.getElem?_eq_getElem hcl, Option.map_some]; rw [if_pos ⟨Nat.zero_le _, by rw [size_flatK]; omega⟩, Nat.sub_zero, get_flatK _ _ _ _ ht, e1, e2, he, List.getElem?_eq_getElem hil]; simp [hil]
  · rw [if_neg hi, List.getElem?_eq_none (by rw [hl]; omega)]
end
section
open Go.Sort
abbrev RT := S71 × (Option Addr × Nat)
def encT (y : RT) : List Value := [.string y.1.f0, .slice y.2.1 y.1.f1.length y.2.2]
def rawT : Kd RT where
 sz := 2
 E := []
 K := fun _ y cs => cs = encT y
 M := fun _ _ _ y cs => cs = encT y
 K_len := fun h => by rw [h]; rfl
 K_one := fun h u hu => by
  rw [h] at hu; simp only [encT, List.mem_cons, List.not_mem_nil, or_false] at hu
  rcases hu with rfl | rfl <;> rfl
 K_below := fun _ h => h
 K_of_M := fun h => h
 M_mono := fun _ h => h
 M_bound := fun h => h
 M_move := fun _ h => h
 M_lower := fun _ h => h
/-- the terms' raw cells, and what each leads to -/
theorem raw_list {P : S71 → Value → Prop} : ∀ (xs : List S71) (inner : List Value), inner.length = xs.length * 2 → (∀ j p, xs[j]? = some p → ∃ A c, (inner.drop (j * 2)).take 2 = [.string p.f0, .slice A p.f1.length c] ∧ P p (.slice A p.f1.length c)) →
  ∃ ys : List RT, ys.map (·.1) = xs ∧ (∀ j y, ys[j]? = some y → (inner.drop (j * 2)).take 2 = encT y) ∧ ∀ y ∈ ys, P y.1 (.slice y.2.1 y.1.f1.length y.2.2)
 | [], _, _, _ => ⟨[], rfl, fun j y h => by simp at h, fun y h => by simp at h⟩
 | x :: xs, inner, hl, h => by
  obtain ⟨A, c, h1, h2⟩ := h 0 x rfl
  obtain ⟨ys, e1, e2, e3⟩ := raw_list xs (inner.drop 2) (by rw [List.length_drop, hl, List.length_cons]; omega) (fun j p hj => by
   obtain ⟨A, c, q1, q2⟩ := h (j + 1) p (by simpa using hj); refine ⟨A, c, ?_, q2⟩; rw [List.drop_drop, show 2 + j * 2 = (j + 1) * 2 from z161_]
   exact q1)
  refine ⟨(x, A, c) :: ys, by simp [e1], fun j y hj => ?_, fun y hy => ?_⟩
  ·
   cases j with
   | zero =>
    obtain rfl : (x, A, c) = y := by simpa using hj
    exact h1
   | succ j =>
    have := e2 j y (by simpa using hj); rw [List.drop_drop, show 2 + j * 2 = (j + 1) * 2 from z161_] at this; exact this
  ·
   rcases List.mem_cons.1 hy with rfl | hy
   · exact h2
   · exact e3 y hy
def cmpN (x y : ByteArray) : Int := Lib.compareBytes x.data.toList y.data.toList
set_option maxHeartbeats 4000000 in
set_option maxRecDepth 100000 in
theorem cmp92 (x y : RT) (W : World) : Calls Tryz.prog 92 #[.agg (encT x).toArray, .agg (encT y).toArray] W fun e w' => e = .returned (.int .i64 (cmpN x.1.f0 y.1.f0)) ∧ ∃ q os', w' = grow (W.drewN q) os' := by
 have hu71 := Tryz.underlying71; unfold encT; go_enter Tryz.func92, Tryz.ntmps92
 go_wp2_with (go_at_call 55; (refine (f73.calls x.1.f0 y.1.f0 _ _ rfl).mono ?_); rintro e w2 ⟨rfl, ⟨nd, rfl⟩⟩)
 go_ret; refine ⟨rfl, nd, #[.cells #[.string x.1.f0, .slice x.2.1 x.1.f1.length x.2.2] 71 (0, 0), .cells #[.string y.1.f0, .slice y.2.1 y.1.f1.length y.2.2] 71 (0, 0)], ?_⟩; rw [alloc_eq_grow, alloc_eq_grow, grow_grow]
 rfl
theorem cb_anti : ∀ a b, Lib.compareBytes a b = -Lib.compareBytes b a
 | [], [] => rfl
 | [], _ :: _ => rfl
 | _ :: _, [] => rfl
 | a :: la, b :: lb => by
  simp only [Lib.compareBytes, UInt8.lt_iff_toNat_lt]
  by_cases h1 : a.toNat < b.toNat
  · rw [if_pos h1, if_neg z161_, if_pos h1]
  ·
   by_cases h2 : b.toNat < a.toNat
   · rw [if_neg h1, if_pos h2, if_pos h2]; rfl
   · rw [if_neg h1, if_neg h2, if_neg h2, if_neg h1]; exact cb_anti la lb
theorem cb_eq : ∀ a b, Lib.compareBytes a b = 0 → a = b
 | [], [], _ => rfl
 | [], _ :: _, h => by simp [Lib.compareBytes] at h
 | _ :: _, [], h => by simp [Lib.compareBytes] at h
 | a :: la, b :: lb, h => by
  simp only [Lib.compareBytes, UInt8.lt_iff_toNat_lt] at h
  by_cases h1 : a.toNat < b.toNat
  · rw [if_pos h1] at h; omega
  ·
   by_cases h2 : b.toNat < a.toNat
   · rw [if_neg h1, if_pos h2] at h; omega
   ·
    rw [if_neg h1, if_neg h2] at h; rw [cb_eq la lb h, show a = b from UInt8.toNat_inj.1 z161_]
theorem cb_trans : ∀ a b c, Lib.compareBytes a b ≤ 0 → Lib.compareBytes b c ≤ 0 → Lib.compareBytes a c ≤ 0 ∧ (Lib.compareBytes a b < 0 ∨ Lib.compareBytes b c < 0 → Lib.compareBytes a c < 0)
 | [], [], [], _, _ => by simp [Lib.compareBytes]
 | [], [], _ :: _, _, _ => by simp [Lib.compareBytes]
 | [], _ :: _, [], _, h => by simp [Lib.compareBytes] at h
 | [], _ :: _, _ :: _, _, _ => by simp [Lib.compareBytes]
 | _ :: _, [], _, h, _ => by simp [Lib.compareBytes] at h
 | _ :: _, _ :: _, [], _, h => by simp [Lib.compareBytes] at h
 | a :: la, b :: lb, c :: lc, h1, h2 => by
  have ih := cb_trans la lb lc; simp only [Lib.compareBytes, UInt8.lt_iff_toNat_lt] at h1 h2 ⊢
  by_cases e1 : a.toNat < b.toNat
  ·
   rw [if_pos e1] at h1 ⊢
   have e3 : a.toNat < c.toNat := by
    by_cases e2 : c.toNat < b.toNat
    · rw [if_neg z161_, if_pos e2] at h2; omega
    · omega
   rw [if_pos e3]; omega
  ·
   by_cases e1' : b.toNat < a.toNat
   · rw [if_neg e1, if_pos e1'] at h1; omega
   ·
    rw [if_neg e1, if_neg e1'] at h1 ⊢; have ea : a.toNat = b.toNat := z161_; rw [ea]
    by_cases e2 : b.toNat < c.toNat
    · rw [if_pos e2] at h2 ⊢; omega
    ·
     by_cases e2' : c.toNat < b.toNat
     · rw [if_neg e2, if_pos e2'] at h2; omega
     ·
      simp only [if_neg e2, if_neg e2'] at h2 ⊢; exact ih h1 h2
theorem cmpN_eq {x y : ByteArray} (h : cmpN x y = 0) : x = y := by
 have := cb_eq _ _ h
 cases x; cases y
 congr 1
 exact Array.toList_inj.1 this
theorem cmpN_anti (x y : ByteArray) : cmpN x y = -cmpN y x := cb_anti _ _
theorem cmpN_swo {α : Type} (f : α → ByteArray) : SWO (ltOf fun x y : α => cmpN (f x) (f y)) := by
 have hd : ∀ x y : α, (ltOf fun x y : α => cmpN (f x) (f y)) x y = decide (cmpN (f x) (f y) < 0) := fun _ _ => rfl; refine ⟨fun x => ?_, fun x y z => ?_, fun x y z => ?_⟩
 ·
  rw [hd]; have := cmpN_anti (f x) (f x); exact decide_eq_false z161_
 ·
  rw [hd, hd, hd]; simp only [decide_eq_true_eq]; intro h1 h2; exact (cb_trans _ _ _ (Int.le_of_lt h1) (Int.le_of_lt h2)).2 (.inl h1)
 ·
  rw [hd, hd, hd]; simp only [decide_eq_false_iff_not, Int.not_lt]; intro h1 h2; have := (cb_trans (f z).data.toList (f y).data.toList (f x).data.toList (by have := cmpN_anti (f z) (f y); unfold cmpN at *; omega) (by have := cmpN_anti (f y) (f x); unfold cmpN at *; omega)).1; have h3 := cmpN_anti (f x) (f z); unfold cmpN at *; omega
theorem list_nodup_inj {α β : Type} (f : α → β) : ∀ l : List α, (l.map f).Nodup → ∀ x ∈ l, ∀ y ∈ l, f x = f y → x = y
 | [], _, x, hx, _, _, _ => by cases hx
 | a :: l, hn, x, hx, y, hy, e => by
  rw [List.map_cons, List.nodup_cons] at hn
  rcases List.mem_cons.1 hx with h1 | h1
  ·
   rcases List.mem_cons.1 hy with h2 | h2
   · rw [h1, h2]
   · exact absurd (by rw [← h1, e]; exact List.mem_map_of_mem h2) hn.1
  ·
   rcases List.mem_cons.1 hy with h2 | h2
   · exact absurd (by rw [← h2, ← e]; exact List.mem_map_of_mem h1) hn.1
   · exact list_nodup_inj f l hn.2 x h1 y h2 e
set_option maxHeartbeats 4000000 in
theorem sort91 (w W : World) (v : Value) (out : List S71) (hS : Kd.S k71 71 W w.heap.size (fun _ => True) v out) (HB : Below w.heap.size w W) (hn : (out.map S71.f0).Nodup) (hp : 0 < out.length) (hfew : out.length < 4611686018427387904) :
  Calls Tryz.prog 91 #[v, .func (.func 92) #[] #[]] W fun e w' => e = .returned (.tuple #[]) ∧ ∃ A c s, v = .slice A out.length c ∧ out.length ≤ c ∧ s.Perm out ∧ s.Pairwise (fun x y => cmpN x.f0 y.f0 < 0) ∧ (∀ W', Kept w' W' (fun k => k < w.heap.size) → Kd.C k71 W' A out.length s) ∧ Below w.heap.size w w' := by
 obtain ⟨b, cap, rfl, hb, hbl, _⟩ := Kd.S_form hS hp; have hR := Kd.S_R hS; obtain ⟨A', c', ev, hcl, _⟩ := Kd.R_reads hR
 injection ev with _ _ ec
 subst ec; obtain ⟨h0, inner, ho, hr⟩ := hR
 obtain ⟨ys, e1, e2, e3⟩ := raw_list (P := fun p u => Kd.R k99 99 W w.heap.size (fun k => True ∧ some k ≠ (Value.slice (some ⟨b, 0, none⟩) out.length cap).ownBlock) u p.f1) out inner hr.1 (fun j p hj => by
  have hM := hr.2 j p hj; obtain ⟨v1, h1, h2⟩ := k71_openM hM; obtain ⟨A1, c1, rfl⟩ := Kd.R_slice h2
  exact ⟨A1, c1, h1, h2⟩)
 have hl : ys.length = out.length := by rw [← e1]; simp
 have HO : Kd.R rawT 71 W w.heap.size (fun _ => True) (.slice (some ⟨b, 0, none⟩) out.length cap) ys := ⟨h0, inner, by rw [hl]; exact ho, by rw [hl]; exact hr.1, fun j y hj => e2 j y hj⟩
 have hny : (ys.map (fun y => y.1.f0)).Nodup := by
  have : ys.map (fun y => y.1.f0) = out.map S71.f0 := by rw [← e1, List.map_map]; rfl
  rw [this]; exact hn
 have hpy : 0 < ys.length := z161_
 haveI : Inhabited {y : RT // y ∈ ys} := ⟨⟨ys[0], List.getElem_mem hpy⟩⟩
 have hsz : ys.attach.toArray.size = ys.length := z219_; have hM : ∀ w base ok x cs, rawT.M w base ok x cs ↔ cs = encT x := fun _ _ _ _ _ => Iff.rfl; have hlk : ∀ x : RT, (encT x).length = rawT.sz := fun _ => rfl
 have hH : HoldsK (fun x : {y : RT // y ∈ ys} => encT x.1) 2 W b 0 ys.attach.toArray :=
  swk_holds (f := fun x : {y : RT // y ∈ ys} => x.1) HO z106_ (fun w base ok x cs => (hM w base ok x cs).1) hlk _ (by rw [List.toList_toArray, List.attach_map_subtype_val]) (fun _ => rfl)
 have eg : ∀ args w, (callFunc 92 args).run Tryz.prog w = .ok (.enter 92 args) w := enters_of Tryz.func92 z159_ rfl
 have hcmp : CmpLays Tryz.prog 92 #[] (fun x : {y : RT // y ∈ ys} => encT x.1) 2 (fun x y => cmpN x.1.1.f0 y.1.1.f0) b 0 ys.attach.toArray.size W := by
  intro m dos dk hs x y; exact cmp92 x.1 y.1 _
 have hc := AnyQ.slices_SortFunc_total Tryz.laysSortT 2 Tryz.isAgg71 Tryz.sizeOf71 (fun x : {y : RT // y ∈ ys} => encT x.1) (fun _ => rfl) (fun x v hv => by
  simp only [encT, List.mem_cons, List.not_mem_nil, or_false] at hv
  rcases hv with rfl | rfl <;> rfl) (fun x y => cmpN x.1.1.f0 y.1.1.f0) (cmpN_swo (fun x : {y : RT // y ∈ ys} => x.1.1.f0)) 92 #[] b 0 cap ys.attach.toArray W eg hcmp hH hbl (by rw [hsz]; omega) (fun x y h1 h2 => by
   have q1 : ¬ cmpN x.1.1.f0 y.1.1.f0 < 0 := of_decide_eq_false h1; have q2 : ¬ cmpN y.1.1.f0 x.1.1.f0 < 0 := of_decide_eq_false h2; have q3 := cmpN_anti x.1.1.f0 y.1.1.f0
   exact Subtype.ext (list_nodup_inj (fun y : RT => y.1.f0) ys hny _ x.2 _ y.2 (cmpN_eq z161_)))
 rw [hsz, hl] at hc; change Calls Tryz.prog 91 _ W _ at hc; refine hc.mono ?_; rintro e w' ⟨rfl, n, os, rfl⟩; have hsl : (ys.attach.mergeSort fun x y => !(ltOf fun x y : {y : RT // y ∈ ys} => cmpN x.1.1.f0 y.1.1.f0) y x).length = ys.length := z219_; generalize hsdef : (ys.attach.mergeSort fun x y => !(ltOf fun x y : {y : RT // y ∈ ys} => cmpN x.1.1.f0 y.1.1.f0) y x) = srt at *
 have hpm : srt.Perm ys.attach := by rw [← hsdef]; exact List.mergeSort_perm _ _
 have hpy2 : (srt.map (fun x => x.1)).Perm ys := by have := hpm.map (fun x => x.1); rwa [List.attach_map_subtype_val] at this
 have hpo : ((srt.map (fun x => x.1)).map (·.1)).Perm out := by have := hpy2.map (·.1); rwa [e1] at this
 refine ⟨rfl, some ⟨b, 0, none⟩, cap, (srt.map (fun x => x.1)).map (·.1), rfl, hcl, hpo, ?_, ?_, ?_⟩
 ·
  have hsw := cmpN_swo (fun x : {y : RT // y ∈ ys} => x.1.1.f0)
  have hpw : srt.Pairwise (fun x y => (!(ltOf fun x y : {y : RT // y ∈ ys} => cmpN x.1.1.f0 y.1.1.f0) y x) = true) := by
   rw [← hsdef]; apply List.pairwise_mergeSort
   ·
    intro a b c h1 h2; simp only [Bool.not_eq_true'] at h1 h2 ⊢; exact hsw.ntrans _ _ _ h2 h1
   ·
    intro a b
    by_cases q : cmpN b.1.1.f0 a.1.1.f0 < 0
    ·
     have := cmpN_anti a.1.1.f0 b.1.1.f0; have q2 : ¬ cmpN a.1.1.f0 b.1.1.f0 < 0 := z161_; simp [ltOf, q, q2]
    · simp [ltOf, q]
  have hnd : srt.Nodup := by
   have h1 : (srt.map (fun x => x.1)).Nodup := hpy2.nodup_iff.2 (List.Pairwise.of_map (fun y : RT => y.1.f0) (fun a b hab e => hab (by rw [e])) hny); exact List.Pairwise.of_map (fun x : {y : RT // y ∈ ys} => x.1) (fun a b hab e => hab (by rw [e])) h1
  rw [List.map_map, List.pairwise_map]; refine List.Pairwise.imp_of_mem ?_ (List.pairwise_and_iff.2 ⟨hpw, hnd⟩); rintro x y _ _ ⟨h1, h2⟩; simp only [ltOf, Bool.not_eq_true', decide_eq_false_iff_not] at h1; have q3 := cmpN_anti x.1.1.f0 y.1.1.f0; show cmpN x.1.1.f0 y.1.1.f0 < 0
  by_cases q : cmpN x.1.1.f0 y.1.1.f0 = 0
  · exact absurd (Subtype.ext (list_nodup_inj (fun y : RT => y.1.f0) ys hny _ x.2 _ y.2 (cmpN_eq q))) h2
  · omega
 ·
  intro W' hKW; have hr2 := swk_row (m := n) (os := os) (dk := srt.toArray) (f := fun x : {y : RT // y ∈ ys} => x.1) (enc := fun x => encT x.1) HO z106_ hM hlk (by simp [hsl, hl]) (fun _ => rfl); rw [List.toList_toArray] at hr2; replace hr2 := Kd.R_kept (Kd.R_bound hr2) hKW (fun k hk => Nat.not_lt.2 hk.2.1); obtain ⟨hn2, _, hC2⟩ := Kd.R_reads' hr2; obtain ⟨q1, q2, q3⟩ := hC2; refine ⟨by rw [List.length_map, List.length_map, hsl, hl], by rw [← hl]; simpa [hsl] using q2, fun hpos => ?_⟩; obtain ⟨ad, ea, q4⟩ := q3 (by simpa [hsl] using hpy); refine ⟨ad, ea, fun j p hj => ?_⟩; rw [List.getElem?_map] at hj; obtain ⟨y, hy, rfl⟩ := Option.map_eq_some_iff.1 hj; obtain ⟨cs, hlen, hK, hcells⟩ := q4 j y hy; refine ⟨cs, hlen, ?_, hcells⟩; have hK' : cs = encT y := hK; rw [hK']; have hyy : y ∈ ys := hpy2.mem_iff.1 (List.mem_of_getElem? hy)
  have hR1 := Kd.R_move (w1 := sortWorldK (fun x : {y : RT // y ∈ ys} => encT x.1) 2 W b 0 n srt.toArray os) (Kd.R_bound (e3 y hyy)) (fun k hk => by
   rw [sortWorldK_flat]
   exact sw_other (fun e => hk.1.2 (by simp [Value.ownBlock, e])) hk.2.2.1 0)
  obtain ⟨_, hl2, hC3⟩ := Kd.R_reads' (Kd.R_kept (Kd.R_bound hR1) hKW (fun k hk => Nat.not_lt.2 hk.2.1)); exact k71_mk _ y.1 hl2 hC3
 ·
  rw [sortWorldK_flat]; exact sw_below 0 HB hb HB.size
end
end Go.Proofs.YtbbmdakdghefnaaGreatDoor.T

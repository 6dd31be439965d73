import Derived.RangeFuncNested
import Derived.RangeFuncBound
import Derived.Shelf.RegionOpen
import Derived.OwnWalkIn
import Derived.LoopNIn
import Derived.LoopIn
import Derived.Test.YtbbmdakdghefnaaGreatDoorQPA
/- Texts of this claim, laid together by a program (merge.py): Va. -/
set_option maxRecDepth 100000
namespace Go.Proofs.YtbbmdakdghefnaaGreatDoor.T
open Go.RowKit Go.Proofs.YtbbmdakdghefnaaGreatDoorW.PrintWords Go.Proofs.YtbbmdakdghefnaaGreatDoorW.PrintLast Go.Proofs.YtbbmdakdghefnaaGreatDoorW.PrintMore
attribute [local go_sem] max2_int min2_int max_two min_two max_three min_three max_four min_four
set_option linter.unusedVariables false
set_option linter.unusedSimpArgs false
open Go.Shelf
attribute [local go_sem] Oper.semAt_some
set_option maxHeartbeats 1000000 in
theorem values_calls (A : Option Addr) (n c : Nat) (w : World) :
  Calls Tryz.prog 61 #[.slice A n c] w fun e w' => e = .returned (.func (.func 95) #[] #[.pointer (some ⟨w.heap.size, 0, none⟩)]) ∧ w' = w.alloc (.cells #[.slice A n c] 23) := by
 go_enter Tryz.func61, Tryz.ntmps61; go_wp2; go_ret; exact ⟨rfl, rfl⟩
set_option maxHeartbeats 4000000 in
theorem values1_in (n : Nat) (l Bs B : Nat) (A : Option Addr) (xs : List ByteArray) (c : Nat) (w0 : World) (hB : w0.heap.size = B) (hC : Kd.C Kd.string w0 A xs.length xs) (J Jx : List ByteArray → World → Prop)
  (hY : ∀ pre x W, J pre W → pre.length < xs.length → YieldAt Fence.wide (n - 1) Tryz.prog l #[.string x] W fun e W' =>
   (e = .returned (.bool true) ∧ J (pre ++ [x]) W' ∧ Below B W W') ∨ (e = .returned (.bool false) ∧ Jx (pre ++ [x]) W'))
  (W : World) (hW0 : Below B w0 W) (hBs : W.cell? ⟨Bs, 0, none⟩ = some (.slice A xs.length c)) (h0 : J [] W) :
  CallsIn Fence.wide n Tryz.prog 95 #[.func (.yield l) #[] #[], .pointer (some ⟨Bs, 0, none⟩)] W fun e W' => (∃ v, e = .returned v) ∧
   ((∃ ys, ys = xs ∧ J ys W') ∨ (∃ pre, True ∧ Jx pre W')) := by
 subst hB; have HC := A_ hC; have HLM := A_ (show xs.length ≤ 9223372036854775807 from hC.2.1); clear hC; refine callsIn_of_wp Tryz.func95 rfl trivial ?_ rfl; simp only [Tryz.ntmps95, List.size_toArray, List.length_cons, List.length_nil, Nat.reduceAdd, Nat.reduceSub, Array.replicate_succ, Array.replicate_zero, List.push_toArray, List.append_toArray, List.nil_append, List.cons_append]
 gi_wp2
 gi_loopw [7] (fun i wr => ∃ k : Nat, k ≤ xs.length ∧ i = .int .i64 (k : Int) ∧ J (xs.take k) wr ∧ Below w0.heap.size w0 wr)
  (fun i _ => xs.length - (intOf i).toNat)
 case atStart => exact ⟨0, Nat.zero_le _, rfl, h0, hW0⟩
 case round =>
  obtain ⟨k, hk, rfl, hJs, hnx⟩ := hrel
  by_cases hlt : k < xs.length
  ·
   have c1 : decide ((k : Int) < (xs.length : Int)) = true := decide_eq_true z161_; have c2 : decide (k < xs.length) = true := decide_eq_true hlt; obtain ⟨ad, rfl, hx0⟩ := Kd.at_string HC.out (k : Int) z161_ z161_; rw [Int.toNat_natCast] at hx0; replace hx0 := pw_cell_below hnx hx0; have p1 : (0 : Int) ≤ (k : Int) := z161_; have p2 : (k : Int) < (xs.length : Int) := z161_; replace p1 := eq_true p1; replace p2 := eq_true p2
   have hw : wrap64 ((k : Int) + 1) = ((k + 1 : Nat) : Int) := by have := HLM.out; unfold wrap64; omega
   have htk : xs.take k ++ [rdOf ByteArray.empty xs (k : Int)] = xs.take (k + 1) := by
    unfold rdOf; rw [Int.toNat_natCast, List.getD_eq_getElem?_getD, List.getElem?_eq_getElem hlt, Option.getD_some, List.take_add_one, List.getElem?_eq_getElem hlt]
    rfl
   have HTK := A_ htk; obtain ⟨fn, tmps, assign, body, hy, hR⟩ := hY _ (rdOf ByteArray.empty xs (k : Int)) wr hJs z216_; generalize rdOf ByteArray.empty xs (k : Int) = x at *; clear hJs htk
   gi_wp2
   refine ⟨fun h => absurd h z220_, ?_⟩; refine hR.mono ?_; rintro e W3 (⟨rfl, hJ3, hk3⟩ | ⟨rfl, hJx3⟩)
   ·
    clear hx0 c1 c2 p1 p2
    gi_wp2
    go_roundw
    case rel => exact ⟨k + 1, hlt, by rw [hw], by rw [← HTK.out]; exact hJ3, hnx.trans hk3⟩
    case measure => rw [hw]; simp [intOf]; omega
   ·
    gi_wp2
    refine bodyPost_ret (results_none rfl _ _ _) rfl ?_; exact ⟨⟨_, rfl⟩, .inr ⟨_, trivial, hJx3⟩⟩
  ·
   have c1 : decide ((k : Int) < (xs.length : Int)) = false := decide_eq_false z161_; have c2 : decide (k < xs.length) = false := decide_eq_false hlt; have hkN : xs.take k = xs := List.take_of_length_le z161_; rw [hkN] at hJs
   gi_wp2
   go_end0
   exact ⟨⟨_, rfl⟩, .inl ⟨_, rfl, hJs⟩⟩
theorem values_stops (n Bs : Nat) (A : Option Addr) (xs : List ByteArray) (c : Nat) (w w3 : World) (hC : Kd.C Kd.string w A xs.length xs) (hBs : w.cell? ⟨Bs, 0, none⟩ = some (.slice A xs.length c)) (hb : Below w.heap.size w w3) :
  SeqStopsK Fence.wide n Tryz.prog 95 #[.pointer (some ⟨Bs, 0, none⟩)] (fun x : ByteArray => #[.string x]) (Below w.heap.size) (fun ys => ys = xs) (fun _ => True) xs.length w3 := fun l J Jx W hW _ _ hY hJ0 =>
 values1_in n l Bs w.heap.size A xs c w rfl hC J Jx hY W (below_step hb hW) (pw_cell_below (below_step hb hW) hBs) hJ0
/-- A post that speaks of ends and panics alone. -/
def cutQ (Q : Exit → Act → World → Prop) : Exit → Act → World → Prop
 | .normal, a, w => Q .normal a w
 | .panic c, a, w => Q (.panic c) a w
 | _, _, _ => False
theorem cutQ_lets {Q : Exit → Act → World → Prop} (h : LetsOut (cutQ Q)) : False := by
 obtain ⟨a, w, h⟩ := h; exact h
theorem oper_in {l n : Nat} {o : Oper} {a : Act} {w : World} {K : Act → World → Prop} {Q : Exit → Act → World → Prop} (hnd : ∀ c, o.op ≠ .defer c) (h : o.wp Tryz.prog a w K (cutQ Q)) : o.wpIn (Fence.wide.inRound l) n Tryz.prog a w K Q := by
  unfold Oper.wpIn; refine ⟨fun _ _ => trivial, ?_⟩; rw [Oper.semAt_eq _ _ _ hnd]; unfold Oper.wp at h; generalize (execOp a.eval o).run Tryz.prog w = r at *
  cases r with
  | ok x w' =>
    cases x <;> simp only [Oper.upon, Oper.uponIn] at h ⊢
    all_goals first
      | exact h
      | exact h.elim
      | (refine ⟨fun hd => absurd hd z220_, ?_⟩
         refine CallsIn.inRound l ((callsIn_wide.2 h).mono ?_); intro e w'' he
         cases e with
         | returned v => exact he
         | panicked c => exact he
         | outgrown => exact (cutQ_lets he).elim)
      | (refine ⟨fun hd => absurd hd z220_, ?_⟩
         exact fun c cs _ => let ⟨v, w', r, s⟩ := h c cs; ⟨v, w', r, stepsIn_wide.2 s⟩)
  | halt x w' => cases x <;> simp only [Oper.upon, Oper.uponIn] at h ⊢ <;> exact h
theorem Oper.wp_post {o : Oper} {a : Act} {w : World} {K K' : Act → World → Prop} {Q Q' : Exit → Act → World → Prop} (hk : ∀ a w, K a w → K' a w) (hq : ∀ c a w, Q (.panic c) a w → Q' (.panic c) a w) (h : o.wp Tryz.prog a w K (cutQ Q)) : o.wp Tryz.prog a w K' (cutQ Q') := by
  unfold Oper.wp at *; generalize (execOp a.eval o).run Tryz.prog w = r at *
  cases r with
  | ok x w' =>
    cases x <;> simp only [Oper.upon] at h ⊢
    all_goals first
      | exact hk _ _ h
      | exact h.elim
      | (refine h.mono ?_
         intro e w'' he
         cases e with
         | returned v => exact hk _ _ he
         | panicked c => exact hq _ _ _ he
         | outgrown => exact (cutQ_lets he).elim)
      | exact h.mono (fun _ _ he => hk _ _ he)
  | halt x w' =>
    cases x <;> simp only [Oper.upon] at h ⊢
    all_goals first
      | exact hq _ _ _ h
      | exact h
/-- An operation of a list, in a round of the wide fence: by the laws of the plain walk. -/
theorem op_in {l n : Nat} {ops : Array Oper} {rest : List Oper} {o : Oper} {Q : Exit → Act → World → Prop} {a : Act} {w : World} (hnd : ∀ c, o.op ≠ .defer c)
  (h : wpList Tryz.prog ops (cutQ fun e a' w' => (e = .normal ∧ wpListIn (Fence.wide.inRound l) n Tryz.prog ops Q rest a' w') ∨ (e ≠ .normal ∧ Q e a' w')) [o] a w) : wpListIn (Fence.wide.inRound l) n Tryz.prog ops Q (o :: rest) a w := by
 simp only [wpList] at h; simp only [wpListIn]
 by_cases hw : Region.wanted o (yielded ops a.tmps) = true
 ·
  rw [if_pos hw] at h ⊢
  rcases h with h | ⟨_, h⟩
  ·
   refine oper_in hnd ?_; refine Oper.wp_post (fun a' w' hk => ?_) (fun c a' w' hq => ?_) h
   ·
    rcases hk with hk | hk
    · exact hk.2
    · exact absurd rfl hk.1
   ·
    rcases hq with hq | hq
    · cases hq.1
    · exact hq.2
  · exact (cutQ_lets h).elim
 ·
  rw [if_neg hw] at h ⊢; refine ⟨fun _ _ => trivial, ?_⟩
  rcases h with h | h
  · exact h.2
  · exact absurd rfl h.1
/-- What the loop of AppendSeq keeps between two rounds. -/
def AsI (w : World) (O : Nat) (pre : List ByteArray) (W : World) : Prop := ∃ v, W.heap[O]? = some (.cells #[v] 23 (0, 0)) ∧ Kd.R Kd.string 9 W w.heap.size (fun _ => True) v pre ∧ Below w.heap.size w W
theorem AsI_own (w : World) (O B : Nat) (hB : w.heap.size ≤ B) : OwnFrom B (AsI w O) := by
 rintro s W W' row ⟨v, h1, h2, h6⟩ hg hr
 have kp : ∀ (k : Nat) (cs : Array Value) (t : TypeId), W.heap[k]? = some (.cells cs t (0, 0)) → some k ≠ row := by
  intro k cs t hk e; obtain ⟨_, o, ho, hc⟩ := hr k e.symm; rw [hk] at ho; cases ho; cases hc
 refine ⟨v, (hg.block O (blk_lt h1) (kp _ _ _ h1)).trans h1, ?_, h6.grown hg (below_size h6) (fun k e => Nat.le_trans hB (hr k e).1)⟩; refine Kd.R_mono (Kd.R_grown (Kd.R_bound h2) hg (fun k hk => ?_)) (fun k hk => hk.1); obtain ⟨_, _, _, q, _, cells, hc⟩ := hk; exact kp k cells q hc
theorem rows_typed {w : World} {base : Nat} {ok : Nat → Prop} {v : Value} {xs : List ByteArray} (h : Kd.R Kd.string 9 w base ok v xs) (k : Nat) (hk : v.ownBlock = some k) : ∃ cells, w.heap[k]? = some (.cells cells 9 (0, 0)) := by
 obtain ⟨_, _, _, q, hq, cells, hc⟩ := (Kd.R_bound h).1 k hk
 have : q = 9 := by simpa [Kd.string, Kd.scalar] using hq
 subst this; exact ⟨cells, hc⟩
theorem rows_ne {w : World} {base : Nat} {ok : Nat → Prop} {v : Value} {xs : List ByteArray} (h : Kd.R Kd.string 9 w base ok v xs) {O t : Nat} {cs : Array Value} (ho : w.heap[O]? = some (.cells cs t (0, 0))) (ht : t ≠ 9) : some O ≠ v.ownBlock := by
 intro e; obtain ⟨cells, hc⟩ := rows_typed h O e.symm; rw [ho] at hc; simp only [Option.some.injEq, Obj.cells.injEq] at hc; exact ht hc.2.1
theorem rows_keeps {wr w2 : World} {base B : Nat} {ok : Nat → Prop} {v : Value} {xs : List ByteArray} (h : Kd.R Kd.string 9 wr base ok v xs) (hg : wr.grownBy w2 v.ownBlock) : KeepsFrom B wr w2 :=
 (KeepsOthers.of_grownBy hg (fun j o e ho => by
  obtain ⟨cells, hc⟩ := rows_typed h j e; rw [ho] at hc; cases hc
  rfl)).from B
theorem info9q : (Tryz.prog.info? 9).map (fun i => (i.zero, i.size, i.bytes)) = some (some (.string ⟨#[]⟩), 1, 16) := by kernel_rfl
set_option maxHeartbeats 8000000 in
theorem appendSeq_in (A : Option Addr) (c : Nat) (xs : List ByteArray) (Bs : Nat) (w : World) (hC : Kd.C Kd.string w A xs.length xs) (hBs : w.cell? ⟨Bs, 0, none⟩ = some (.slice A xs.length c)) (hl : xs.length ≤ 1000000) :
  CallsIn Fence.wide 5 Tryz.prog 130 #[.slice none 0 0, .func (.func 95) #[] #[.pointer (some ⟨Bs, 0, none⟩)]] w fun e w' => ∃ v : Value, e = .returned v ∧ Kd.R Kd.string 9 w' w.heap.size (fun _ => True) v xs ∧ Below w.heap.size w w' := by
 have HC := A_ hC; have HBS := A_ hBs; have HLX := A_ hl; clear hC hBs hl; refine callsIn_of_wp_marks Tryz.func130 rfl trivial ?_ rfl; simp only [Tryz.ntmps130, List.size_toArray, List.length_cons, List.length_nil, Nat.reduceAdd, Nat.reduceSub, Array.replicate_succ, Array.replicate_zero, List.push_toArray, List.append_toArray, List.nil_append, List.cons_append]
 gi_wp2
 have g1 := blk_new w (.cells #[.slice none 0 0] 23); have hb := below_alloc (Below.refl w.heap.size w) (.cells #[.slice none 0 0] 23); have hsz : (w.alloc (.cells #[.slice none 0 0] 23)).heap.size = w.heap.size + 1 := World.size_alloc ..; generalize (w.alloc (.cells #[.slice none 0 0] 23)) = w3 at *; have HSZ := A_ hsz; have HB3 := A_ hb; have HGE := A_ (Nat.le_refl w.heap.size); have HI0 := A_ (show AsI w w.heap.size [] w3 from ⟨_, g1, Kd.R_nil _ _ _ _ _, hb⟩); have HO3 := A_ (show w.heap.size ≤ w3.heap.size from z161_); clear g1 hb hsz; obtain ⟨O, hO⟩ : ∃ O, O = w.heap.size := ⟨_, rfl⟩; have HOE := A_ hO; have HI1 := A_ (show AsI w O [] w3 from by rw [hO]; exact HI0.out); rw [← hO]; clear HI0 hO
 refine wpIn_rangeFunc_ownG rfl z161_ (gf := 95) (lb := #[.pointer (some ⟨Bs, 0, none⟩)]) rfl trivial (enters_of Tryz.func95 z159_ rfl)
  (values_stops 4 Bs A xs c w w3 HC.out HBS.out HB3.out) (fun h k => h.trans k)
  (fun W r o o' hr hk h1 h2 => belowK_b (w := w3) HO3.out W r o o' hr hk h1 h2) (Below.refl _ _) (fun _ => rfl)
  (AsI w O) (fun _ _ _ => False) (AsI_own w O _ HO3.out) (fun _ _ _ _ _ hs _ _ => hs) HI1.out ?a1 ?assign ?body ?done ?stop
 case assign =>
  intro r x W K hK
  gi_wp2
  exact hK
 case stop =>
  intro D c pre W _ _ h _; exact h.elim
 case done =>
  rintro D ys W hD rfl ⟨v, g1, hrow, hB⟩ hK; obtain ⟨A5, c5, rfl⟩ := Kd.R_slice hrow; have hc := (blk_cell g1 0).trans (show (#[Value.slice A5 ys.length c5])[0]? = some (.slice A5 ys.length c5) from rfl)
  gi_wp2
  refine ⟨z219_, .inl ⟨_, _, rfl, run_takeDeferred hK, ?_⟩⟩; refine ⟨_, results_tmp rfl _ _ _, _, rfl, ?_, hB.trans (belowK_b (w := w) (Nat.le_refl _) W D _ _ (by have := HO3.out; omega) hK rfl rfl)⟩
  exact Kd.R_mono (Kd.R_grown (Kd.R_bound hrow) (grownBy_putObj' W D _) (fun k hk e => by
   obtain ⟨_, _, _, q, _, cells, hcc⟩ := hk; simp only [Option.some.injEq] at e; rw [e, hK] at hcc
   cases hcc)) (fun _ _ => trivial)
 case body =>
  rintro r pre x W ⟨v, g1, hrow, hB⟩ hlt; obtain ⟨Ao, co, rfl⟩ := Kd.R_slice hrow; have d0 : W.cell? ⟨O, 0, none⟩ = some (.slice Ao pre.length co) := (blk_cell g1 0).trans rfl; have f0 := blk_frozen g1 0; have HR := A_ hrow; have BG := A_ g1; have HB := A_ hB; have HLT := A_ hlt; clear hrow g1 hB hlt HI1
  gi_wp2_with (first | (gi_at_builtin; refine op_in (by intro c h; cases h) ?_; refine Kd.R_append Kd.string (w0 := w) w.heap.size rfl (.tmp 8) (.tmp 10) 23 9 (.string ⟨#[]⟩) 16 rfl Tryz.underlying23 info9q rfl z106_ z161_ (.slice Ao pre.length co) pre x [.string x] (fun _ => True) (fun _ => False) rfl rfl ?aP (fun _ hk => hk.elim) (fun _ _ => trivial) ?aO ?aB ?aS ?aL ?_; (case aP => exact rfl); (case aO => exact HR.out); (case aB => exact HB.out); (case aS => exact below_size HB.out); (case aL => have := HLX.out; have := HLT.out; omega); intro v5 w5 ho hb hg hat; refine Or.inl ⟨rfl, ?_⟩; have n0_ := A_ ho; have n1_ := A_ hb; have n2_ := A_ ((hg.block O (blk_lt BG.out) (rows_ne HR.out BG.out z106_)).trans BG.out); have n3_ := A_ (rows_keeps (B := w3.heap.size) HR.out hg); have n4_ := A_ ((Below.refl w.heap.size W).grown hg (below_size HB.out) (fun k e => Kd.R_base HR.out k e)); clear HR HB BG d0 f0 ho hb hg hat; have HR := n0_; have HB := n1_; have BG := n2_; clear n0_ n1_ n2_; obtain ⟨A9, c9, e9⟩ := Kd.R_slice HR.out; subst e9; have d0 : w5.cell? ⟨O, 0, none⟩ = some (.slice Ao pre.length co) := (blk_cell BG.out 0).trans rfl; have f0 := blk_frozen BG.out 0))
  have HR2 := A_ (show Kd.R Kd.string 9 w5 w.heap.size (fun _ => True) (.slice A9 (pre.length + 1) c9) (pre ++ [x]) from z157_)
  have hge : w.heap.size ≤ O := by have := HOE.out; omega
  have h1 : (w5.setCell ⟨O, 0, none⟩ (.slice A9 (pre.length + 1) c9)).heap[O]? = some (.cells #[.slice A9 (pre.length + 1) c9] 23 (0, 0)) := blk_set BG.out 0 _; have h2 : Kd.R Kd.string 9 (w5.setCell ⟨O, 0, none⟩ (.slice A9 (pre.length + 1) c9)) w.heap.size (fun k => True ∧ k ≠ O) (.slice A9 (pre.length + 1) c9) (pre ++ [x]) := Kd.R_far (p := ⟨O, 0, none⟩) (Kd.R_types HR2.out BG.out (by simp [Kd.string, Kd.scalar])) (fun k hk => hk.2) _; exact ⟨n3_.out.trans ((KeepsOthers.setCell _ _ _).from _), n4_.out.setCell (p := ⟨O, 0, none⟩) hge _, ⟨_, h1, Kd.R_mono h2 (fun k hk => hk.1), below_set HB.out hge⟩⟩
end Go.Proofs.YtbbmdakdghefnaaGreatDoor.T

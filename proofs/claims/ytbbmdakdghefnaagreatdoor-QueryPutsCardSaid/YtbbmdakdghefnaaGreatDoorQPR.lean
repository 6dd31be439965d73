import Derived.Test.YtbbmdakdghefnaaGreatDoorQPP
import Derived.Test.YtbbmdakdghefnaaGreatDoorQPL
/- Texts of this claim, laid together by a program (merge.py): Wi. -/
set_option maxRecDepth 100000
namespace Go.Proofs.YtbbmdakdghefnaaGreatDoor.T
open Go.RowKit Go.Proofs.YtbbmdakdghefnaaGreatDoorW.PrintWords Go.Proofs.YtbbmdakdghefnaaGreatDoorW.PrintLast Go.Proofs.YtbbmdakdghefnaaGreatDoorW.PrintMore
attribute [local go_sem] max2_int min2_int max_two min_two max_three min_three max_four min_four
set_option linter.unusedVariables false
set_option linter.unusedSimpArgs false
open Go.Shelf
attribute [local go_sem] Oper.semAt_some
def startsF (ahead : Int) : List Int → List Int
 | [] => []
 | x :: l => if ahead ≤ x then wrap64 (x - ahead) :: startsF ahead l else startsF ahead l
theorem startsF_append (a : Int) : ∀ xs ys, startsF a (xs ++ ys) = startsF a xs ++ startsF a ys
 | [], _ => rfl
 | x :: l, ys => by
  simp only [List.cons_append, startsF, startsF_append a l ys]
  split <;> rfl
theorem startsF_len (a : Int) : ∀ xs, (startsF a xs).length ≤ xs.length
 | [] => Nat.le_refl _
 | x :: l => by
  have := startsF_len a l; simp only [startsF]
  split <;> simp only [List.length_cons] <;> omega
set_option maxHeartbeats 1000000 in
theorem starts_calls (d : Int) (A : Option Addr) (n c : Nat) (ahead : Int) (w : World) :
  Calls Tryz.prog 141 #[.agg #[.int .i64 d, .slice A n c], .int .i64 ahead] w fun e w' => e = .returned (.func (.func 182) #[] #[.pointer (some ⟨w.heap.size, 0, none⟩), .pointer (some ⟨w.heap.size + 1, 0, none⟩)]) ∧ w' = (w.alloc (.cells #[.int .i64 d, .slice A n c] 99)).alloc (.cells #[.int .i64 ahead] 3) := by
 have hmf : ∀ (fn : Fn) (first cap : Array Value) (w : World), (Instr.makeFunc fn first cap).run Tryz.prog w = .ok (.func fn first cap) w := fun _ _ _ _ => rfl; go_enter Tryz.func141, Tryz.ntmps141; go_wp2; go_ret; exact ⟨z219_, rfl⟩
/-- What lay below N lies as it lay, but for the block O. -/
def KpO (N O : Nat) (X Y : World) : Prop := ∀ k, k < N → k ≠ O → Y.heap[k]? = X.heap[k]?
theorem kpO_cell {N O : Nat} {X Y : World} (h : KpO N O X Y) {p : Addr} (h1 : p.block < N) (h2 : p.block ≠ O) : Y.cell? p = X.cell? p := World.cell?_of_block (w := X) (h p.block h1 h2)
theorem kpO_trans {N O : Nat} {X Y Z : World} (h : KpO N O X Y) (k : KpO N O Y Z) : KpO N O X Z := fun i h1 h2 => (k i h1 h2).trans (h i h1 h2)
set_option maxHeartbeats 4000000 in
theorem starts1_in (n : Nat) (l B1 B2 O : Nat) (A : Option Addr) (xs : List Int) (c : Nat) (ahead : Int) (w0 w3 : World) (h03 : Below w0.heap.size w0 w3) (hO : w0.heap.size ≤ O) (hC : Kd.C (Kd.int .i64) w0 A xs.length xs) (J Jx : List Int → World → Prop)
  (hY : ∀ pre x W, J pre W → pre.length < xs.length → YieldAt Fence.wide (n - 1) Tryz.prog l #[.int .i64 x] W fun e W' =>
   (e = .returned (.bool true) ∧ J (pre ++ [x]) W' ∧ KpO w3.heap.size O W W') ∨ (e = .returned (.bool false) ∧ Jx (pre ++ [x]) W'))
  (W : World) (hW0 : Below w3.heap.size w3 W) (hl1 : B1 < w3.heap.size) (hl2 : B2 < w3.heap.size) (hne : B2 ≠ O) (hBs3 : w3.cell? ⟨B1, 1, none⟩ = some (.slice A xs.length c)) (hBa3 : w3.cell? ⟨B2, 0, none⟩ = some (.int .i64 ahead)) (h0 : J [] W) :
  CallsIn Fence.wide n Tryz.prog 182 #[.func (.yield l) #[] #[], .pointer (some ⟨B1, 0, none⟩), .pointer (some ⟨B2, 0, none⟩)] W fun e W' => (∃ v, e = .returned v) ∧
   ((∃ ys, ys = startsF ahead xs ∧ J ys W') ∨ (∃ pre, True ∧ Jx pre W')) := by
 have HC := A_ hC; have HL2 := A_ hl2; have HNE := A_ hne; have HLM := A_ (show xs.length ≤ 9223372036854775807 from hC.2.1); have hBs := (hW0.cell (p := ⟨B1, 1, none⟩) hl1).trans hBs3; have hBa := (hW0.cell (p := ⟨B2, 0, none⟩) hl2).trans hBa3; have HBA0 := A_ hBa
 have HX := A_ (show ∀ p v, w0.cell? p = some v → ∀ wr, KpO w3.heap.size O W wr → wr.cell? p = some v from fun p v hp wr hk => by
  have hlt := World.block_lt_of_cell? w0 _ hp; have h3 := h03.size
  exact (kpO_cell hk z161_ z161_).trans ((hW0.cell z161_).trans ((h03.cell hlt).trans hp)))
 clear hC hl1 hl2 hne hBs3 hBa3 hW0 h03 hO; refine callsIn_of_wp Tryz.func182 rfl trivial ?_ rfl; simp only [Tryz.ntmps182, List.size_toArray, List.length_cons, List.length_nil, Nat.reduceAdd, Nat.reduceSub, Array.replicate_succ, Array.replicate_zero, List.push_toArray, List.append_toArray, List.nil_append, List.cons_append]
 gi_wp2
 clear hBa
 gi_loopw [9] (fun i wr => ∃ k : Nat, k ≤ xs.length ∧ i = .int .i64 (k : Int) ∧ J (startsF ahead (xs.take k)) wr ∧ KpO w3.heap.size O W wr)
  (fun i _ => xs.length - (intOf i).toNat)
 case atStart => exact ⟨0, Nat.zero_le _, rfl, h0, fun _ _ _ => rfl⟩
 case round =>
  obtain ⟨k, hk, rfl, hJs, hnx⟩ := hrel; have e2 : wr.cell? ⟨B2, 0, none⟩ = some (.int .i64 ahead) := (kpO_cell hnx HL2.out HNE.out).trans HBA0.out
  by_cases hlt : k < xs.length
  ·
   have c1 : decide ((k : Int) < (xs.length : Int)) = true := decide_eq_true z161_; have c2 : decide (k < xs.length) = true := decide_eq_true hlt; obtain ⟨ad, rfl, hx0⟩ := Kd.at_int HC.out (k : Int) z161_ z161_; rw [Int.toNat_natCast] at hx0; replace hx0 := HX.out _ _ hx0 _ hnx; have p1 : (0 : Int) ≤ (k : Int) := z161_; have p2 : (k : Int) < (xs.length : Int) := z161_; replace p1 := eq_true p1; replace p2 := eq_true p2
   have hw : wrap64 ((k : Int) + 1) = ((k + 1 : Nat) : Int) := by have := HLM.out; unfold wrap64; omega
   have htk : startsF ahead (xs.take (k + 1)) = startsF ahead (xs.take k) ++ startsF ahead [rd xs (k : Int)] := by
    rw [← startsF_append]
    congr 1
    unfold rd; rw [Int.toNat_natCast, List.getD_eq_getElem?_getD, List.getElem?_eq_getElem hlt, Option.getD_some, List.take_add_one, List.getElem?_eq_getElem hlt]
    rfl
   have hlen : (startsF ahead (xs.take k)).length < xs.length := by
    have := startsF_len ahead (xs.take k); rw [List.length_take] at this; omega
   by_cases hge : ahead ≤ rd xs (k : Int)
   ·
    have g1 : decide (ahead ≤ rd xs (k : Int)) = true := decide_eq_true hge; simp only [startsF, if_pos hge] at htk; have HTK := A_ htk; obtain ⟨fn, tmps, assign, body, hy, hR⟩ := hY _ (wrap64 (rd xs (k : Int) - ahead)) wr hJs hlen; generalize rd xs (k : Int) = x at *; clear hJs htk hlen hge
    gi_wp2
    refine ⟨fun h => absurd h z220_, ?_⟩; refine hR.mono ?_; rintro e W3 (⟨rfl, hJ3, hk3⟩ | ⟨rfl, hJx3⟩)
    ·
     clear hx0 c1 c2 p1 p2 e2
     gi_wp2
     go_roundw
     case rel => exact ⟨k + 1, hlt, by rw [hw], by rw [HTK.out]; exact hJ3, kpO_trans hnx hk3⟩
     case measure => rw [hw]; simp [intOf]; omega
    ·
     gi_wp2
     refine bodyPost_ret (results_none rfl _ _ _) rfl ?_; exact ⟨⟨_, rfl⟩, .inr ⟨_, trivial, hJx3⟩⟩
   ·
    have g1 : decide (ahead ≤ rd xs (k : Int)) = false := decide_eq_false hge; simp only [startsF, if_neg hge, List.append_nil] at htk; have HTK := A_ htk; generalize rd xs (k : Int) = x at *; clear htk hlen hge
    gi_wp2
    refine ⟨fun f h => (by cases h), ?_⟩
    gi_wp2
    go_roundw
    case rel => exact ⟨k + 1, hlt, by rw [hw], by rw [HTK.out]; exact hJs, hnx⟩
    case measure => rw [hw]; simp [intOf]; omega
  ·
   have c1 : decide ((k : Int) < (xs.length : Int)) = false := decide_eq_false z161_; have c2 : decide (k < xs.length) = false := decide_eq_false hlt; have hkN : xs.take k = xs := List.take_of_length_le z161_; rw [hkN] at hJs
   gi_wp2
   go_end0
   exact ⟨⟨_, rfl⟩, .inl ⟨_, rfl, hJs⟩⟩
theorem starts_stops (n B1 B2 O : Nat) (A : Option Addr) (xs : List Int) (c : Nat) (ahead : Int) (w0 w3 : World) (h03 : Below w0.heap.size w0 w3) (hO : w0.heap.size ≤ O) (hC : Kd.C (Kd.int .i64) w0 A xs.length xs) (h1 : B1 < w3.heap.size) (h2 : B2 < w3.heap.size) (hne : B2 ≠ O) (hBs : w3.cell? ⟨B1, 1, none⟩ = some (.slice A xs.length c)) (hBa : w3.cell? ⟨B2, 0, none⟩ = some (.int .i64 ahead)) :
  SeqStopsK Fence.wide n Tryz.prog 182 #[.pointer (some ⟨B1, 0, none⟩), .pointer (some ⟨B2, 0, none⟩)] (fun x : Int => #[.int .i64 x]) (KpO w3.heap.size O) (fun ys => ys = startsF ahead xs) (fun _ => True) xs.length w3 := fun l J Jx W hW _ _ hY hJ0 =>
 starts1_in n l B1 B2 O A xs c ahead w0 w3 h03 hO hC J Jx hY W hW h1 h2 hne hBs hBa hJ0
theorem oper_inW {n : Nat} {o : Oper} {a : Act} {w : World} {K : Act → World → Prop} {Q : Exit → Act → World → Prop} (h : o.wp Tryz.prog a w K (cutQ Q)) : o.wpIn Fence.wide n Tryz.prog a w K Q := by
  unfold Oper.wpIn; refine ⟨fun _ _ => trivial, ?_⟩; unfold Oper.wp at h; rw [show Oper.semAt Fence.wide.round a.eval o = execOp a.eval o from rfl]; generalize (execOp a.eval o).run Tryz.prog w = r at *
  cases r with
  | ok x w' =>
    cases x <;> simp only [Oper.upon, Oper.uponIn] at h ⊢
    all_goals first
      | exact h
      | exact h.elim
      | (refine ⟨fun hd => absurd hd z220_, ?_⟩
         refine (callsIn_wide.2 h).mono ?_; intro e w'' he
         cases e with
         | returned v => exact he
         | panicked c => exact he
         | outgrown => exact (cutQ_lets he).elim)
      | (refine ⟨fun hd => absurd hd z220_, ?_⟩
         exact fun c cs _ => let ⟨v, w', r, s⟩ := h c cs; ⟨v, w', r, stepsIn_wide.2 s⟩)
  | halt x w' => cases x <;> simp only [Oper.upon, Oper.uponIn] at h ⊢ <;> exact h
theorem op_inW {n : Nat} {ops : Array Oper} {rest : List Oper} {o : Oper} {Q : Exit → Act → World → Prop} {a : Act} {w : World}
  (h : wpList Tryz.prog ops (cutQ fun e a' w' => (e = .normal ∧ wpListIn Fence.wide n Tryz.prog ops Q rest a' w') ∨ (e ≠ .normal ∧ Q e a' w')) [o] a w) : wpListIn Fence.wide n Tryz.prog ops Q (o :: rest) a w := by
 simp only [wpList] at h; simp only [wpListIn]
 by_cases hw : Region.wanted o (yielded ops a.tmps) = true
 ·
  rw [if_pos hw] at h ⊢
  rcases h with h | ⟨_, h⟩
  ·
   refine oper_inW ?_; refine Oper.wp_post (fun a' w' hk => ?_) (fun c a' w' hq => ?_) h
   ·
    rcases hk with hk | hk
    · exact hk.2
    · exact absurd rfl hk.1
   ·
    rcases hq with hq | hq
    · cases hq.1
    · exact hq.2
  · exact (cutQ_lets h).elim
 ·
  rw [if_neg hw] at h ⊢; refine ⟨fun _ _ => trivial, ?_⟩
  rcases h with h | h
  · exact h.2
  · exact absurd rfl h.1
/-- What the loop over the starts keeps: the box's row. -/
def WiI (W : World) (O : Nat) (pre : List Int) (W' : World) : Prop := ∃ v, W'.heap[O]? = some (.cells #[v] 42 (0, 0)) ∧ Kd.R (Kd.int .i64) 3 W' O (fun k => W.heap.size ≤ k) v pre ∧ W.grownBy W' (some O)
theorem WiI_own (W : World) (O : Nat) : OwnFrom W.heap.size (WiI W O) := by
 rintro s X Y row ⟨v, h1, h2, h3⟩ hg hr
 have kp : ∀ (k : Nat) (cs : Array Value) (t : TypeId), X.heap[k]? = some (.cells cs t (0, 0)) → some k ≠ row := by
  intro k cs t hk e; obtain ⟨_, o, ho, hc⟩ := hr k e.symm; rw [hk] at ho; cases ho; cases hc
 refine ⟨v, (hg.block O (blk_lt h1) (kp _ _ _ h1)).trans h1, ?_, ?_⟩
 ·
  refine Kd.R_mono (Kd.R_grown (Kd.R_bound h2) hg (fun k hk => ?_)) (fun k hk => hk.1); obtain ⟨_, _, _, q, _, cells, hc⟩ := hk; exact kp k cells q hc
 ·
  refine ⟨hg.os.trans h3.os, hg.tape.trans h3.tape, hg.output.trans h3.output, Nat.le_trans h3.size hg.size, fun i hi hne => ?_⟩; exact (hg.block i (Nat.lt_of_lt_of_le hi h3.size) (fun e => by have := (hr i e.symm).1; omega)).trans (h3.block i hi hne)
theorem grown_below {W W' : World} {O : Nat} (h : W.grownBy W' (some O)) (hO : O ≤ W.heap.size) : Below O W W' := ⟨h.os, h.tape, h.output, h.size, fun k hk => h.block k (Nat.lt_of_lt_of_le hk hO) (fun e => by cases e; omega)⟩
theorem introws_keeps {wr w2 : World} {base B : Nat} {ok : Nat → Prop} {v : Value} {xs : List Int} (h : Kd.R (Kd.int .i64) 3 wr base ok v xs) (hg : wr.grownBy w2 v.ownBlock) : KeepsFrom B wr w2 :=
 (KeepsOthers.of_grownBy hg (fun j o e ho => by
  obtain ⟨cells, hc⟩ := Kd.R_typed h j e; rw [ho] at hc; cases hc
  rfl)).from B
set_option maxHeartbeats 4000000 in
/-- The range over the starts, appended to the box. -/
theorem starts_range (A : Option Addr) (xs : List Int) (c : Nat) (ahead : Int) (w0 W : World) (B1 B2 O : Nat) (u0 u1 u2 u3 u4 u5 u6 u7 u9 u10 u11 u12 u13 u14 u15 u16 u17 u18 u19 u20 u21 u22 u23 u25 u26 u27 u28 u29 u30 u31 u32 u33 u34 u35 u36 : Value) (ds : List Deferred) (Q : Exit → Act → World → Prop) (h0W : Below w0.heap.size w0 W) (hOw : w0.heap.size ≤ O) (hC : Kd.C (Kd.int .i64) w0 A xs.length xs) (hl : xs.length ≤ 17592186044415) (h1 : B1 < W.heap.size) (h2 : B2 < W.heap.size) (hne : B2 ≠ O) (hBs : W.cell? ⟨B1, 1, none⟩ = some (.slice A xs.length c)) (hBa : W.cell? ⟨B2, 0, none⟩ = some (.int .i64 ahead))
  (hO : W.heap[O]? = some (.cells #[.slice none 0 0] 42 (0, 0)))
  (hQ : ∀ (D : Nat) (v : Value) (W' : World), W.heap.size ≤ D → W'.heap[D]? = some (.deferred (some [])) → W'.heap[O]? = some (.cells #[v] 42 (0, 0)) → Kd.R (Kd.int .i64) 3 W' O (fun k => W.heap.size ≤ k) v (startsF ahead xs) → W.grownBy W' (some O) → Q .normal ⟨#[u0, u1, u2, u3, u4, u5, u6, u7, Value.pointer (some ⟨O, 0, none⟩), u9, u10, u11, u12, u13, u14, u15, u16, u17, u18, u19, u20, u21, u22, u23, Value.func (.func 182) #[] #[.pointer (some ⟨B1, 0, none⟩), .pointer (some ⟨B2, 0, none⟩)], u25, u26, u27, u28, u29, u30, u31, u32, u33, u34, u35, u36], { target := .collected D, args := #[] } :: ds⟩ W') :
  (Code.rangeFunc (.tmp 24) #[25] (Code.region 7 #[{ dst := some 9, op := Op.assign (Operand.tmp 25), type := 3, pos := "phrase.go:38", after := #[], guard := none }] false) (Code.block 3 (Code.region 8 #[{ dst := some 26, op := Op.load 42 (Operand.tmp 8), type := 42, pos := "phrase.go:39", after := #[], guard := none }, { dst := some 27, op := Op.move (Operand.tmp 9), type := 3, pos := "phrase.go:39", after := #[], guard := none }, { dst := some 28, op := Op.buildSlice 42 1 #[(0, Operand.tmp 27)], type := 42, pos := "phrase.go:39", after := #[{ on := 1, ground := Ground.data }], guard := none }, { dst := some 29, op := Op.call { callee := Callee.builtin Builtin.append, args := #[Operand.tmp 26, Operand.tmp 28], argTypes := #[42, 42] }, type := 42, pos := "phrase.go:39", after := #[{ on := 0, ground := Ground.data }, { on := 2, ground := Ground.data }], guard := none }, { dst := none, op := Op.store 42 (Operand.tmp 8) (Operand.tmp 29), type := 0, pos := "phrase.go:39", after := #[{ on := 3, ground := Ground.data }, { on := 3, ground := Ground.chain }, { on := 0, ground := Ground.phase }, { on := 1, ground := Ground.phase }, { on := 2, ground := Ground.phase }, { on := 3, ground := Ground.phase }], guard := none }] false))).wpIn Fence.wide 5 Tryz.prog Q ⟨#[u0, u1, u2, u3, u4, u5, u6, u7, Value.pointer (some ⟨O, 0, none⟩), u9, u10, u11, u12, u13, u14, u15, u16, u17, u18, u19, u20, u21, u22, u23, Value.func (.func 182) #[] #[.pointer (some ⟨B1, 0, none⟩), .pointer (some ⟨B2, 0, none⟩)], u25, u26, u27, u28, u29, u30, u31, u32, u33, u34, u35, u36], ds⟩ W := by
 refine wpIn_rangeFunc_ownG rfl z161_ (gf := 182) (lb := #[.pointer (some ⟨B1, 0, none⟩), .pointer (some ⟨B2, 0, none⟩)]) rfl trivial (enters_of Tryz.func182 z159_ rfl)
  (starts_stops 4 B1 B2 O A xs c ahead w0 W h0W hOw hC h1 h2 hne hBs hBa) (fun h k => kpO_trans h k)
  (fun W1 r o o' hr hk h1 h2 => fun i hi _ => World.putObj_heap_other z161_) (Below.refl _ _) (fun _ => rfl)
  (WiI W O) (fun _ _ _ => False) (WiI_own W O) (fun _ _ _ _ _ hs _ _ => hs) ⟨_, hO, Kd.R_nil _ _ _ _ _, World.grownBy.refl _ _⟩ (fun x => ⟨#[u0, u1, u2, u3, u4, u5, u6, u7, Value.pointer (some ⟨O, 0, none⟩), Value.int .i64 x, u10, u11, u12, u13, u14, u15, u16, u17, u18, u19, u20, u21, u22, u23, Value.func (.func 182) #[] #[.pointer (some ⟨B1, 0, none⟩), .pointer (some ⟨B2, 0, none⟩)], Value.int .i64 x, u26, u27, u28, u29, u30, u31, u32, u33, u34, u35, u36], []⟩) ?assign ?body ?done ?stop
 case assign =>
  intro r x W K hK
  gi_wp2
  exact hK
 case stop =>
  intro D c pre W _ _ h _; exact h.elim
 case done =>
  rintro D ys W' hD rfl ⟨v, g1, hrow, hg⟩ hK; exact hQ D v W' hD hK g1 hrow hg
 case body =>
  rintro r pre x W1 ⟨v, g1, hrow, hg⟩ hlt; obtain ⟨Ao, co, rfl⟩ := Kd.R_slice hrow; have d0 : W1.cell? ⟨O, 0, none⟩ = some (.slice Ao pre.length co) := (blk_cell g1 0).trans rfl; have f0 := blk_frozen g1 0; have HR := A_ hrow; have BG := A_ g1; have HG := A_ hg; have HB := A_ (grown_below hg (Nat.le_of_lt (blk_lt hO))); have HLT := A_ hlt; have HOL := A_ (blk_lt hO); have HL := A_ hl; have HSZ := A_ hg.size; clear hrow g1 hg hlt hQ hC hl hO h1 h2 hBs hBa hne h0W hOw
  gi_wp2_with (first | (gi_at_builtin; refine op_in (by intro c h; cases h) ?_; refine Kd.R_append (Kd.int .i64) (w0 := W) O rfl (.tmp 26) (.tmp 28) 42 3 (.int .i64 0) 8 rfl Tryz.underlying42 info3 rfl z106_ z161_ (.slice Ao pre.length co) pre x [.int .i64 x] (fun k => W.heap.size ≤ k) (fun _ => False) rfl rfl rfl (fun _ hk => hk.elim) (fun k hk => Nat.le_trans HSZ.out hk) HR.out HB.out (Nat.le_trans (Nat.le_of_lt HOL.out) HSZ.out) (by have := HLT.out; have := HL.out; omega) ?_; intro v5 w5 ho hb hg hat; refine Or.inl ⟨rfl, ?_⟩; have n0_ := A_ ho; have n2_ := A_ ((hg.block O (blk_lt BG.out) (Kd.R_ne HR.out BG.out z106_)).trans BG.out); have n3_ := A_ (introws_keeps (B := W.heap.size) HR.out hg); have n4_ := A_ (show KpO W.heap.size O W1 w5 from fun i h1 h2 => hg.block i (Nat.lt_of_lt_of_le h1 HSZ.out) (fun e => by have := HR.out.1 i e.symm; omega)); have n5_ := A_ (show ∀ i, i < W.heap.size → some i ≠ (some O : Option Nat) → w5.heap[i]? = W.heap[i]? from fun i h1 h2 => (n4_.out i h1 (fun e => h2 (congrArg some e))).trans (HG.out.block i h1 h2)); have n6_ := A_ hg; have n7_ := A_ (Nat.le_trans HSZ.out hg.size); clear HR BG d0 f0 ho hb hg hat; have HR := n0_; have BG := n2_; clear n0_ n2_; obtain ⟨A9, c9, e9⟩ := Kd.R_slice HR.out; subst e9; have d0 : w5.cell? ⟨O, 0, none⟩ = some (.slice Ao pre.length co) := (blk_cell BG.out 0).trans rfl; have f0 := blk_frozen BG.out 0))
  have HR2 := A_ (show Kd.R (Kd.int .i64) 3 w5 O (fun k => W.heap.size ≤ k) (.slice A9 (pre.length + 1) c9) (pre ++ [x]) from z157_); have h1 : (w5.setCell ⟨O, 0, none⟩ (.slice A9 (pre.length + 1) c9)).heap[O]? = some (.cells #[.slice A9 (pre.length + 1) c9] 42 (0, 0)) := blk_set BG.out 0 _; have h2 : Kd.R (Kd.int .i64) 3 (w5.setCell ⟨O, 0, none⟩ (.slice A9 (pre.length + 1) c9)) O (fun k => W.heap.size ≤ k ∧ k ≠ O) (.slice A9 (pre.length + 1) c9) (pre ++ [x]) := Kd.R_far (p := ⟨O, 0, none⟩) (Kd.R_types HR2.out BG.out z106_) (fun k hk => hk.2) _; refine ⟨n3_.out.trans ((KeepsOthers.setCell _ _ _).from _), fun i h1 h2 => (Below.heap_setCell w5 ⟨O, 0, none⟩ _ i h2).trans (n4_.out i h1 h2), ⟨_, h1, Kd.R_mono h2 (fun k hk => hk.1), ?_⟩⟩; exact Lib.grownBy_setB ⟨n6_.out.os.trans HG.out.os, n6_.out.tape.trans HG.out.tape, n6_.out.output.trans HG.out.output, n7_.out, n5_.out⟩ 0 _
theorem new1w (W : World) (o1 o2 : Obj) : ((W.alloc o1).alloc o2).heap[W.heap.size + 1]? = some o2 := by
 have h := blk_new (W.alloc o1) o2; rw [World.size_alloc] at h; exact h
def markOf (D : Nat) : Deferred := { target := .collected D, args := #[] }
structure KeepL (Ds : List Nat) (W W' : World) : Prop where
 os : W'.os = W.os
 tape : W'.tape = W.tape
 output : W'.output = W.output
 size : W'.heap.size = W.heap.size
 block : ∀ k, k ∉ Ds → W'.heap[k]? = W.heap[k]?
theorem leave_marks {F : Fence} {n : Nat} {fn : Func} {tmps : Array Value} {R : Ending → World → Prop} : ∀ (Ds : List Nat) (W : World), Ds.Nodup → (∀ D ∈ Ds, W.heap[D]? = some (.deferred (some []))) → (∀ W', KeepL Ds W W' → LeavesInM F n Tryz.prog fn tmps R [] .returning W') →
  LeavesInM F n Tryz.prog fn tmps R (Ds.map markOf) .returning W
 | [], W, _, _, h => h W ⟨rfl, rfl, rfl, rfl, fun _ _ => rfl⟩
 | D :: Ds, W, hn, hd, h => by
  have hD := hd D (List.mem_cons_self ..); have hlt := blk_lt hD; have hnn := List.nodup_cons.1 hn; refine ⟨z219_, .inl ⟨D, _, rfl, run_takeDeferred hD, ?_⟩⟩; refine leave_marks Ds _ hnn.2 (fun E hE => ?_) (fun W' hk => ?_)
  ·
   have hne : E ≠ D := fun e => hnn.1 (e ▸ hE); exact (World.putObj_heap_other hne).trans (hd E (List.mem_cons_of_mem _ hE))
  ·
   refine h W' ⟨hk.os, hk.tape, hk.output, hk.size.trans z219_, fun k hk' => ?_⟩; have h1 : k ≠ D := fun e => hk' (e ▸ List.mem_cons_self ..); have h2 : k ∉ Ds := fun e => hk' (List.mem_cons_of_mem _ e); exact (hk.block k h2).trans (World.putObj_heap_other h1)
def f65.l0 : Nat → List (List S99) → Int → Int → List (List Int) → Option (List Int)
 | 0, _, _, _, _ => none
 | k + 1, l, doc, i, all => if i < (l.length : Int) then (if 0 ≤ i then ((f83.f k (rd_L8 l i) doc).bind fun q => if 0 ≤ q then (if q < ((rd_L8 l i).length : Int) then (if ((rd_T99 (rd_L8 l i) q).f1).length ≤ 17592186044415 then (if all.length < 5864062014805 then f65.l0 k l doc (wrap64 (i + 1)) (all ++ [startsF i (rd_T99 (rd_L8 l i) q).f1]) else none) else none) else none) else none) else none) else f62.f k all
def f65.f (k : Nat) (l : List (List S99)) (doc : Int) : Option (List Int) := f65.l0 k l doc 0 []
set_option maxHeartbeats 8000000 in
theorem within_in (k : Nat) (A : Option Addr) (c : Nat) (l : List (List S99)) (doc : Int) (r : List Int) (w : World) (hr0 : Kd.C (Kd.slice 99 k99) w A l.length l) (hc0 : l.length ≤ c) (h : f65.f k l doc = some r) :
  CallsIn Fence.wide 5 Tryz.prog 107 #[.slice A l.length c, .int .i64 doc] w fun e w' => ∃ v0_ : Value, e = .returned (v0_) ∧ Kd.R (Kd.int .i64) 3 w' w.heap.size (fun _ => True) v0_ r ∧ Below w.heap.size w w' := by
 have HC := A_ hr0; have HH := A_ h; clear hr0 hc0 h; refine callsIn_of_wp_marks Tryz.func107 rfl trivial ?_ rfl; simp only [Tryz.ntmps107, List.size_toArray, List.length_cons, List.length_nil, Nat.reduceAdd, Nat.reduceSub, Array.replicate_succ, Array.replicate_zero, List.push_toArray, List.append_toArray, List.nil_append, List.cons_append]
 gi_wp2
 refine wpIn_loop_ghost_k (fun kq a' W => ∃ (x2 x3 x4 x6 x7 x8 x9 x13 x14 x15 x16 x17 x18 x19 x20 x21 x22 x23 x24 x25 x26 x27 x28 x29 x30 x31 x32 x33 x34 x35 x36 : Value) (v5 : Value) (i : Int) (all : List (List Int)) (Ds : List Nat), (Aside0 (f65.l0 kq l doc i all = some r) ∧ Aside0 (Kd.S (Kd.slice 3 (Kd.int .i64)) 42 W w.heap.size (fun _ => True) v5 all) ∧ Aside0 (Below w.heap.size w W) ∧ Aside0 (∀ D ∈ Ds, W.heap[D]? = some (.deferred (some [])) ∧ w.heap.size ≤ D) ∧ Aside0 (Ds.Nodup)) ∧ a' = ⟨#[Value.slice A l.length c, Value.int .i64 doc, x2, x3, x4, v5, x6, x7, x8, x9, Value.slice A l.length c, Value.int .i64 (l.length : Int), Value.int .i64 i, x13, x14, x15, x16, x17, x18, x19, x20, x21, x22, x23, x24, x25, x26, x27, x28, x29, x30, x31, x32, x33, x34, x35, x36], Ds.map markOf⟩) k ?start ?round
 case start => exact ⟨_, _, _, _, _, _, _, _, _, _, _, _, _, _, _, _, _, _, _, _, _, _, _, _, _, _, _, _, _, _, _, .slice none 0 0, 0, [], [], ⟨HH, ⟨Kd.S_nil _ _ _ _ _⟩, ⟨Below.refl _ _⟩, ⟨z219_⟩, ⟨List.nodup_nil⟩⟩, rfl⟩
 case round =>
  clear HH; rintro gk a' wr ⟨x2, x3, x4, x6, x7, x8, x9, x13, x14, x15, x16, x17, x18, x19, x20, x21, x22, x23, x24, x25, x26, x27, x28, x29, x30, x31, x32, x33, x34, x35, x36, v5, i, all, Ds, ⟨HA, HS, HB, MK, ND⟩, rfl⟩; intro J K hJ hK
  cases gk with
  | zero => exact absurd HA.out (by simp [f65.l0])
  | succ k1 =>
  have H := HA.out; clear HA; simp only [f65.l0] at H
  by_cases h1 : i < (l.length : Int)
  ·
   rw [if_pos h1] at H; have d1 : decide (i < (l.length : Int)) = true := decide_eq_true h1
   by_cases h0 : 0 ≤ i
   ·
    rw [if_pos h0] at H; obtain ⟨q, hq, H⟩ := bm_ H
    by_cases hq0 : 0 ≤ q
    ·
     rw [if_pos hq0] at H
     by_cases hq1 : q < ((rd_L8 l i).length : Int)
     ·
      rw [if_pos hq1] at H
      by_cases hm : ((rd_T99 (rd_L8 l i) q).f1).length ≤ 17592186044415
      ·
       rw [if_pos hm] at H
       by_cases hm2 : all.length < 5864062014805
       ·
        rw [if_pos hm2] at H; have H' := A_ H; have HQ := A_ hq; have HM := A_ hm; have HM2 := A_ hm2; obtain ⟨ad, A1, c1, ea, hx, hc1, hrow⟩ := at_L8 HC.out i h0 h1; cases ea; have hx := (HB.out.cell (World.block_lt_of_cell? w _ hx)).trans hx; obtain ⟨ad2, A2, c2, ea, hy0, hy1, hc2, hrow2⟩ := at_T99 hrow q hq0 hq1; cases ea; have HY0 := A_ hy0; have HY1 := A_ hy1; have HC1 := A_ hc1; have HROW := A_ hrow; have HROW2 := A_ hrow2; have p0 := eq_true h0; have q0 := eq_true h1; have p1 := eq_true hq0; have q1 := eq_true hq1; clear hy0 hy1 hc1 hrow hrow2 h0 h1 hq0 hq1 hm hm2 H hq hc2
        gi_wp2_with (first | (refine ⟨trivial, ?_⟩; gi_at_call 142; (refine (callsIn_wide.2 (f83.calls k1 (some ad2) c1 (rd_L8 l i) doc q _ (Kd.C_below HROW.out (below_alloc HB.out _)) HC1.out HQ.out)).mono ?_); rintro e w2 ⟨rfl, hb⟩; have HB2 := A_ (below_step (below_alloc (Below.refl wr.heap.size wr) (.cells #[.slice none 0 0] 42)) hb); have HO2 := A_ (blk_below (blk_new wr (.cells #[.slice none 0 0] 42)) hb); have hy0 := (HB2.out.cell (Nat.lt_of_lt_of_le (World.block_lt_of_cell? w _ HY0.out) HB.out.size)).trans ((HB.out.cell (World.block_lt_of_cell? w _ HY0.out)).trans HY0.out); have hy1 := (HB2.out.cell (Nat.lt_of_lt_of_le (World.block_lt_of_cell? w _ HY1.out) HB.out.size)).trans ((HB.out.cell (World.block_lt_of_cell? w _ HY1.out)).trans HY1.out); clear hb) | (refine ⟨trivial, ?_⟩; gi_at_call 141; (refine (callsIn_wide.2 (starts_calls (rd_T99 (rd_L8 l i) q).f0 A2 ((rd_T99 (rd_L8 l i) q).f1).length c2 i _)).mono ?_); rintro e w3 ⟨rfl, hw3⟩; have HW3 := A_ hw3; clear hw3))
        have hb3 : Below w2.heap.size w2 w3 := by rw [HW3.out]; exact below_alloc (below_alloc (Below.refl _ _) _) _
        have hz3 : w3.heap.size = w2.heap.size + 2 := by rw [HW3.out]; simp
        have b1 : w3.cell? ⟨w2.heap.size, 1, none⟩ = some (.slice A2 ((rd_T99 (rd_L8 l i) q).f1).length c2) := by rw [HW3.out]; exact (blk_cell (blk_alloc (blk_new w2 (.cells #[.int .i64 (rd_T99 (rd_L8 l i) q).f0, .slice A2 ((rd_T99 (rd_L8 l i) q).f1).length c2] 99)) _) 1).trans rfl
        have b2 : w3.cell? ⟨w2.heap.size + 1, 0, none⟩ = some (.int .i64 i) := by rw [HW3.out]; exact (blk_cell (new1w w2 (.cells #[.int .i64 (rd_T99 (rd_L8 l i) q).f0, .slice A2 ((rd_T99 (rd_L8 l i) q).f1).length c2] 99) (.cells #[.int .i64 i] 3)) 0).trans rfl
        have hO3 := blk_below HO2.out hb3; have hbw3 : Below w.heap.size w w3 := below_step HB.out (below_step HB2.out hb3); have hs2 := HB2.out.size; have hlo := blk_lt HO2.out; refine starts_range A2 ((rd_T99 (rd_L8 l i) q).f1) c2 i w w3 w2.heap.size (w2.heap.size + 1) wr.heap.size _ _ _ _ _ _ _ _ _ _ _ _ _ _ _ _ _ _ _ _ _ _ _ _ _ _ _ _ _ _ _ _ _ _ _ _ _ hbw3 (below_size HB.out) HROW2.out HM.out z161_ z161_ z161_ b1 b2 hO3 ?_; intro D v W' hD hdef hbox hrow hgr; have hs4 := Kd.S_mono (Kd.S_grown (Kd.S_bound (Kd.S_below (Kd.S_below (Kd.S_elderB HS.out wr.heap.size (Nat.le_refl _)) HB2.out) hb3)) hgr (fun k hk e => hk.1.2 (Option.some.inj e))) (fun k hk => (⟨trivial, hk.2.2.1⟩ : True ∧ k < w3.heap.size)); have hl5 := fun k hk => (Kd.S_lt (Kd.S_below (Kd.S_below HS.out HB2.out) hb3) k hk : k < w3.heap.size); have HS4 := A_ hs4; have HL5 := A_ hl5; have HB4 := A_ (hbw3.grown hgr (below_size hbw3) (fun k e => by cases e; exact below_size HB.out))
        have hneO : ∀ E, wr.heap[E]? = some (.deferred (some [])) → E ≠ wr.heap.size := fun E hE e => by have := blk_lt hE; omega
        have MK4 := A_ (show ∀ E ∈ D :: Ds, W'.heap[E]? = some (.deferred (some [])) ∧ w.heap.size ≤ E from by
         intro E hE
         rcases List.mem_cons.1 hE with rfl | hE
         · exact ⟨hdef, Nat.le_trans (below_size hbw3) hD⟩
         ·
          have h1 := (MK.out E hE).1; have h3 := blk_below (blk_below h1 HB2.out) hb3
          exact ⟨(hgr.block E (blk_lt h3) (fun e => hneO E h1 (Option.some.inj e))).trans h3, (MK.out E hE).2⟩)
        have ND4 := A_ (show (D :: Ds).Nodup from List.nodup_cons.2 ⟨fun hE => by have := blk_lt (blk_below (blk_below (MK.out D hE).1 HB2.out) hb3); omega, ND.out⟩); obtain ⟨Av, cv, rfl⟩ := Kd.R_slice hrow; have HROW4 := A_ hrow; have e8 : W'.cell? ⟨wr.heap.size, 0, none⟩ = some (.slice Av (startsF i ((rd_T99 (rd_L8 l i) q).f1)).length cv) := (blk_cell hbox 0).trans rfl; have HHB := A_ (below_size HB.out); clear hb3 hz3 b1 b2 hO3 hbw3 hs2 hlo hs4 hl5 hneO hrow hgr hdef hbox hD HS MK ND HB HB2 HO2 HW3 hx hy0 hy1; generalize startsF i ((rd_T99 (rd_L8 l i) q).f1) = at_ at *
        gi_wp2_with (first | (gi_at_builtin; refine op_inW ?_; refine Kd.S_append (Kd.slice 3 (Kd.int .i64)) (w0 := w) w.heap.size rfl (.tmp 30) (.tmp 32) 78 42 (.slice none 0 0) 24 rfl Tryz.underlying78 info42 rfl z106_ z161_ v5 all at_ [.slice Av at_.length cv] (fun _ => True) (fun k_ => some k_ = (.slice Av at_.length cv : Value).ownBlock) rfl rfl ?aP (fun k hk => ⟨trivial, fun e => by have h1 := HROW4.out.1 k hk.symm; have h2 := HL5.out k e.symm; omega⟩) (fun _ _ => trivial) ?aO HB4.out (below_size HB4.out) (by have := HM2.out; omega) ?_; (case aP => exact Kd.M_row (Kd.R_lower (Kd.R_tight rfl HROW4.out) HHB.out)); (case aO => exact Kd.S_mono HS4.out (fun k hk => ⟨trivial, fun e => by have h1 := HROW4.out.1 k e.symm; omega⟩)); intro v6 w6 ho hb hg hat; refine Or.inl ⟨rfl, ?_⟩; have HS6 := A_ ho; have HB6 := A_ hb; have MK6 := A_ (show ∀ E ∈ D :: Ds, w6.heap[E]? = some (.deferred (some [])) ∧ w.heap.size ≤ E from fun E hE => ⟨(hg.block E (blk_lt (MK4.out E hE).1) (fun e => by obtain ⟨cs, hc⟩ := Kd.S_typed HS4.out E e.symm; rw [(MK4.out E hE).1] at hc; cases hc)).trans (MK4.out E hE).1, (MK4.out E hE).2⟩); clear ho hb hg hat))
        refine Handed.intro k1 ?measure ?_; rotate_left
        ·
         first | gi_step | go_step
         exact ⟨_, _, _, _, _, _, _, _, _, _, _, _, _, _, _, _, _, _, _, _, _, _, _, _, _, _, _, _, _, _, _, _, _, _, D :: Ds, ⟨H', HS6, HB6, MK6, ND4⟩, rfl⟩
        case measure => omega
       ·
        rw [if_neg hm2] at H; cases H
      ·
       rw [if_neg hm] at H; cases H
     ·
      rw [if_neg hq1] at H; cases H
    ·
     rw [if_neg hq0] at H; cases H
   ·
    rw [if_neg h0] at H; cases H
  ·
   rw [if_neg h1] at H; have d1 : decide (i < (l.length : Int)) = false := decide_eq_false h1; have H' := A_ H; clear H h1; obtain ⟨A5, c5, rfl⟩ := Kd.S_slice HS.out
   gi_wp2_with (refine ⟨trivial, ?_⟩; gi_at_call 81; (refine (callsIn_wide.2 (f62.calls k1 A5 c5 all r _ (Kd.S_reads' HS.out).2.2 (Kd.S_reads' HS.out).2.1 H'.out)).mono ?_); rintro e w2 ⟨v, rfl, hr2, hb2⟩; have HR2 := A_ hr2; have HB2 := A_ (below_step HB.out hb2); have MK2 := A_ (fun D hD => (⟨blk_below (MK.out D hD).1 hb2, (MK.out D hD).2⟩ : w2.heap[D]? = some (.deferred (some [])) ∧ w.heap.size ≤ D)); have HS2 := A_ hb2.size; clear hr2 hb2)
   refine leave_marks Ds w2 ND.out (fun D hD => (MK2.out D hD).1) (fun W' hk => ?_)
   have hnot : ∀ k, (∃ cells q, w2.heap[k]? = some (.cells cells q (0, 0))) → k ∉ Ds := fun k ⟨cells, q, hc⟩ hD => by
    rw [(MK2.out k hD).1] at hc; cases hc
   refine ⟨_, results_tmp rfl _ _ _, _, rfl, ?_, ?_⟩
   ·
    refine Kd.R_mono (Kd.R_lower (Kd.R_move (Kd.R_bound HR2.out) (fun k hk' => hk.block k (hnot k ?_))) (below_size HB.out)) (fun _ _ => trivial); obtain ⟨_, _, _, q, _, cells, hc⟩ := hk'; exact ⟨cells, q, hc⟩
   · exact ⟨hk.os.trans HB2.out.os, hk.tape.trans HB2.out.tape, hk.output.trans HB2.out.output, by rw [hk.size]; exact HB2.out.size, fun k hlt => (hk.block k (fun hD => by have := (MK2.out k hD).2; omega)).trans (HB2.out.block k hlt)⟩
theorem f65.calls (k : Nat) (A0 : Option Addr) (c0 : Nat) (l0 : List (List S99)) (a1 : Int) (r : List Int) (w : World) (hr0 : Kd.C (Kd.slice 99 k99) w A0 l0.length l0) (hc0 : l0.length ≤ c0) (h : f65.f k l0 a1 = some r) :
  Calls Tryz.prog 107 #[.slice A0 l0.length c0, .int .i64 a1] w fun e w' => ∃ v0_ : Value, e = .returned (v0_) ∧ Kd.R (Kd.int .i64) 3 w' w.heap.size (fun _ => True) v0_ r ∧ Below w.heap.size w w' :=
 callsIn_wide.1 (within_in k A0 c0 l0 a1 r w hr0 hc0 h)
end Go.Proofs.YtbbmdakdghefnaaGreatDoor.T

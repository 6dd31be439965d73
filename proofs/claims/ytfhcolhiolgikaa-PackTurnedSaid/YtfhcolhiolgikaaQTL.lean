import Derived.Test.YtfhcolhiolgikaaQTV
import Derived.OrdersIn
import Derived.Test.YtfhcolhiolgikaaProg
import Derived.Below
import Derived.Deep.Draws
import Derived.Deep.AppendLies
import Derived.Maps.AppendAt
import Derived.OwnWalk
import Derived.Laws.BytesArg
import Derived.Laws.MakeOwn
import Derived.Laws.OwnMore
import Derived.Deep.OwnRows
import Derived.Tactics
import Derived.Lib.ConvBytes
import Derived.Laws.Slices
import Derived.WalkKit
import Derived.KernelRfl
import Derived.RowKit3
import Derived.Deep.LoopGhost
import Derived.Deep.QuietTactic
import Derived.BigQuiet
import Derived.WideLaws
import Derived.Deep.DeepCutAuto
import Derived.Deep.CutBlock
import Derived.Deep.RegionHeld3
import Derived.Laws.Rows
import Derived.Lib.AppendStr
import Derived.ArgAppend
import Derived.Laws.IdiomCopy
import Derived.OrdersHeld
import Derived.Laws.BitsLemmas
import Derived.RowKit
import Derived.Test.YtfhcolhiolgikaaQTA
import Derived.Test.YtfhcolhiolgikaaQTB
import Derived.Test.YtfhcolhiolgikaaQTG
import Derived.Test.YtfhcolhiolgikaaQTK
import Derived.Test.YtfhcolhiolgikaaQTH
/- Texts of this claim, laid together by a program (merge.py): Pk. -/
/- Written by hp.py, this session's own program, out of the translation of this seat: Lean functions for the Go functions, and the proof that each call comes to what its Lean function says. -/
namespace Go.Proofs.Ytfhcolhiolgikaa.T
open Go.RowKit Go.Proofs.YtfhcolhiolgikaaW.PrintWords Go.Proofs.YtfhcolhiolgikaaW.PrintLast Go.Proofs.YtfhcolhiolgikaaW.PrintMore
attribute [local go_sem] max2_int min2_int max_two min_two max_three min_three max_four min_four   -- for this text's walks alone
set_option linter.unusedVariables false
set_option linter.unusedSimpArgs false
/-! ### post.Pack (18), by hand, inside the wide fence -/
open Go.Shelf Go.Proofs.Ytfhcolhiolgikaa.Plain
attribute [local go_sem] Oper.semAt_some
theorem keeps_below {W W' : World} (h : Below W.heap.size W W') : KeepsOthers W W' := ⟨h.size, fun k o hk _ => (h.block k (Array.getElem?_eq_some_iff.1 hk).1).trans hk⟩
/-- A post that speaks of ends and panics alone. -/
def cutQ (Q : Exit → Act → World → Prop) : Exit → Act → World → Prop
  | .normal, a, w => Q .normal a w
  | .panic c, a, w => Q (.panic c) a w
  | _, _, _ => False
theorem cutQ_lets {Q : Exit → Act → World → Prop} (h : LetsOut (cutQ Q)) : False := by
  obtain ⟨a, w, h⟩ := h
  exact h
theorem oper_in {l n : Nat} {o : Oper} {a : Act} {w : World} {K : Act → World → Prop} {Q : Exit → Act → World → Prop} (hnd : ∀ c, o.op ≠ .defer c) (h : o.wp Try.prog a w K (cutQ Q)) : o.wpIn (Fence.wide.inRound l) n Try.prog a w K Q := by
  unfold Oper.wpIn
  refine ⟨fun _ _ => trivial, ?_⟩
  rw [Oper.semAt_eq _ _ _ hnd]
  unfold Oper.wp at h
  generalize (execOp a.eval o).run Try.prog w = r at *
  cases r with
  | ok x w' =>
    cases x <;> simp only [Oper.upon, Oper.uponIn] at h ⊢
    all_goals first
      | exact h
      | exact h.elim
      | (refine ⟨fun hd => absurd hd (by simp [Fence.wide]), ?_⟩
         refine CallsIn.inRound l ((callsIn_wide.2 h).mono ?_)
         intro e w'' he
         cases e with
         | returned v => exact he
         | panicked c => exact he
         | outgrown => exact (cutQ_lets he).elim)
      | (refine ⟨fun hd => absurd hd (by simp [Fence.wide]), ?_⟩
         exact fun c cs _ => let ⟨v, w', r, s⟩ := h c cs; ⟨v, w', r, stepsIn_wide.2 s⟩)
  | halt x w' => cases x <;> simp only [Oper.upon, Oper.uponIn] at h ⊢ <;> exact h
theorem Oper.wp_post {o : Oper} {a : Act} {w : World} {K K' : Act → World → Prop} {Q Q' : Exit → Act → World → Prop} (hk : ∀ a w, K a w → K' a w) (hq : ∀ c a w, Q (.panic c) a w → Q' (.panic c) a w) (h : o.wp Try.prog a w K (cutQ Q)) : o.wp Try.prog a w K' (cutQ Q') := by
  unfold Oper.wp at *
  generalize (execOp a.eval o).run Try.prog w = r at *
  cases r with
  | ok x w' =>
    cases x <;> simp only [Oper.upon] at h ⊢
    all_goals first
      | exact hk _ _ h
      | exact h.elim
      | (refine h.mono ?_
         intro e w'' he
         cases e with
         | returned v => exact hk _ _ he
         | panicked c => exact hq _ _ _ he
         | outgrown => exact (cutQ_lets he).elim)
      | exact h.mono (fun _ _ he => hk _ _ he)
  | halt x w' =>
    cases x <;> simp only [Oper.upon] at h ⊢
    all_goals first
      | exact hq _ _ _ h
      | exact h
/-- An operation of a list, in a round of the wide fence: by the laws of the plain walk. -/
theorem op_in {l n : Nat} {ops : Array Oper} {rest : List Oper} {o : Oper} {Q : Exit → Act → World → Prop} {a : Act} {w : World} (hnd : ∀ c, o.op ≠ .defer c)
    (h : wpList Try.prog ops (cutQ fun e a' w' => (e = .normal ∧ wpListIn (Fence.wide.inRound l) n Try.prog ops Q rest a' w') ∨ (e ≠ .normal ∧ Q e a' w')) [o] a w) : wpListIn (Fence.wide.inRound l) n Try.prog ops Q (o :: rest) a w := by
  simp only [wpList] at h
  simp only [wpListIn]
  by_cases hw : Region.wanted o (yielded ops a.tmps) = true
  · rw [if_pos hw] at h ⊢
    rcases h with h | ⟨_, h⟩
    · refine oper_in hnd ?_
      refine Oper.wp_post (fun a' w' hk => ?_) (fun c a' w' hq => ?_) h
      · rcases hk with hk | hk
        · exact hk.2
        · exact absurd rfl hk.1
      · rcases hq with hq | hq
        · cases hq.1
        · exact hq.2
    · exact (cutQ_lets h).elim
  · rw [if_neg hw] at h ⊢
    refine ⟨fun _ _ => trivial, ?_⟩
    rcases h with h | h
    · exact h.2
    · exact absurd rfl h.1
theorem any_in {l n : Nat} {md : Region.Mode} {ops : Array Oper} {Q : Exit → Act → World → Prop} (hnd : ∀ (i : Nat) (o : Oper), ops[i]? = some o → ∀ c, o.op ≠ .defer c) : ∀ (fuel : Nat) (listed : Array Bool) (a : Act) (w : World),
    wpAny Try.prog md ops (cutQ Q) fuel listed a w → wpAnyIn (Fence.wide.inRound l) n Try.prog md ops Q fuel listed a w := by
  intro fuel
  induction fuel with
  | zero => exact fun listed a w h => h
  | succ fuel ih =>
    intro listed a w h
    refine ⟨h.1, fun i hi => ?_⟩
    have h1 := h.2 i hi
    unfold wpOp at h1
    unfold wpOpIn
    cases ho : ops[i]? with
    | none => rw [ho] at h1; exact ih _ _ _ h1
    | some o =>
      rw [ho] at h1
      simp only at h1 ⊢
      by_cases hw : Region.wanted o (yielded ops a.tmps) = true
      · rw [if_pos hw] at h1 ⊢
        rcases h1 with h1 | ⟨_, h1⟩
        · exact oper_in (hnd i o ho) (Oper.wp_post (fun a w hk => ih _ _ _ hk) (fun _ _ _ hq => hq) h1)
        · exact (cutQ_lets h1).elim
      · rw [if_neg hw] at h1 ⊢
        exact ⟨fun _ _ => trivial, ih _ _ _ h1⟩
/-- A region that draws its order, in a round of the wide fence. -/
theorem startIn_ {l k id n : Nat} {ops : Array Oper} {Q : Exit → Act → World → Prop} {S : World → Prop} {ds : List Nat} {a : Act} {w : World} (lt : Array Bool) (hm : Try.prog.follows .mixedOrders = true) (hn : ops.size = n) (hl : Array.replicate n false = lt) (hS : S w.drew)
    (hnd : ∀ (i : Nat) (o : Oper), ops[i]? = some o → ∀ c, o.op ≠ .defer c) (h : S w.drew → wpAnyLast Try.prog .any ops (cutQ Q) S ds n lt a w.drew) : (Code.region id ops true).wpIn (Fence.wide.inRound l) k Try.prog Q a w := by
  subst hn
  subst hl
  exact wpIn_region_any hm (any_in hnd _ _ _ _ (wpAny_of_last _ _ _ _ (h hS)))
/-- What the body of Pack's loop keeps. -/
structure PkB (w W : World) (O G B Bs Bn : Nat) (c1 c2 : Array Value) (u v4 : Value) (xs : List Int) (ah : Int) (v7 : Value) (ys : List Int) (wr : World) : Prop where
  out : wr.heap[O]? = some (.cells #[u] 29 (0, 0))
  ahd : wr.heap[G]? = some (.cells #[.int .i64 ah] 3 (0, 0))
  row : Kd.R (Kd.int .u8) 5 wr w.heap.size (fun k => some k ≠ v7.ownBlock) v4 xs
  bod : Kd.R (Kd.int .u8) 5 wr w.heap.size (fun k => some k ≠ v4.ownBlock) v7 ys
  bel : Below w.heap.size w wr
  bs : wr.heap[Bs]? = some (.cells c1 42 (0, 0))
  bn : wr.heap[Bn]? = some (.cells c2 3 (0, 0))
  kep : KeepsFrom B W wr
  ge : w.heap.size ≤ O ∧ w.heap.size ≤ G ∧ O ≠ G ∧ O ≠ Bs ∧ O ≠ Bn ∧ G ≠ Bs ∧ G ≠ Bn
theorem row_typed {w : World} {base : Nat} {ok : Nat → Prop} {v : Value} {xs : List Int} (h : Kd.R (Kd.int .u8) 5 w base ok v xs) (k : Nat) (hk : v.ownBlock = some k) : ∃ cells, w.heap[k]? = some (.cells cells 5 (0, 0)) := by
  obtain ⟨_, _, _, q, hq, cells, hc⟩ := (Kd.R_bound h).1 k hk
  have : q = 5 := by simpa [Kd.int, Kd.scalar] using hq
  subst this
  exact ⟨cells, hc⟩
theorem row_ne {w : World} {base : Nat} {ok : Nat → Prop} {v : Value} {xs : List Int} (h : Kd.R (Kd.int .u8) 5 w base ok v xs) {O t : Nat} {cs : Array Value} (ho : w.heap[O]? = some (.cells cs t (0, 0))) (ht : t ≠ 5) : some O ≠ v.ownBlock := by
  intro e
  obtain ⟨cells, hc⟩ := row_typed h O e.symm
  rw [ho] at hc
  simp only [Option.some.injEq, Obj.cells.injEq] at hc
  exact ht hc.2.1
theorem PkB.step {w W wr w2 : World} {O G B Bs Bn : Nat} {c1 c2 : Array Value} {u v4 v7 : Value} {xs ys : List Int} {ah : Int} (h : PkB w W O G B Bs Bn c1 c2 u v4 xs ah v7 ys wr) (hb : Below wr.heap.size wr w2) : PkB w W O G B Bs Bn c1 c2 u v4 xs ah v7 ys w2 :=
  ⟨blk_below h.out hb, blk_below h.ahd hb, Kd.R_below h.row hb, Kd.R_below h.bod hb, below_step h.bel hb, blk_below h.bs hb, blk_below h.bn hb, h.kep.trans ((keeps_below hb).from B), h.ge⟩
theorem own_keeps {wr w2 : World} {base B : Nat} {ok : Nat → Prop} {v : Value} {xs : List Int} (h : Kd.R (Kd.int .u8) 5 wr base ok v xs) (hg : wr.grownBy w2 v.ownBlock) : KeepsFrom B wr w2 :=
  (KeepsOthers.of_grownBy hg (fun j o e ho => by
    obtain ⟨cells, hc⟩ := row_typed h j e
    rw [ho] at hc
    cases hc
    rfl)).from B
theorem PkB.app7 {w W wr w2 : World} {O G B Bs Bn : Nat} {c1 c2 : Array Value} {u v4 v7 v7' : Value} {xs ys ys' : List Int} {ah : Int} (h : PkB w W O G B Bs Bn c1 c2 u v4 xs ah v7 ys wr) (ho : Kd.R (Kd.int .u8) 5 w2 w.heap.size (fun k => some k ≠ v4.ownBlock) v7' ys') (hg : wr.grownBy w2 v7.ownBlock) (hat : v7'.ownBlock = v7.ownBlock ∨ ∃ b, v7'.ownBlock = some b ∧ wr.heap.size ≤ b) (hb : Below w.heap.size w w2) : PkB w W O G B Bs Bn c1 c2 u v4 xs ah v7' ys' w2 := by
  refine ⟨(hg.block O (blk_lt h.out) (row_ne h.bod h.out (by decide))).trans h.out, (hg.block G (blk_lt h.ahd) (row_ne h.bod h.ahd (by decide))).trans h.ahd, ?_, ho, hb, (hg.block Bs (blk_lt h.bs) (row_ne h.bod h.bs (by decide))).trans h.bs, (hg.block Bn (blk_lt h.bn) (row_ne h.bod h.bn (by decide))).trans h.bn, h.kep.trans (own_keeps h.bod hg), h.ge⟩
  · exact Kd.R_mono (Kd.R_after (ok := fun _ => True) (Kd.R_mono h.row (fun k hk => ⟨trivial, hk⟩)) hg hat) (fun k hk => hk.2)
theorem PkB.app4 {w W wr w2 : World} {O G B Bs Bn : Nat} {c1 c2 : Array Value} {u v4 v4' v7 : Value} {xs xs' ys : List Int} {ah : Int} (h : PkB w W O G B Bs Bn c1 c2 u v4 xs ah v7 ys wr) (ho : Kd.R (Kd.int .u8) 5 w2 w.heap.size (fun k => some k ≠ v7.ownBlock) v4' xs') (hg : wr.grownBy w2 v4.ownBlock) (hat : v4'.ownBlock = v4.ownBlock ∨ ∃ b, v4'.ownBlock = some b ∧ wr.heap.size ≤ b) (hb : Below w.heap.size w w2) : PkB w W O G B Bs Bn c1 c2 u v4' xs' ah v7 ys w2 := by
  refine ⟨(hg.block O (blk_lt h.out) (row_ne h.row h.out (by decide))).trans h.out, (hg.block G (blk_lt h.ahd) (row_ne h.row h.ahd (by decide))).trans h.ahd, ho, ?_, hb, (hg.block Bs (blk_lt h.bs) (row_ne h.row h.bs (by decide))).trans h.bs, (hg.block Bn (blk_lt h.bn) (row_ne h.row h.bn (by decide))).trans h.bn, h.kep.trans (own_keeps h.row hg), h.ge⟩
  · exact Kd.R_mono (Kd.R_after (ok := fun _ => True) (Kd.R_mono h.bod (fun k hk => ⟨trivial, hk⟩)) hg hat) (fun k hk => hk.2)
theorem PkB.setO {w W wr : World} {O G B Bs Bn : Nat} {c1 c2 : Array Value} {u v4 v7 : Value} {xs ys : List Int} {ah : Int} (h : PkB w W O G B Bs Bn c1 c2 u v4 xs ah v7 ys wr) (v : Value) : PkB w W O G B Bs Bn c1 c2 v v4 xs ah v7 ys (wr.setCell ⟨O, 0, none⟩ v) :=
  ⟨blk_set h.out 0 v, by rw [Below.heap_setCell _ _ _ _ (fun e => h.ge.2.2.1 e.symm)]; exact h.ahd, Kd.R_mono (Kd.R_far (p := ⟨O, 0, none⟩) (Kd.R_types h.row h.out (by simp [Kd.int, Kd.scalar])) (fun k hk => hk.2) v) (fun k hk => hk.1), Kd.R_mono (Kd.R_far (p := ⟨O, 0, none⟩) (Kd.R_types h.bod h.out (by simp [Kd.int, Kd.scalar])) (fun k hk => hk.2) v) (fun k hk => hk.1), below_set h.bel h.ge.1, by rw [Below.heap_setCell _ _ _ _ (fun e => h.ge.2.2.2.1 e.symm)]; exact h.bs, by rw [Below.heap_setCell _ _ _ _ (fun e => h.ge.2.2.2.2.1 e.symm)]; exact h.bn, h.kep.trans ((KeepsOthers.setCell _ _ _).from B), h.ge⟩
theorem PkB.setG {w W wr : World} {O G B Bs Bn : Nat} {c1 c2 : Array Value} {u v4 v7 : Value} {xs ys : List Int} {ah : Int} (h : PkB w W O G B Bs Bn c1 c2 u v4 xs ah v7 ys wr) (n : Int) : PkB w W O G B Bs Bn c1 c2 u v4 xs n v7 ys (wr.setCell ⟨G, 0, none⟩ (.int .i64 n)) :=
  ⟨by rw [Below.heap_setCell _ _ _ _ (fun e => h.ge.2.2.1 e)]; exact h.out, blk_set h.ahd 0 _, Kd.R_mono (Kd.R_far (p := ⟨G, 0, none⟩) (Kd.R_types h.row h.ahd (by simp [Kd.int, Kd.scalar])) (fun k hk => hk.2) _) (fun k hk => hk.1), Kd.R_mono (Kd.R_far (p := ⟨G, 0, none⟩) (Kd.R_types h.bod h.ahd (by simp [Kd.int, Kd.scalar])) (fun k hk => hk.2) _) (fun k hk => hk.1), below_set h.bel h.ge.2.1, by rw [Below.heap_setCell _ _ _ _ (fun e => h.ge.2.2.2.2.2.1 e.symm)]; exact h.bs, by rw [Below.heap_setCell _ _ _ _ (fun e => h.ge.2.2.2.2.2.2 e.symm)]; exact h.bn, h.kep.trans ((KeepsOthers.setCell _ _ _).from B), h.ge⟩
theorem chunk_stops (n : Nat) (Bs Bn : Nat) (A : Option Addr) (len c N : Nat) (hN : len ≤ 4 * N) (hN2 : 4 * N < len + 4) (hlc : len ≤ c) (hlen : len ≤ 1000000) (hA : len = 0 ∨ ∃ ad, A = some ad) (w : World) (hBs : w.cell? ⟨Bs, 0, none⟩ = some (.slice A len c)) (hBn : w.cell? ⟨Bn, 0, none⟩ = some (.int .i64 4)) (hs : Bs < w.heap.size) (hn : Bn < w.heap.size) :
    SeqStopsK Fence.wide n Try.prog 57 #[.pointer (some ⟨Bs, 0, none⟩), .pointer (some ⟨Bn, 0, none⟩)] (fun j : Nat => #[chunkV A len j]) (KeepB Bs Bn) (fun ys => ys = rangeL N) (fun _ => True) N w := fun l J Jx W hW hJ _ hY hJ0 =>
  chunk1_in n l Bs Bn A len c N hN hN2 hlc hlen hA J Jx hY (fun s X hX => hJ s X _ none hX ⟨rfl, rfl, rfl, Nat.le_refl _, fun _ _ _ => rfl⟩ (fun r e => by cases e)) W ((hW.cell (p := ⟨Bs, 0, none⟩) hs).trans hBs) ((hW.cell (p := ⟨Bn, 0, none⟩) hn).trans hBn) hJ0
theorem chunk_C {w : World} {A : Option Addr} {l : List S64} {c : Nat} (h : Kd.C k64 w A l.length l) (hc : l.length ≤ c) (j : Nat) : Kd.C k64 w (A.map (·.add (4 * j * 2))) (min 4 (l.length - 4 * j)) (chunkL l j) := by
  rw [← chunk_len l j]
  by_cases hj : 4 * j < l.length
  · have h1 := Kd.C_mid (lo := 4 * j) (hi := min (4 * j + 4) l.length) h (by omega) (by omega) hc
    rw [if_neg (by omega)] at h1
    have e : (l.take (min (4 * j + 4) l.length)).drop (4 * j) = chunkL l j := by
      unfold chunkL
      rw [List.drop_take]
      by_cases h4 : 4 * j + 4 ≤ l.length
      · rw [Nat.min_eq_left h4]; congr 1; omega
      · rw [Nat.min_eq_right (by omega), List.take_of_length_le (by rw [List.length_drop]; omega), List.take_of_length_le (by rw [List.length_drop]; omega)]
    rw [e] at h1
    exact h1
  · have e : chunkL l j = [] := by unfold chunkL; rw [List.drop_eq_nil_of_le (by omega)]; rfl
    rw [e]
    refine ⟨rfl, Nat.zero_le _, fun h0 => ?_⟩
    exact absurd h0 (by simp)
/-- What Pack's loop keeps between two rounds. -/
def PkI (w : World) (O G Bs Bn : Nat) (c1 c2 : Array Value) (l : List S64) (pre : List Nat) (W : World) : Prop :=
  (∃ v4, W.heap[O]? = some (.cells #[v4] 29 (0, 0)) ∧ Kd.R (Kd.int .u8) 5 W w.heap.size (fun _ => True) v4 (putP (l.length : Int) ++ chunksP l (-1) pre)) ∧
    W.heap[G]? = some (.cells #[.int .i64 (lastC l (-1) pre)] 3 (0, 0)) ∧ W.heap[Bs]? = some (.cells c1 42 (0, 0)) ∧ W.heap[Bn]? = some (.cells c2 3 (0, 0)) ∧ Below w.heap.size w W
theorem PkI_own (w : World) (O G Bs Bn : Nat) (c1 c2 : Array Value) (l : List S64) (B : Nat) (hB : w.heap.size ≤ B) : OwnFrom B (PkI w O G Bs Bn c1 c2 l) := by
  rintro s W W' row ⟨⟨v4, h1, h2⟩, h3, h4, h5, h6⟩ hg hr
  have kp : ∀ (k : Nat) (cs : Array Value) (t : TypeId), W.heap[k]? = some (.cells cs t (0, 0)) → some k ≠ row := by
    intro k cs t hk e
    obtain ⟨_, o, ho, hc⟩ := hr k e.symm
    rw [hk] at ho
    cases ho
    cases hc
  have kb : ∀ (k : Nat) (cs : Array Value) (t : TypeId), W.heap[k]? = some (.cells cs t (0, 0)) → W'.heap[k]? = some (.cells cs t (0, 0)) := fun k cs t hk => (hg.block k (blk_lt hk) (kp k cs t hk)).trans hk
  refine ⟨⟨v4, kb _ _ _ h1, ?_⟩, kb _ _ _ h3, kb _ _ _ h4, kb _ _ _ h5, h6.grown hg (below_size h6) (fun k e => Nat.le_trans hB (hr k e).1)⟩
  refine Kd.R_mono (Kd.R_grown (Kd.R_bound h2) hg (fun k hk => ?_)) (fun k hk => hk.1)
  obtain ⟨_, _, _, q, _, cells, hc⟩ := hk
  exact kp k cells q hc
set_option maxHeartbeats 8000000 in
set_option maxRecDepth 100000 in
theorem postPack_in (A : Option Addr) (c : Nat) (l : List S64) (w : World) (hC : Kd.C k64 w A l.length l) (hc : l.length ≤ c) (hm : postMayP l = true) :
    CallsIn Fence.wide 5 Try.prog 18 #[.slice A l.length c] w fun e w' => ∃ v : Value, e = .returned (.tuple #[v, .int .i64 0]) ∧ Kd.R (Kd.int .u8) 5 w' w.heap.size (fun _ => True) v (postPackP l) ∧ Below w.heap.size w w' := by
  have hu64 := Try.underlying64
  have HC := Aside0.mk hC
  have HCC := Aside0.mk hc
  have HPM := Aside0.mk hm
  have HLN := Aside0.mk (postMay_post hm).1
  have HM := Aside0.mk (show post_May.f (l.length + 124) l = some true from (postMay_eq l (by have := HLN.out; omega) _ (Nat.le_refl _)).trans (congrArg some hm))
  have hA : l.length = 0 ∨ ∃ ad, A = some ad := by
    by_cases h0 : l.length = 0
    · exact Or.inl h0
    · obtain ⟨ad, _, _, e, _⟩ := at_T64 hC 0 (by omega) (by omega)
      exact Or.inr ⟨ad, e⟩
  have HA := Aside0.mk hA
  clear hC hc hm hA
  refine callsIn_of_wp_marks Try.func18 rfl trivial ?_ rfl
  simp only [Try.ntmps18, List.size_toArray, List.length_cons, List.length_nil, Nat.reduceAdd, Nat.reduceSub, Array.replicate_succ, Array.replicate_zero, List.push_toArray, List.append_toArray, List.nil_append, List.cons_append]
  gi_wp2_with (first | (refine ⟨trivial, ?_⟩; gi_at_call 34; refine (callsIn_wide.2 (post_May.calls (l.length + 124) A c l true w HC.out HCC.out HM.out)).mono ?_; rintro e_ w1 ⟨rfl, hb⟩; have HB := Aside0.mk hb; clear hb) | (refine ⟨trivial, ?_⟩; gi_at_call 15; refine (callsIn_wide.2 (vint_Put.calls 8 (l.length : Int) _ _ (put_eq _ 8 (Nat.le_refl _)))).mono ?_; rintro e_ w2 ⟨v4, rfl, ho, hb⟩; obtain ⟨A4, c4, rfl⟩ := Kd.R_slice ho; have HO := Aside0.mk (Kd.R_lower ho (below_size HB.out)); have hb2 := below_step HB.out hb; clear HB hb ho; have HB := Aside0.mk hb2; clear hb2) | (refine ⟨trivial, ?_⟩; gi_at_call 35; refine (callsIn_wide.2 (chunk_calls A l.length c _)).mono ?_; rintro e_ w3 ⟨rfl, hw3⟩))
  subst hw3
  have hN : l.length ≤ 4 * nBlocks l ∧ 4 * nBlocks l < l.length + 4 := by unfold nBlocks; omega
  have s0 : ∀ (a b c d : Obj), ((((w2.alloc a).alloc b).alloc c).alloc d).heap.size = w2.heap.size + 4 := fun a b c d => by simp only [World.size_alloc]
  have b1 : ∀ (a b c d : Obj), ((((w2.alloc a).alloc b).alloc c).alloc d).heap[w2.heap.size]? = some a := fun a b c d => blk_below (blk_below (blk_below (blk_new w2 a) (below_alloc (Below.refl _ _) _)) (below_alloc (Below.refl _ _) _)) (below_alloc (Below.refl _ _) _)
  have b2 : ∀ (a b c d : Obj), ((((w2.alloc a).alloc b).alloc c).alloc d).heap[w2.heap.size + 1]? = some b := fun a b c d => by
    have h := blk_new (w2.alloc a) b
    rw [World.size_alloc] at h
    exact blk_below (blk_below h (below_alloc (Below.refl _ _) _)) (below_alloc (Below.refl _ _) _)
  have b3 : ∀ (a b c d : Obj), ((((w2.alloc a).alloc b).alloc c).alloc d).heap[w2.heap.size + 2]? = some c := fun a b c d => by
    have h := blk_new ((w2.alloc a).alloc b) c
    rw [World.size_alloc, World.size_alloc] at h
    exact blk_below h (below_alloc (Below.refl _ _) _)
  have b4 : ∀ (a b c d : Obj), ((((w2.alloc a).alloc b).alloc c).alloc d).heap[w2.heap.size + 3]? = some d := fun a b c d => by
    have h := blk_new (((w2.alloc a).alloc b).alloc c) d
    rw [World.size_alloc, World.size_alloc, World.size_alloc] at h
    exact h
  have hbl : Below w.heap.size w ((((w2.alloc (.cells #[.slice A4 (putP (l.length : Int)).length c4] 29)).alloc (.cells #[.int .i64 (-1)] 3)).alloc (.cells #[.slice A l.length c] 42)).alloc (.cells #[.int .i64 4] 3)) := below_alloc (below_alloc (below_alloc (below_alloc HB.out _) _) _) _
  have hrow := Kd.R_alloc (Kd.R_alloc (Kd.R_alloc (Kd.R_alloc HO.out (.cells #[.slice A4 (putP (l.length : Int)).length c4] 29)) (.cells #[.int .i64 (-1)] 3)) (.cells #[.slice A l.length c] 42)) (.cells #[.int .i64 4] 3)
  have hsz := below_size HB.out
  have g1 := b1 (.cells #[.slice A4 (putP (l.length : Int)).length c4] 29) (.cells #[.int .i64 (-1)] 3) (.cells #[.slice A l.length c] 42) (.cells #[.int .i64 4] 3)
  have g2 := b2 (.cells #[.slice A4 (putP (l.length : Int)).length c4] 29) (.cells #[.int .i64 (-1)] 3) (.cells #[.slice A l.length c] 42) (.cells #[.int .i64 4] 3)
  have g3 := b3 (.cells #[.slice A4 (putP (l.length : Int)).length c4] 29) (.cells #[.int .i64 (-1)] 3) (.cells #[.slice A l.length c] 42) (.cells #[.int .i64 4] 3)
  have g4 := b4 (.cells #[.slice A4 (putP (l.length : Int)).length c4] 29) (.cells #[.int .i64 (-1)] 3) (.cells #[.slice A l.length c] 42) (.cells #[.int .i64 4] 3)
  have hs4 := s0 (.cells #[.slice A4 (putP (l.length : Int)).length c4] 29) (.cells #[.int .i64 (-1)] 3) (.cells #[.slice A l.length c] 42) (.cells #[.int .i64 4] 3)
  clear b1 b2 b3 b4 s0 HO
  generalize ((((w2.alloc (.cells #[.slice A4 (putP (l.length : Int)).length c4] 29)).alloc (.cells #[.int .i64 (-1)] 3)).alloc (.cells #[.slice A l.length c] 42)).alloc (.cells #[.int .i64 4] 3)) = w3 at *
  have HGE := Aside0.mk (show w.heap.size ≤ w2.heap.size ∧ w.heap.size ≤ w2.heap.size + 1 ∧ w2.heap.size ≠ w2.heap.size + 1 ∧ w2.heap.size ≠ w2.heap.size + 2 ∧ w2.heap.size ≠ w2.heap.size + 3 ∧ w2.heap.size + 1 ≠ w2.heap.size + 2 ∧ w2.heap.size + 1 ≠ w2.heap.size + 3 from by omega)
  have HLT := Aside0.mk (show w2.heap.size + 2 < w3.heap.size ∧ w2.heap.size + 3 < w3.heap.size ∧ w.heap.size ≤ w3.heap.size from by omega)
  clear HB hsz hs4
  generalize w2.heap.size + 3 = Bn at *
  generalize w2.heap.size + 2 = Bs at *
  generalize w2.heap.size + 1 = G at *
  generalize w2.heap.size = O at *
  have HR := Aside0.mk hrow
  have HI0 := Aside0.mk (show PkI w O G Bs Bn #[.slice A l.length c] #[.int .i64 4] l [] w3 from ⟨⟨_, g1, by rw [show chunksP l (-1) [] = [] from rfl, List.append_nil]; exact hrow⟩, g2, g3, g4, hbl⟩)
  have h3 := (blk_cell g3 0).trans (show (#[Value.slice A l.length c])[0]? = some (.slice A l.length c) from rfl)
  have h4 := (blk_cell g4 0).trans (show (#[Value.int .i64 4])[0]? = some (.int .i64 4) from rfl)
  have HN := Aside0.mk hN
  clear hrow g1 g2 g3 g4 hbl HM HR hN
  refine wpIn_rangeFunc_ownG rfl (by omega) (gf := 57) (lb := #[.pointer (some ⟨Bs, 0, none⟩), .pointer (some ⟨Bn, 0, none⟩)]) rfl trivial (enters_of Try.func57 (by kernel_rfl) rfl)
    (chunk_stops 4 Bs Bn A l.length c (nBlocks l) HN.out.1 HN.out.2 HCC.out (by have := HLN.out; omega) HA.out w3 h3 h4 HLT.out.1 HLT.out.2.1) (fun h k => h.trans k)
    (fun W r o o' hr hk ho _ => ⟨World.putObj_heap_other (by have := HLT.out; omega), World.putObj_heap_other (by have := HLT.out; omega)⟩) (Below.refl _ _) (fun _ => rfl)
    (PkI w O G Bs Bn #[.slice A l.length c] #[.int .i64 4] l) (fun _ _ _ => False) (PkI_own w O G Bs Bn _ _ l _ HLT.out.2.2) (fun _ _ _ _ _ hs _ _ => hs) HI0.out ?a1 ?assign ?body ?done ?stop
  case assign =>
    intro r x W K hK
    gi_wp2
    exact hK
  case stop =>
    intro D c pre W _ _ h _
    exact h.elim
  case done =>
    rintro D ys W hD rfl ⟨⟨v4, g1, hrow⟩, g2, g3, g4, hB⟩ hK
    obtain ⟨A5, c5, rfl⟩ := Kd.R_slice hrow
    have hc := (blk_cell g1 0).trans (show (#[Value.slice A5 (putP (l.length : Int) ++ chunksP l (-1) (rangeL (nBlocks l))).length c5])[0]? = some (.slice A5 (putP (l.length : Int) ++ chunksP l (-1) (rangeL (nBlocks l))).length c5) from rfl)
    gi_wp2
    refine ⟨by simp, .inl ⟨_, _, rfl, run_takeDeferred hK, ?_⟩⟩
    refine ⟨_, results_tmp2 rfl _ _ _, _, rfl, ?_, hB.trans (belowK_b (w := w) (Nat.le_refl _) W D _ _ (by have := HLT.out; omega) hK rfl rfl)⟩
    rw [List.length_append] at hrow
    exact Kd.R_mono (Kd.R_grown (Kd.R_bound hrow) (grownBy_putObj' W D _) (fun k hk e => by
      obtain ⟨_, _, _, q, _, cells, hcc⟩ := hk
      simp only [Option.some.injEq] at e
      rw [e, hK] at hcc
      cases hcc)) (fun _ _ => trivial)
  case body =>
    rintro r pre x W ⟨⟨v4, g1, hrow⟩, g2, g3, g4, hB⟩ hlt
    simp only [chunkV]
    have hq := chunk_C HC.out HCC.out x
    have e0 := chunk_len l x
    rw [← e0] at hq
    rw [← e0]
    obtain ⟨q, hqe⟩ : ∃ q, chunkL l x = q := ⟨_, rfl⟩
    obtain ⟨AA, hAA⟩ : ∃ AA, A.map (·.add (4 * x * 2)) = AA := ⟨_, rfl⟩
    obtain ⟨ah0, hah⟩ : ∃ a, lastC l (-1) pre = a := ⟨_, rfl⟩
    obtain ⟨xs, hxs⟩ : ∃ a, putP (l.length : Int) ++ chunksP l (-1) pre = a := ⟨_, rfl⟩
    have h4 : q.length ≤ 4 := by rw [← hqe, e0]; omega
    have hqm : ∀ p ∈ q, (0 ≤ p.f0 ∧ p.f0 < 64) ∧ p.f1.length ≤ 120 ∧ risingP (-1) 120 p.f1 = true := fun p hp => postOk_of HPM.out p (chunk_mem p (by rw [hqe]; exact hp))
    have har := lastC_range l HPM.out pre (-1) (by omega)
    have hxl : xs.length ≤ 100000 := by
      rw [← hxs, List.length_append]
      have h1 := putP_len (l.length : Int)
      have h2 := chunks_len l HPM.out pre (-1)
      have h3 := HN.out.2
      have h5 := HLN.out
      omega
    have HEND := Aside0.mk (show ∀ W', PkI w O G Bs Bn #[.slice A l.length c] #[.int .i64 4] l (pre ++ [x]) W' ↔ ((∃ v4, W'.heap[O]? = some (.cells #[v4] 29 (0, 0)) ∧ Kd.R (Kd.int .u8) 5 W' w.heap.size (fun _ => True) v4 (xs ++ blockP ah0 q)) ∧ W'.heap[G]? = some (.cells #[.int .i64 (lastP ah0 q)] 3 (0, 0)) ∧ W'.heap[Bs]? = some (.cells #[.slice A l.length c] 42 (0, 0)) ∧ W'.heap[Bn]? = some (.cells #[.int .i64 4] 3 (0, 0)) ∧ Below w.heap.size w W') from fun W' => by
      unfold PkI
      rw [chunksP_app, lastC_app, ← List.append_assoc, hxs, hah]
      simp only [chunksP, lastC, hqe, List.append_nil])
    rw [hqe, hAA] at hq
    rw [hah] at g2 har
    rw [hxs] at hrow
    rw [hqe, hAA]
    have HQ := Aside0.mk hq
    have H4 := Aside0.mk h4
    have HQM := Aside0.mk hqm
    have HAR := Aside0.mk har
    have HXL := Aside0.mk hxl
    have ST := Aside0.mk (show PkB w W O G w3.heap.size Bs Bn #[.slice A l.length c] #[.int .i64 4] v4 v4 xs ah0 (.slice none 0 0) [] W from ⟨g1, g2, Kd.R_mono hrow (fun k _ => by simp [Value.ownBlock]), Kd.R_nil _ _ _ _ _, hB, g3, g4, KeepsFrom.refl _ _, HGE.out⟩)
    have GB := Aside0.mk (show W.heap[Bs]? = some (.cells #[.slice A l.length c] 42 (0, 0)) ∧ W.heap[Bn]? = some (.cells #[.int .i64 4] 3 (0, 0)) from ⟨g3, g4⟩)
    clear hq e0 hqe hAA hah hxs h4 hqm har hxl hrow g1 g2 g3 g4 hB h3 hlt HI0
    try clear h4
    gi_wp2
    gi_loopw [7, 23] (fun v7 v23 wr => ∃ (j : Nat) (ys : List Int) (ah : Int), v23 = .int .i64 (j : Int) ∧ Aside0 (PkB w W O G w3.heap.size Bs Bn #[.slice A l.length c] #[.int .i64 4] v4 v4 xs ah v7 ys wr) ∧ Aside0 (j ≤ q.length ∧ ys.length ≤ 610 * j ∧ -1 ≤ ah ∧ ah < 64) ∧ Aside0 (ys ++ bodyP ah (q.drop j) = bodyP ah0 q ∧ lastP ah (q.drop j) = lastP ah0 q))
      (fun _ v23 _ => q.length - (intOf v23).toNat)
    case atStart => exact ⟨0, [], ah0, rfl, ST, ⟨by omega, by simp, HAR.out.1, HAR.out.2⟩, ⟨rfl, rfl⟩⟩
    case round =>
      clear ST
      obtain ⟨j, ys, ah, rfl, ST, HJ, HP⟩ := hrel
      by_cases hlt : j < q.length
      · have c2b0 : decide ((j : Int) < (q.length : Int)) = true := decide_eq_true (by omega)
        have c2b1 : decide (j < q.length) = true := decide_eq_true hlt
        obtain ⟨p, hp⟩ : ∃ p, p = rd_T64 q (j : Int) := ⟨_, rfl⟩
        obtain ⟨ad, Ap, cp, e1, hx0, hx1, hl1, hi1⟩ := at_T64 HQ.out (j : Int) (by omega) (by omega)
        rw [← hp] at hx0 hx1 hl1 hi1
        cases e1
        rw [Int.toNat_natCast] at hx0 hx1
        replace hx0 := pw_cell_below ST.out.bel hx0
        replace hx1 := pw_cell_below ST.out.bel hx1
        have p1 : (0 : Int) ≤ (j : Int) := by omega
        have p2 : (j : Int) < (q.length : Int) := by omega
        replace p1 := eq_true p1
        replace p2 := eq_true p2
        have hpm := HQM.out p (by rw [hp]; exact rd64_mem q j hlt)
        have HPQ := Aside0.mk hpm
        have HRS := Aside0.mk (rise_eq p.f1 hpm.2.1 hpm.2.2 1100 (Nat.le_refl _))
        have HRL := Aside0.mk (rise_len p.f1 hpm.2.1 hpm.2.2)
        have HPR := Aside0.mk hi1
        have HPC := Aside0.mk hl1
        have hd := drop64 q j hlt
        rw [← hp] at hd
        have HD := Aside0.mk hd
        have HLTJ := Aside0.mk hlt
        clear hi1 hl1 hp hpm hd hlt
        have HW := Aside0.mk (show wrap64 (wrap64 (p.f0 - ah) - 1) = p.f0 - ah - 1 by
          have h1 := HPQ.out.1
          have h2 := HJ.out
          rw [wid (n := p.f0 - ah) (by omega) (by omega), wid (by omega) (by omega)])
        have HPUT := Aside0.mk (show vint_Put.f 8 (wrap64 (wrap64 (p.f0 - ah) - 1)) = some (putP (p.f0 - ah - 1)) by rw [HW.out]; exact put_eq _ 8 (Nat.le_refl _))
        gi_wp2_with (first | (refine ⟨trivial, ?_⟩; gi_at_call 36; have hb := below_alloc (Below.refl wr.heap.size wr) (.cells #[.int .i64 p.f0, .slice Ap p.f1.length cp] 64); have BQ := Aside0.mk (blk_new wr (.cells #[.int .i64 p.f0, .slice Ap p.f1.length cp] 64)); have n0_ := Aside0.mk (ST.out.step hb); clear ST hb hx0 hx1; have ST := n0_; clear n0_; generalize (wr.alloc (.cells #[.int .i64 p.f0, .slice Ap p.f1.length cp] 64)) = w4 at *; generalize wr.heap.size = Q at *; refine (CallsIn.inRound r (callsIn_wide.2 (vint_Rise.calls 1100 Ap cp p.f1 (riseP p.f1) 0 w4 (Kd.C_below HPR.out ST.out.bel) HPC.out HRS.out))).mono ?_; rintro e_ w5 ⟨v0_, rfl, ho, hb⟩; have HRR := Aside0.mk (Kd.R_lower (Kd.R_new' ho (Kd.R_lt ST.out.bod)) (below_size ST.out.bel)); clear ho; obtain ⟨Ar, cr, rfl⟩ := Kd.R_slice HRR.out; have n0_ := Aside0.mk (ST.out.step hb); have n1_ := Aside0.mk (blk_below BQ.out hb); clear ST BQ hb; have ST := n0_; have BQ := n1_; clear n0_ n1_; have q0 := (blk_cell BQ.out 0).trans (show (#[Value.int .i64 p.f0, .slice Ap p.f1.length cp])[0]? = some (.int .i64 p.f0) from rfl); have dG := (blk_cell ST.out.ahd 0).trans (show (#[Value.int .i64 ah])[0]? = some (.int .i64 ah) from rfl)) | (refine ⟨trivial, ?_⟩; gi_at_call 15; refine (CallsIn.inRound r (callsIn_wide.2 (vint_Put.calls 8 (wrap64 (wrap64 (p.f0 - ah) - 1)) _ w5 HPUT.out))).mono ?_; rintro e_ w6 ⟨v0_, rfl, ho, hb⟩; obtain ⟨An, cn, rfl⟩ := Kd.R_slice ho; have HN2 := Aside0.mk (Kd.R_reads' ho).2.2; clear ho; have n0_ := Aside0.mk (ST.out.step hb); have n1_ := Aside0.mk (blk_below BQ.out hb); have n2_ := Aside0.mk (Kd.R_below HRR.out hb); clear ST BQ HRR hb q0 dG; have ST := n0_; have BQ := n1_; have HRR := n2_; clear n0_ n1_ n2_; have q0 := (blk_cell BQ.out 0).trans (show (#[Value.int .i64 p.f0, .slice Ap p.f1.length cp])[0]? = some (.int .i64 p.f0) from rfl); have dG := (blk_cell ST.out.ahd 0).trans (show (#[Value.int .i64 ah])[0]? = some (.int .i64 ah) from rfl)) | (gi_at_builtin; refine op_in (by intro c h; cases h) ?_; refine Kd.R_append_rows (Kd.int .u8) (w0 := w) w.heap.size rfl (.tmp 33) (.tmp 39) 29 5 (.int .u8 0) 1 rfl Try.underlying29 info5 rfl (by decide) (by omega) u7 ys (putP (p.f0 - ah - 1)) _ _ _ (fun k => some k ≠ v4.ownBlock) (fun _ => False) rfl rfl ?aO ?aR (fun _ _ h => h) (fun _ h => h.elim) ?aF ?aB ?aS ?aL ?_; (case aO => exact ST.out.bod); (case aR => exact HN2.out); (case aF => exact fun k hk => Kd.fresh' (Kd.R_lt ST.out.row) k hk); (case aB => exact ST.out.bel); (case aS => exact below_size ST.out.bel); (case aL => have h1_ := HJ.out; have h2_ := HRL.out; have h3_ := putP_len (p.f0 - ah - 1); have h4_ := H4.out; (try simp only [List.length_append]); omega); intro vo w7 ho hb hg hat; refine Or.inl ⟨rfl, ?_⟩; have n1_ := Aside0.mk ((hg.block Q (blk_lt BQ.out) (row_ne ST.out.bod BQ.out (by decide))).trans BQ.out); have n2_ := Aside0.mk (Kd.R_after (ok := fun _ => True) HRR.out hg hat); have n0_ := Aside0.mk (ST.out.app7 ho hg hat hb); clear ST BQ q0 dG ho hb hg hat HN2 HRR; have HRR := n2_; clear n2_; have ST := n0_; have BQ := n1_; clear n0_ n1_; have q0 := (blk_cell BQ.out 0).trans (show (#[Value.int .i64 p.f0, .slice Ap p.f1.length cp])[0]? = some (.int .i64 p.f0) from rfl); have dG := (blk_cell ST.out.ahd 0).trans (show (#[Value.int .i64 ah])[0]? = some (.int .i64 ah) from rfl); have fG := blk_frozen ST.out.ahd 0) | (gi_at_builtin; refine op_in (by intro c h; cases h) ?_; refine Kd.R_append_rows (Kd.int .u8) (w0 := w) w.heap.size rfl (.tmp 40) (.tmp 41) 29 5 (.int .u8 0) 1 rfl Try.underlying29 info5 rfl (by decide) (by omega) vo (ys ++ putP (p.f0 - ah - 1)) (riseP p.f1) _ _ _ (fun k => some k ≠ v4.ownBlock) (fun _ => False) rfl rfl ?aO ?aR (fun _ _ h => h) (fun _ h => h.elim) ?aF ?aB ?aS ?aL ?_; (case aO => exact ST.out.bod); (case aR => exact (Kd.R_reads' HRR.out).2.2); (case aF => exact fun k hk => Kd.fresh' (Kd.R_lt ST.out.row) k hk); (case aB => exact ST.out.bel); (case aS => exact below_size ST.out.bel); (case aL => have h1_ := HJ.out; have h2_ := HRL.out; have h3_ := putP_len (p.f0 - ah - 1); have h4_ := H4.out; (try simp only [List.length_append]); omega); intro vo w7 ho hb hg hat; refine Or.inl ⟨rfl, ?_⟩; have n1_ := Aside0.mk ((hg.block Q (blk_lt BQ.out) (row_ne ST.out.bod BQ.out (by decide))).trans BQ.out); have n0_ := Aside0.mk (ST.out.app7 ho hg hat hb); clear ST BQ q0 dG ho hb hg hat HRR; have ST := n0_; have BQ := n1_; clear n0_ n1_; have q0 := (blk_cell BQ.out 0).trans (show (#[Value.int .i64 p.f0, .slice Ap p.f1.length cp])[0]? = some (.int .i64 p.f0) from rfl); have dG := (blk_cell ST.out.ahd 0).trans (show (#[Value.int .i64 ah])[0]? = some (.int .i64 ah) from rfl); have fG := blk_frozen ST.out.ahd 0))
        go_roundw
        case rel => exact ⟨j + 1, ys ++ putP (p.f0 - ah - 1) ++ riseP p.f1, p.f0, (by rw [wstep (by have := HLTJ.out; have := H4.out; omega)]), ⟨ST.out.setG p.f0⟩, ⟨by have := HLTJ.out; omega, by have h1 := HJ.out; have h2 := HRL.out; have h3 := putP_len (p.f0 - ah - 1); simp only [List.length_append]; omega, by have := HPQ.out.1; omega, by have := HPQ.out.1; omega⟩, ⟨by have h := HP.out.1; rw [HD.out] at h; simp only [bodyP, List.append_assoc] at h ⊢; exact h, by have h := HP.out.2; rw [HD.out] at h; exact h⟩⟩
        case measure => rw [wstep (by have := HLTJ.out; have := H4.out; omega)]; simp [intOf]; have := HLTJ.out; omega
      · have c2b0 : decide ((j : Int) < (q.length : Int)) = false := decide_eq_false (by omega)
        have c2b1 : decide (j < q.length) = false := decide_eq_false hlt
        have hj : j = q.length := by have := HJ.out.1; omega
        have HE := Aside0.mk (show ys = bodyP ah0 q ∧ ah = lastP ah0 q from by
          have h := HP.out
          rw [List.drop_eq_nil_of_le (by omega)] at h
          simpa [bodyP, lastP] using h)
        have HYL := Aside0.mk (show ys.length ≤ 2440 from by have := HJ.out; have := H4.out; omega)
        clear hj hlt HP
        obtain ⟨A7, c7, e7⟩ := Kd.R_slice ST.out.bod
        subst e7
        gi_wp2
        have s0 : wr.drew.cell? ⟨O, 0, none⟩ = some v4 := (blk_cell ST.out.out 0).trans rfl
        have s1 : wr.drew.cell? ⟨G, 0, none⟩ = some (.int .i64 ah) := (blk_cell ST.out.ahd 0).trans rfl
        have n0_ := Aside0.mk (ST.out.step (below_drew (Below.refl wr.heap.size wr)))
        clear ST
        have ST := n0_
        clear n0_
        refine startIn_ (n := 9) (S := fun w' => w'.cell? ⟨O, 0, none⟩ = some v4 ∧ w'.cell? ⟨G, 0, none⟩ = some (.int .i64 ah)) (ds := [8]) #[false, false, false, false, false, false, false, false, false] (by kernel_rfl) rfl rfl ⟨s0, s1⟩ (by intro i o ho c; have : i < 9 := (Array.getElem?_eq_some_iff.1 ho).1; match i, this with | 0, _ => cases ho; simp | 1, _ => cases ho; simp | 2, _ => cases ho; simp | 3, _ => cases ho; simp | 4, _ => cases ho; simp | 5, _ => cases ho; simp | 6, _ => cases ho; simp | 7, _ => cases ho; simp | 8, _ => cases ho; simp) (fun hHeld => ?_)
        refine rgP 4 50 ?_
        refine rgP 5 51 ?_
        refine rgT2 0 46 hHeld ?_
        refine rgT2 1 47 hHeld ?_
        refine one_ (i := 2) (N := some 48) #[true, true, true, false, true, true, false, false, false] rfl rfl (by kernel_rfl) (by decide) (fun K hK => ?_)
        refine goes_ Try.func15 (by kernel_rfl) rfl #[.int .i64 (ah)] (by rfl) rfl rfl (by simp only [List.map_toArray, List.map_cons, List.map_nil]; rfl) ?_
        with_reducible refine (vint_Put.calls 8 (ah) _ _ (put_eq _ 8 (Nat.le_refl _))).mono ?_
        rintro e_ wz ⟨v0_, rfl, ho, hb⟩
        obtain ⟨An, cn, rfl⟩ := Kd.R_slice ho
        refine ⟨_, rfl, ?_⟩
        have HN2 := Aside0.mk (Kd.R_reads' ho).2.2
        have n0_ := Aside0.mk (ST.out.step hb)
        clear ho hb ST
        have ST := n0_
        clear n0_
        refine hK.out _ _ ⟨((blk_cell ST.out.out 0).trans rfl), ((blk_cell ST.out.ahd 0).trans rfl)⟩ (fun hHeld => ?_)
        clear hK K
        refine norm_ (a' := ?_) ?_ ?_
        rotate_left
        · show Act.put _ (some 48) _ = _
          simp only [Act.put, List.setIfInBounds_toArray, List.set_cons_zero, List.set_cons_succ, i64_w, i32_w]
          rfl
        refine one_ (i := 3) (N := some 49) #[true, true, true, true, true, true, false, false, false] rfl rfl (by kernel_rfl) (by decide) (fun K hK => ?_)
        refine Kd.R_append_rows_step (Kd.int .u8) (w0 := w) w.heap.size (by rfl) (.tmp 46) (.tmp 48) 29 5 (.int .u8 0) 1 rfl Try.underlying29 info5 rfl (by decide) (by omega) v4 xs (putP ah) _ _ _ (fun k => some k ≠ (Value.slice A7 ys.length c7).ownBlock) (fun _ => False) (by rfl) (by rfl) ?aO ?aR (fun _ _ h => h) (fun _ h => h.elim) ?aF ?aB ?aS ?aL ?_
        (case aO => exact ST.out.row)
        (case aR => exact HN2.out)
        (case aF => exact fun k hk => Kd.fresh' (Kd.R_lt ST.out.bod) k hk)
        (case aB => exact ST.out.bel)
        (case aS => exact below_size ST.out.bel)
        (case aL => have h1_ := HXL.out; have h2_ := putP_len ah; have h3_ := putP_len (ys.length : Int); (try simp only [List.length_append]); omega)
        intro vo wa ho hb hg hat
        have n0_ := Aside0.mk (ST.out.app4 ho hg hat hb)
        clear ho hb hg hat ST HN2
        have ST := n0_
        clear n0_
        refine hK.out _ _ ⟨((blk_cell ST.out.out 0).trans rfl), ((blk_cell ST.out.ahd 0).trans rfl)⟩ (fun hHeld => ?_)
        clear hK K
        refine norm_ (a' := ?_) ?_ ?_
        rotate_left
        · show Act.put _ (some 49) _ = _
          simp only [Act.put, List.setIfInBounds_toArray, List.set_cons_zero, List.set_cons_succ, i64_w, i32_w]
          rfl
        refine one_ (i := 6) (N := some 52) #[true, true, true, true, true, true, true, false, false] rfl rfl (by kernel_rfl) (by decide) (fun K hK => ?_)
        refine goes_ Try.func15 (by kernel_rfl) rfl #[.int .i64 ((ys.length : Int))] (by rfl) rfl rfl (by simp only [List.map_toArray, List.map_cons, List.map_nil]; rfl) ?_
        with_reducible refine (vint_Put.calls 8 ((ys.length : Int)) _ _ (put_eq _ 8 (Nat.le_refl _))).mono ?_
        rintro e_ wz ⟨v0_, rfl, ho, hb⟩
        obtain ⟨An, cn, rfl⟩ := Kd.R_slice ho
        refine ⟨_, rfl, ?_⟩
        have HN2 := Aside0.mk (Kd.R_reads' ho).2.2
        have n0_ := Aside0.mk (ST.out.step hb)
        clear ho hb ST
        have ST := n0_
        clear n0_
        refine hK.out _ _ ⟨((blk_cell ST.out.out 0).trans rfl), ((blk_cell ST.out.ahd 0).trans rfl)⟩ (fun hHeld => ?_)
        clear hK K
        refine norm_ (a' := ?_) ?_ ?_
        rotate_left
        · show Act.put _ (some 52) _ = _
          simp only [Act.put, List.setIfInBounds_toArray, List.set_cons_zero, List.set_cons_succ, i64_w, i32_w]
          rfl
        refine one_ (i := 7) (N := some 53) #[true, true, true, true, true, true, true, true, false] rfl rfl (by kernel_rfl) (by decide) (fun K hK => ?_)
        refine Kd.R_append_rows_step (Kd.int .u8) (w0 := w) w.heap.size (by rfl) (.tmp 49) (.tmp 52) 29 5 (.int .u8 0) 1 rfl Try.underlying29 info5 rfl (by decide) (by omega) vo (xs ++ putP ah) (putP (ys.length : Int)) _ _ _ (fun k => some k ≠ (Value.slice A7 ys.length c7).ownBlock) (fun _ => False) (by rfl) (by rfl) ?aO ?aR (fun _ _ h => h) (fun _ h => h.elim) ?aF ?aB ?aS ?aL ?_
        (case aO => exact ST.out.row)
        (case aR => exact HN2.out)
        (case aF => exact fun k hk => Kd.fresh' (Kd.R_lt ST.out.bod) k hk)
        (case aB => exact ST.out.bel)
        (case aS => exact below_size ST.out.bel)
        (case aL => have h1_ := HXL.out; have h2_ := putP_len ah; have h3_ := putP_len (ys.length : Int); (try simp only [List.length_append]); omega)
        intro vp wb ho hb hg hat
        have n0_ := Aside0.mk (ST.out.app4 ho hg hat hb)
        clear ho hb hg hat ST HN2
        have ST := n0_
        clear n0_
        obtain ⟨A8, c8, rfl⟩ := Kd.R_slice ST.out.row
        have f8 := blk_frozen ST.out.out 0
        refine hK.out _ _ ⟨((blk_cell ST.out.out 0).trans rfl), ((blk_cell ST.out.ahd 0).trans rfl)⟩ (fun hHeld => ?_)
        clear hK K
        refine norm_ (a' := ?_) ?_ ?_
        rotate_left
        · show Act.put _ (some 53) _ = _
          simp only [Act.put, List.setIfInBounds_toArray, List.set_cons_zero, List.set_cons_succ, i64_w, i32_w]
          rfl
        refine last_ (i := 8) (N := none) #[true, true, true, true, true, true, true, true, true] rfl rfl (by kernel_rfl) (by decide) (fun K hK => ?_)
        refine skip_ (w1 := ?_) (by rfl) rfl ?_ ?_
        rotate_left
        · go_simp
          rfl
        refine hK.out _ _ ?_
        clear hK K
        refine done_ (by kernel_rfl) ?_
        simp only [cutQ]
        have hl8 : (xs ++ putP ah ++ putP (ys.length : Int)).length = xs.length + ((putP ah).length + (putP (ys.length : Int)).length) := by simp only [List.length_append, Nat.add_assoc]
        rw [hl8] at ST
        have n0_ := Aside0.mk (ST.out.setO (.slice A8 (xs.length + ((putP ah).length + (putP (ys.length : Int)).length)) c8))
        clear ST f8 hl8 s0 s1
        have ST := n0_
        clear n0_
        generalize (wb.setCell ⟨O, 0, none⟩ (.slice A8 (xs.length + ((putP ah).length + (putP (ys.length : Int)).length)) c8)) = wc at *
        have s0 : wc.cell? ⟨O, 0, none⟩ = some (.slice A8 (xs.length + ((putP ah).length + (putP (ys.length : Int)).length)) c8) := (blk_cell ST.out.out 0).trans rfl
        gi_wp2_with (first | (gi_at_builtin; refine op_in (by intro c h; cases h) ?_; refine Kd.R_append_rows (Kd.int .u8) (w0 := w) w.heap.size rfl (.tmp 54) (.tmp 55) 29 5 (.int .u8 0) 1 rfl Try.underlying29 info5 rfl (by decide) (by omega) (.slice A8 (xs.length + ((putP ah).length + (putP (ys.length : Int)).length)) c8) (xs ++ putP ah ++ putP (ys.length : Int)) ys _ _ _ (fun k => some k ≠ (Value.slice A7 ys.length c7).ownBlock) (fun _ => False) rfl rfl ?aO ?aR (fun _ _ h => h) (fun _ h => h.elim) ?aF ?aB ?aS ?aL ?_; (case aO => exact ST.out.row); (case aR => exact (Kd.R_reads' ST.out.bod).2.2); (case aF => exact fun k hk => Kd.fresh' (Kd.R_lt ST.out.bod) k hk); (case aB => exact ST.out.bel); (case aS => exact below_size ST.out.bel); (case aL => have h1_ := HXL.out; have h2_ := putP_len ah; have h3_ := putP_len (ys.length : Int); have h4_ := HYL.out; (try simp only [List.length_append]); omega); intro vo w7 ho hb hg hat; refine Or.inl ⟨rfl, ?_⟩; have n0_ := Aside0.mk (ST.out.app4 ho hg hat hb); clear ho hb hg hat ST s0; have ST := n0_; clear n0_; obtain ⟨A9, c9, e9⟩ := Kd.R_slice ST.out.row; subst e9; have f9 := blk_frozen ST.out.out 0; have s9 : w7.cell? ⟨O, 0, none⟩ = some (.slice A8 (xs.length + ((putP ah).length + (putP (ys.length : Int)).length)) c8) := (blk_cell ST.out.out 0).trans rfl))
        have hfin := ST.out.setO (.slice A9 (xs.length + ((putP ah).length + ((putP (ys.length : Int)).length + ys.length))) c9)
        have hl9 : (xs ++ putP ah ++ putP (ys.length : Int) ++ ys).length = xs.length + ((putP ah).length + ((putP (ys.length : Int)).length + ys.length)) := by simp only [List.length_append, Nat.add_assoc]
        rw [hl9] at hfin
        have hxe : xs ++ blockP ah0 q = xs ++ putP ah ++ putP (ys.length : Int) ++ ys := by
          unfold blockP
          rw [← HE.out.1, ← HE.out.2]
          simp only [List.append_assoc]
        exact ⟨hfin.kep, ⟨hfin.bs.trans GB.out.1.symm, hfin.bn.trans GB.out.2.symm⟩, (HEND.out _).2 ⟨⟨_, hfin.out, by rw [hxe]; exact Kd.R_mono hfin.row (fun _ _ => trivial)⟩, by rw [← HE.out.2]; exact hfin.ahd, hfin.bs, hfin.bn, hfin.bel⟩⟩
set_option maxHeartbeats 2000000 in
set_option maxRecDepth 100000 in
theorem postPack_calls (A : Option Addr) (c : Nat) (l : List S64) (w : World) (hC : Kd.C k64 w A l.length l) (hc : l.length ≤ c) (hl : l.length ≤ 17592186044416) :
    Calls Try.prog 18 #[.slice A l.length c] w fun e w' => ∃ (v : Value) (er : Int), e = .returned (.tuple #[v, .int .i64 er]) ∧ Kd.R (Kd.int .u8) 5 w' w.heap.size (fun _ => True) v (postPackR l) ∧ Below w.heap.size w w' := by
  cases hm : postMayP l with
  | true =>
    refine (callsIn_wide.1 (postPack_in A c l w hC hc hm)).mono ?_
    rintro e w' ⟨v, rfl, h1, h2⟩
    exact ⟨v, 0, rfl, by unfold postPackR; rw [if_pos hm]; exact h1, h2⟩
  | false =>
    have HC := Aside0.mk hC
    have HCC := Aside0.mk hc
    have HB := Aside0.mk (Below.refl w.heap.size w)
    have HM := Aside0.mk (show post_May.f (l.length + 124) l = some false from (postMay_eq l hl _ (Nat.le_refl _)).trans (congrArg some hm))
    have HR := Aside0.mk (show postPackR l = [] from by unfold postPackR; rw [hm]; rfl)
    clear hC hc hl hm
    go_enter Try.func18, Try.ntmps18
    go_wp2_with (first | (go_at_call 34; (refine (post_May.calls (l.length + 124) A c l false _ HC.out HCC.out HM.out).mono ?_); rintro e_ w1 ⟨rfl, hb⟩; clear HB; have HB := Aside0.mk hb; clear hb))
    refine bodyPost_ret (results_tmp2 rfl _ _ _) rfl ?_
    exact ⟨_, _, rfl, by rw [HR.out]; exact Kd.R_nil _ _ _ _ _, HB.out⟩

end Go.Proofs.Ytfhcolhiolgikaa.T

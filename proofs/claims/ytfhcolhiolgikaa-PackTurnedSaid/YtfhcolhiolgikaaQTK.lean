import Derived.Test.YtfhcolhiolgikaaQTV
import Derived.RangeFuncNested
import Derived.RangeFuncBound
import Derived.RangeFuncCalls
import Derived.RangeFuncLeaves
import Derived.Shelf.Abstract
import Derived.Shelf.RegionOpen
import Derived.OwnWalkIn
import Derived.TacticsInMore
import Derived.LoopNIn
import Derived.LoopIn
import Derived.Test.YtfhcolhiolgikaaProg
import Derived.Below
import Derived.Deep.Draws
import Derived.Deep.AppendLies
import Derived.Maps.AppendAt
import Derived.OwnWalk
import Derived.Laws.BytesArg
import Derived.Laws.MakeOwn
import Derived.Laws.OwnMore
import Derived.Deep.OwnRows
import Derived.Tactics
import Derived.Lib.ConvBytes
import Derived.Laws.Slices
import Derived.WalkKit
import Derived.KernelRfl
import Derived.RowKit3
import Derived.Deep.LoopGhost
import Derived.Deep.QuietTactic
import Derived.BigQuiet
import Derived.WideLaws
import Derived.Deep.DeepCutAuto
import Derived.Deep.CutBlock
import Derived.Deep.RegionHeld3
import Derived.Laws.Rows
import Derived.Lib.AppendStr
import Derived.ArgAppend
import Derived.Laws.IdiomCopy
import Derived.OrdersHeld
import Derived.Laws.BitsLemmas
import Derived.RowKit
import Derived.Test.YtfhcolhiolgikaaQTA
import Derived.Test.YtfhcolhiolgikaaQTG
/- Texts of this claim, laid together by a program (merge.py): Ch. -/
/- Written by hp.py, this session's own program, out of the translation of this seat: Lean functions for the Go functions, and the proof that each call comes to what its Lean function says. -/
namespace Go.Proofs.Ytfhcolhiolgikaa.T
open Go.RowKit Go.Proofs.YtfhcolhiolgikaaW.PrintWords Go.Proofs.YtfhcolhiolgikaaW.PrintLast Go.Proofs.YtfhcolhiolgikaaW.PrintMore
attribute [local go_sem] max2_int min2_int max_two min_two max_three min_three max_four min_four   -- for this text's walks alone
set_option linter.unusedVariables false
set_option linter.unusedSimpArgs false
/-! ### slices.Chunk (35) and its closure (57), by hand, inside the wide fence -/
open Go.Shelf Go.Proofs.Ytfhcolhiolgikaa.Plain
attribute [local go_sem] Oper.semAt_some
/-- The j-th chunk of four. -/
def chunkV (A : Option Addr) (len : Nat) (j : Nat) : Value := .slice (A.map (·.add (4 * j * 2))) (min 4 (len - 4 * j)) (min 4 (len - 4 * j))
set_option maxHeartbeats 1000000 in
set_option maxRecDepth 100000 in
theorem chunk_calls (A : Option Addr) (len c : Nat) (w : World) :
  Calls Try.prog 35 #[.slice A len c, .int .i64 4] w fun e w' => e = .returned (.func (.func 57) #[] #[.pointer (some ⟨w.heap.size, 0, none⟩), .pointer (some ⟨w.heap.size + 1, 0, none⟩)]) ∧ w' = (w.alloc (.cells #[.slice A len c] 42)).alloc (.cells #[.int .i64 4] 3) := by
 go_enter Try.func35, Try.ntmps35
 go_wp2
 go_ret
 exact ⟨rfl, rfl⟩
/-- The iterator's two boxes lie as they lay. -/
def KeepB (Bs Bn : Nat) (W W' : World) : Prop := W'.heap[Bs]? = W.heap[Bs]? ∧ W'.heap[Bn]? = W.heap[Bn]?
theorem KeepB.trans {Bs Bn : Nat} {A B C : World} (h : KeepB Bs Bn A B) (k : KeepB Bs Bn B C) : KeepB Bs Bn A C := ⟨k.1.trans h.1, k.2.trans h.2⟩
theorem KeepB.refl (Bs Bn : Nat) (W : World) : KeepB Bs Bn W W := ⟨rfl, rfl⟩
theorem KeepB.cs {Bs Bn : Nat} {W W' : World} (h : KeepB Bs Bn W W') : W'.cell? ⟨Bs, 0, none⟩ = W.cell? ⟨Bs, 0, none⟩ := by
 unfold World.cell?
 simp only [h.1]
theorem KeepB.cn {Bs Bn : Nat} {W W' : World} (h : KeepB Bs Bn W W') : W'.cell? ⟨Bn, 0, none⟩ = W.cell? ⟨Bn, 0, none⟩ := by
 unfold World.cell?
 simp only [h.2]
def rangeL (k : Nat) : List Nat := List.range k
theorem rangeL_succ (k : Nat) : rangeL (k + 1) = rangeL k ++ [k] := by simp [rangeL, List.range_succ]
theorem rangeL_length (k : Nat) : (rangeL k).length = k := by simp [rangeL]
set_option maxHeartbeats 4000000 in
set_option maxRecDepth 100000 in
theorem chunk1_in (n : Nat) (l Bs Bn : Nat) (A : Option Addr) (len c : Nat) (N : Nat) (hN : len ≤ 4 * N) (hN2 : 4 * N < len + 4) (hlc : len ≤ c) (hlen : len ≤ 1000000) (hA : len = 0 ∨ ∃ ad, A = some ad) (J Jx : List Nat → World → Prop)
  (hY : ∀ pre x W, J pre W → pre.length < N → YieldAt Fence.wide (n - 1) Try.prog l #[chunkV A len x] W fun e W' =>
   (e = .returned (.bool true) ∧ J (pre ++ [x]) W' ∧ KeepB Bs Bn W W') ∨ (e = .returned (.bool false) ∧ Jx (pre ++ [x]) W'))
  (hJ : ∀ (s : List Nat) (W : World), J s W → J s W.drew) (W : World) (hBs : W.cell? ⟨Bs, 0, none⟩ = some (.slice A len c)) (hBn : W.cell? ⟨Bn, 0, none⟩ = some (.int .i64 4)) (h0 : J [] W) :
  CallsIn Fence.wide n Try.prog 57 #[.func (.yield l) #[] #[], .pointer (some ⟨Bs, 0, none⟩), .pointer (some ⟨Bn, 0, none⟩)] W fun e W' => (∃ v, e = .returned v) ∧
   ((∃ ys, ys = rangeL N ∧ J ys W') ∨ (∃ pre, True ∧ Jx pre W')) := by
 refine callsIn_of_wp Try.func57 rfl trivial ?_ rfl
 simp only [Try.ntmps57, List.size_toArray, List.length_cons, List.length_nil, Nat.reduceAdd, Nat.reduceSub, Array.replicate_succ, Array.replicate_zero, List.push_toArray, List.append_toArray, List.nil_append, List.cons_append]
 gi_wp2
 gi_loopw [4] (fun i wr => ∃ k q : Nat, q = 4 * k ∧ k ≤ N ∧ i = .int .i64 (q : Int) ∧ J (rangeL k) wr ∧ KeepB Bs Bn W wr)
  (fun i _ => 4 * N - (intOf i).toNat)
 case atStart => exact ⟨0, 0, rfl, Nat.zero_le _, rfl, h0, KeepB.refl _ _ _⟩
 case round =>
  obtain ⟨k, q, hq, hk, rfl, hJs, hnx⟩ := hrel
  have s0 := hnx.cs.trans hBs
  have s1 := hnx.cn.trans hBn
  by_cases hlt : k < N
  ·
   have c1 : decide ((q : Int) < (len : Int)) = true := decide_eq_true (by omega)
   have c2 : decide (q < len) = true := decide_eq_true (by omega)
   obtain ⟨ad, rfl⟩ : ∃ ad, A = some ad := by
    rcases hA with h | h
    ·
     omega
    ·
     exact h
   gi_wp2
   refine wpIn_wide.2 ?_
   have hmn : min (4 : Int) ((len : Int) - (q : Int)) = ((min 4 (len - q) : Nat) : Int) := by omega
   obtain ⟨m, hm⟩ : ∃ m, m = min 4 (len - q) := ⟨_, rfl⟩
   rw [← hm] at hmn
   have p1 : (0 : Int) ≤ (q : Int) := by omega
   have p2 : (q : Int) ≤ (c : Int) := by omega
   have p3 : (q : Int) ≤ (len : Int) := by omega
   replace p1 := eq_true p1
   replace p2 := eq_true p2
   replace p3 := eq_true p3
   have HQ := Aside0.mk hq
   have HM := Aside0.mk hm
   have s0_ : wr.drew.cell? ⟨Bs, 0, none⟩ = some (.slice (some ad) len c) := s0
   have s1_ : wr.drew.cell? ⟨Bn, 0, none⟩ = some (.int .i64 4) := s1
   have hJd := hJ _ _ hJs
   have hnd : KeepB Bs Bn W wr.drew := hnx
   clear hJs hnx s0 s1 hq hm hA
   refine start_ (n := 7) (S := fun w' => w'.cell? ⟨Bs, 0, none⟩ = some (.slice (some ad) len c) ∧ w'.cell? ⟨Bn, 0, none⟩ = some (.int .i64 4)) (ds := []) #[false, false, false, false, false, false, false] (by kernel_rfl) rfl rfl ⟨s0_, s1_⟩ (fun hHeld => ?_)
   refine rgP 2 15 ?_
   refine rgT2 0 13 hHeld ?_
   refine rgT2 1 14 hHeld ?_
   refine rgP 3 16 ?_
   refine rgP 4 17 ?_
   refine rgP 5 18 ?_
   refine rgP 6 5 ?_
   refine done_ (by kernel_rfl) ?_
   have hmin : (if ((len - q : Nat) : Int) < 4 then ((len - q : Nat) : Int) else 4) = (m : Int) := by have := HM.out; split <;> omega
   rw [hmin]
   clear hmin hmn s0_ s1_
   have s0_ : wr.drew.cell? ⟨Bs, 0, none⟩ = some (.slice (some ad) len c) := hnd.cs.trans hBs
   have hv : chunkV (some ad) len k = .slice (some (ad.add (q * 2))) m m := by
    unfold chunkV
    rw [← HQ.out, ← HM.out]
    rfl
   have hqm : wrap64 ((q : Int) + (m : Int)) = ((q + m : Nat) : Int) := by rw [wid (by omega) (by have := HM.out; have := HQ.out; omega)]; omega
   have m0 : 0 < m := by have := HM.out; have := HQ.out; omega
   have t1 : (0 : Int) ≤ (q : Int) := by omega
   have t2 : (q : Int) ≤ ((q + m : Nat) : Int) := by omega
   have t3 : ((q + m : Nat) : Int) ≤ ((q + m : Nat) : Int) := Int.le_refl _
   have t4 : ((q + m : Nat) : Int) ≤ (c : Int) := by have := HM.out; omega
   have t5 : ((q : Int) + (m : Int)) ≤ (c : Int) := by omega
   have t6 : (q : Int) ≤ (q : Int) + (m : Int) := by omega
   have t7 : q + m - q = m := by omega
   have t8 : ¬ (q + m = q) := by omega
   have t9 : m ≠ 0 := by omega
   obtain ⟨fn, tmps, assign, body, hy, hR⟩ := hY _ k wr.drew hJd (by rw [rangeL_length]; exact hlt)
   rw [hv] at hy
   clear hv hJd
   gi_wp2
   refine ⟨fun h => absurd h (by simp [Fence.wide]), ?_⟩
   refine hR.mono ?_
   rintro e W3 (⟨rfl, hJ3, hk3⟩ | ⟨rfl, hJx3⟩)
   ·
    have s1_ : W3.cell? ⟨Bn, 0, none⟩ = some (.int .i64 4) := hk3.cn.trans (hnd.cn.trans hBn)
    have HW := Aside0.mk (show wrap64 ((q : Int) + 4) = ((q + 4 : Nat) : Int) by rw [wid (by omega) (by have := HQ.out; omega)]; omega)
    clear hqm t1 t2 t3 t4 t5 t6 t7 t8 t9 p1 p2 p3 c1 c2 s0_
    gi_wp2
    go_roundw
    case rel => exact ⟨k + 1, q + 4, by have := HQ.out; omega, by omega, by rw [HW.out], by rw [rangeL_succ]; exact hJ3, hnd.trans hk3⟩
    case measure => rw [HW.out]; simp [intOf]; have := HQ.out; omega
   ·
    gi_wp2
    refine bodyPost_ret (results_none rfl _ _ _) rfl ?_
    exact ⟨⟨_, rfl⟩, .inr ⟨_, trivial, hJx3⟩⟩
  ·
   have c1 : decide ((q : Int) < (len : Int)) = false := decide_eq_false (by omega)
   have c2 : decide (q < len) = false := decide_eq_false (by omega)
   have hkN : k = N := by omega
   subst hkN
   clear hq
   gi_wp2
   go_end0
   exact ⟨⟨_, rfl⟩, .inl ⟨_, rfl, hJs⟩⟩

end Go.Proofs.Ytfhcolhiolgikaa.T

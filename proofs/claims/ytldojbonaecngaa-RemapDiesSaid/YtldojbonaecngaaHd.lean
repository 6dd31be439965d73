/- Written by hp.py, this session's own program, out of the translation of this seat: Lean functions for the Go functions, and the proof that each call comes to what its Lean function says. -/
import Derived.Test.YtldojbonaecngaaProg
import Derived.Below
import Derived.Deep.Draws
import Derived.Deep.AppendLies
import Derived.Maps.AppendAt
import Derived.OwnWalk
import Derived.Laws.BytesArg
import Derived.Laws.MakeOwn
import Derived.Laws.OwnMore
import Derived.Deep.OwnRows
import Derived.Tactics
import Derived.Lib.ConvBytes
import Derived.Laws.Slices
import Derived.WalkKit
import Derived.KernelRfl
import Derived.RowKit3
import Derived.Deep.LoopGhost
import Derived.Deep.QuietTactic
import Derived.BigQuiet
import Derived.WideLaws
import Derived.Deep.DeepCutAuto
import Derived.Deep.CutBlock
import Derived.Deep.RegionHeld3
import Derived.Laws.Rows
import Derived.Lib.AppendStr
import Derived.ArgAppend
import Derived.Laws.IdiomCopy
import Derived.OrdersHeld
import Derived.Laws.BitsLemmas
import Derived.RowKit
import Derived.Test.YtldojbonaecngaaWWords
import Derived.Test.YtldojbonaecngaaWLast
import Derived.Test.YtldojbonaecngaaWTab
import Derived.Test.YtldojbonaecngaaWFour
import Derived.Test.YtldojbonaecngaaWQPut
import Derived.Test.YtldojbonaecngaaWApart
import Derived.Test.YtldojbonaecngaaWArr
import Derived.Test.YtldojbonaecngaaWZeros
import Derived.Test.YtldojbonaecngaaWFoot
import Derived.Test.YtldojbonaecngaaWKept
import Derived.Test.YtldojbonaecngaaWShare
import Derived.Test.YtldojbonaecngaaWN
import Derived.Test.YtldojbonaecngaaWFootNe
import Derived.Test.YtldojbonaecngaaWAt
import Derived.Test.YtldojbonaecngaaWEqStruct
import Derived.Test.YtldojbonaecngaaWRepsOne
import Derived.Test.YtldojbonaecngaaWInv
import Derived.Test.YtldojbonaecngaaWInvWords
import Derived.Test.YtldojbonaecngaaWGuard
import Derived.Test.YtldojbonaecngaaWNEv
import Derived.Test.YtldojbonaecngaaWMore
import Derived.Test.YtldojbonaecngaaTx0
import Derived.Test.YtldojbonaecngaaFc
import Derived.Test.YtldojbonaecngaaTx1
namespace Go.Proofs.Ytldojbonaecngaa.T
open Go.RowKit Go.Proofs.YtldojbonaecngaaW.PrintWords Go.Proofs.YtldojbonaecngaaW.PrintLast Go.Proofs.YtldojbonaecngaaW.PrintMore
attribute [local go_sem] max2_int min2_int max_two min_two max_three min_three max_four min_four   -- for this text's walks alone
set_option linter.unusedVariables false
set_option linter.unusedSimpArgs false
/-! ### remap_Table: function 12 (a closure that counts in a variable it captured), by hand -/
def places : List Bool → Int → List Int
  | [], _ => []
  | true :: l, n => n :: places l (n + 1)
  | false :: l, n => (-1) :: places l n
def remap_Table.f (l0 : List Bool) (n : Int) : Option (List Int) := if l0.length ≤ 64 ∧ 0 ≤ n ∧ n ≤ 1100 then some (places l0 n) else some []
theorem table_next (b : Bool) (g : Nat) (m : Int) (w : World) (h0 : -1 ≤ m) (h1 : m ≤ 100000) (hh : w.heap[g]? = some (.cells #[.int .i64 m] 3 (0, 0))) :
    Calls Try.prog 26 #[.bool b, .pointer (some ⟨g, 0, none⟩)] w fun e w' => e = .returned (.int .i64 (if b then m else -1)) ∧ w' = if b then w.setCell ⟨g, 0, none⟩ (.int .i64 (m + 1)) else w := by
  have hc : w.cell? ⟨g, 0, none⟩ = some (.int .i64 m) := by
    rw [cell_of_row w g 0 _ 3 (0, 0) hh]
    rfl
  have hf : w.frozen? ⟨g, 0, none⟩ = false := blk_frozen hh 0
  cases b with
  | true =>
    go_enter Try.func26, Try.ntmps26
    go_wp2
    go_ret
    exact ⟨rfl, rfl⟩
  | false =>
    go_enter Try.func26, Try.ntmps26
    go_wp2
    go_ret
    exact ⟨rfl, rfl⟩
set_option maxHeartbeats 4000000 in
set_option maxRecDepth 100000 in
theorem remap_Table.calls (A0 : Option Addr) (c0 : Nat) (l0 : List Bool) (n : Int) (r : List Int) (w : World) (hr0 : Kd.C Kd.bool w A0 l0.length l0) (hc0 : l0.length ≤ c0) (h : remap_Table.f l0 n = some r) :
    Calls Try.prog 12 #[.slice A0 l0.length c0, .int .i64 n] w fun e w' => ∃ v0_ : Value, e = .returned (v0_) ∧ Kd.R (Kd.int .i64) 3 w' w.heap.size (fun _ => True) v0_ r ∧ Below w.heap.size w w' := by
  have hmf : ∀ (fn : Fn) (first cap : Array Value) (w : World), (Instr.makeFunc fn first cap).run Try.prog w = .ok (.func fn first cap) w := fun _ _ _ _ => rfl
  have hM := Aside0.mk (show live_May.f l0 = some (decide ((l0.length : Int) ≤ 64)) from rfl)
  have HR := Aside0.mk hr0
  have HB := Aside0.mk (Below.refl w.heap.size w)
  unfold remap_Table.f at h
  by_cases hin : l0.length ≤ 64 ∧ 0 ≤ n ∧ n ≤ 1100
  · rw [if_pos hin] at h
    obtain rfl := Option.some.inj h
    obtain ⟨hl, h0, h1⟩ := hin
    have b0 : decide ((l0.length : Int) ≤ 64) = true := decide_eq_true (by omega)
    have b1 : decide (n < 0) = false := decide_eq_false (by omega)
    have b2 : decide (1100 < n) = false := decide_eq_false (by omega)
    rw [b0] at hM
    clear hr0 h
    go_enter Try.func12, Try.ntmps12
    go_wp2_with (first | ((with_reducible refine gate_callee (f := 25) rfl ?_); refine goesL_ (some 10) rfl rfl Try.func25 (by kernel_rfl) rfl #[.slice A0 l0.length c0] rfl (by (try simp only [List.map_toArray, List.map_cons, List.map_nil]); first | done | rfl) ?_; (with_reducible refine (live_May.calls _ _ _ _ _ (Kd.C_alloc HR.out _) hc0 hM.out).mono ?_); rintro e w' ⟨rfl, ⟨nd, rfl⟩⟩; refine ⟨_, rfl, ?_⟩))
    go_loopg [5, 23] l0.length (fun kq v5 v23 w' => ∃ (i : Nat) (m : Int) (out : List Int), v23 = .int .i64 (i : Int) ∧ Aside0 (l0.length ≤ kq + i) ∧ Aside0 (i ≤ l0.length ∧ i ≤ 64 ∧ 0 ≤ m ∧ m ≤ 1100 + i) ∧ Aside0 (out ++ places (l0.drop i) m = places l0 n) ∧ Aside0 (out.length = i) ∧ Aside0 (w'.heap[w.heap.size]? = some (.cells #[.int .i64 m] 3 (0, 0))) ∧ Aside0 (Kd.R (Kd.int .i64) 3 w' w.heap.size (fun k => k ≠ w.heap.size) v5 out) ∧ Aside0 (Below w.heap.size w w'))
    case atStart => exact ⟨0, n, [], rfl, ⟨Nat.le_refl _⟩, ⟨by omega⟩, ⟨rfl⟩, ⟨rfl⟩, ⟨blk_drewN (blk_new w _) nd⟩, ⟨Kd.R_nil _ _ _ _ _⟩, ⟨pw_below_drewN (below_alloc HB.out _) nd⟩⟩
    case round =>
      obtain ⟨i, m, out, rfl, HK, HI, HP, HL, HX, HO, HB⟩ := hrel
      replace HP := HP.out
      by_cases hlt : i < l0.length
      · have c1 : decide ((i : Int) < (l0.length : Int)) = true := decide_eq_true (by omega)
        obtain ⟨kj, rfl⟩ : ∃ k, gk = k + 1 := ⟨gk - 1, by have := HK.out; omega⟩
        obtain ⟨ad, e1, hx⟩ := Kd.at_bool HR.out (i : Int) (by omega) (by omega)
        cases e1
        replace hx := (HB.out.cell (World.block_lt_of_cell? w _ hx)).trans hx
        have hfr : ∀ k, wr.heap.size ≤ k → k ≠ w.heap.size := fun k hk => by have := blk_lt HX.out; omega
        have p1 : decide (0 ≤ (i : Int)) = true := decide_eq_true (by omega)
        have hdrop : l0.drop i = rdOf false l0 (i : Int) :: l0.drop (i + 1) := by
          rw [List.drop_eq_getElem_cons hlt]
          simp [rdOf, List.getD_eq_getElem?_getD, hlt]
        cases hb_ : rdOf false l0 (i : Int)
        all_goals rw [hb_, Int.toNat_natCast] at hx
        · have e_ : places (l0.drop i) m = (-1) :: places (l0.drop (i + 1)) m := by rw [hdrop, hb_]; rfl
          rw [e_] at HP
          go_wp2_with (first | (go_at_call 26; (with_reducible refine (table_next false w.heap.size m wr (by have := HI.out; omega) (by have := HI.out; omega) HX.out).mono ?_); rintro e w2 ⟨rfl, hw⟩; simp only [if_true, Bool.false_eq_true, if_false] at hw ⊢; have HXn := Aside0.mk (show w2.heap[w.heap.size]? = some (.cells #[.int .i64 m] 3 (0, 0)) by rw [hw]; exact HX.out); have HOn := Aside0.mk (show Kd.R (Kd.int .i64) 3 w2 w.heap.size (fun k => k ≠ w.heap.size) u5 out by rw [hw]; exact HO.out); have HBn := Aside0.mk (show Below w.heap.size w w2 by rw [hw]; exact HB.out); clear hw) | ((with_reducible refine gate_builtin (b := .append) (xs := #[.tmp 27, .tmp 31]) rfl ?_); at_builtin; refine Kd.R_append (Kd.int .i64) (w0 := w) w.heap.size rfl (.tmp 27) (.tmp 31) 23 3 (.int .i64 0) 8 rfl Try.underlying23 info3 rfl (by decide) (by omega) u5 out (-1) [.int .i64 (-1)] (fun k => k ≠ w.heap.size) (fun _ => False) rfl rfl ?aP (fun _ hk => hk.elim) ?aF ?aO ?aB ?aS ?aL ?_; (case aP => exact rfl); (case aB => exact (by repeat (first | (with_reducible first | exact HBn.out | apply below_alloc | apply pw_below_drewN | apply below_drew1) | exact HBn.out))); (case aF => exact fun k hk => (by have := blk_lt HXn.out; omega)); (case aO => exact (by (with_reducible repeat (first | apply Kd.R_alloc | apply Kd.R_drewN | apply Kd.R_drew)); exact HOn.out)); (case aS => exact below_size (by repeat (first | (with_reducible first | exact HBn.out | apply below_alloc | apply pw_below_drewN | apply below_drew1) | exact HBn.out))); (case aL => have := HL.out; have := HI.out; omega); intro v1 w1 ho hb hg hat; have HO2 := Aside0.mk ho; have HB2 := Aside0.mk hb; have HX2 := Aside0.mk (blk_grown (by first | exact HXn.out | exact blk_alloc HXn.out _) hg (fun he => HOn.out.1 _ he.symm rfl)); clear ho hb hg hat))
          go_roundg kj
          case measure => omega
          case rel => exact ⟨i + 1, m, out ++ [(-1)], congrArg (Value.int .i64) (by omega), ⟨by have := HK.out; omega⟩, ⟨by have := HI.out; omega⟩, ⟨by rw [List.append_assoc]; exact HP⟩, ⟨by rw [List.length_append, HL.out]; rfl⟩, HX2, HO2, HB2⟩
        · have e_ : places (l0.drop i) m = m :: places (l0.drop (i + 1)) (m + 1) := by rw [hdrop, hb_]; rfl
          rw [e_] at HP
          go_wp2_with (first | (go_at_call 26; (with_reducible refine (table_next true w.heap.size m wr (by have := HI.out; omega) (by have := HI.out; omega) HX.out).mono ?_); rintro e w2 ⟨rfl, hw⟩; simp only [if_true, Bool.false_eq_true, if_false] at hw ⊢; have HXn := Aside0.mk (show w2.heap[w.heap.size]? = some (.cells #[.int .i64 (m + 1)] 3 (0, 0)) by rw [hw]; exact blk_set HX.out 0 _); have HOn := Aside0.mk (show Kd.R (Kd.int .i64) 3 w2 w.heap.size (fun k => k ≠ w.heap.size) u5 out by rw [hw]; exact Kd.R_far HO.out (fun k hk => hk) _); have HBn := Aside0.mk (show Below w.heap.size w w2 by rw [hw]; exact below_set HB.out (Nat.le_refl _)); clear hw) | ((with_reducible refine gate_builtin (b := .append) (xs := #[.tmp 27, .tmp 31]) rfl ?_); at_builtin; refine Kd.R_append (Kd.int .i64) (w0 := w) w.heap.size rfl (.tmp 27) (.tmp 31) 23 3 (.int .i64 0) 8 rfl Try.underlying23 info3 rfl (by decide) (by omega) u5 out m [.int .i64 m] (fun k => k ≠ w.heap.size) (fun _ => False) rfl rfl ?aP (fun _ hk => hk.elim) ?aF ?aO ?aB ?aS ?aL ?_; (case aP => exact rfl); (case aB => exact (by repeat (first | (with_reducible first | exact HBn.out | apply below_alloc | apply pw_below_drewN | apply below_drew1) | exact HBn.out))); (case aF => exact fun k hk => (by have := blk_lt HXn.out; omega)); (case aO => exact (by (with_reducible repeat (first | apply Kd.R_alloc | apply Kd.R_drewN | apply Kd.R_drew)); exact HOn.out)); (case aS => exact below_size (by repeat (first | (with_reducible first | exact HBn.out | apply below_alloc | apply pw_below_drewN | apply below_drew1) | exact HBn.out))); (case aL => have := HL.out; have := HI.out; omega); intro v1 w1 ho hb hg hat; have HO2 := Aside0.mk ho; have HB2 := Aside0.mk hb; have HX2 := Aside0.mk (blk_grown (by first | exact HXn.out | exact blk_alloc HXn.out _) hg (fun he => HOn.out.1 _ he.symm rfl)); clear ho hb hg hat))
          go_roundg kj
          case measure => omega
          case rel => exact ⟨i + 1, (m + 1), out ++ [m], congrArg (Value.int .i64) (by omega), ⟨by have := HK.out; omega⟩, ⟨by have := HI.out; omega⟩, ⟨by rw [List.append_assoc]; exact HP⟩, ⟨by rw [List.length_append, HL.out]; rfl⟩, HX2, HO2, HB2⟩
      · have c1 : decide ((i : Int) < (l0.length : Int)) = false := decide_eq_false (by omega)
        have ei : l0.drop i = [] := List.drop_eq_nil_of_le (by omega)
        rw [ei] at HP
        have ho : out = places l0 n := by rw [← HP]; simp [places]
        go_wp2
        go_ret
        exact ⟨_, rfl, by rw [← ho]; exact Kd.R_mono HO.out (fun _ _ => trivial), HB.out⟩
  · rw [if_neg hin] at h
    obtain rfl := Option.some.inj h
    clear hr0 h
    have fin : ∀ nd : Nat, Below w.heap.size w ((w.alloc (.cells #[.int .i64 n] 3 (0, 0))).drewN nd) := fun nd => pw_below_drewN (below_alloc HB.out _) nd
    by_cases c1 : l0.length ≤ 64
    · have b0 : decide ((l0.length : Int) ≤ 64) = true := decide_eq_true (by omega)
      rw [b0] at hM
      by_cases c2 : n < 0
      · have b1 : decide (n < 0) = true := decide_eq_true c2
        go_enter Try.func12, Try.ntmps12
        go_wp2_with (first | ((with_reducible refine gate_callee (f := 25) rfl ?_); refine goesL_ (some 10) rfl rfl Try.func25 (by kernel_rfl) rfl #[.slice A0 l0.length c0] rfl (by (try simp only [List.map_toArray, List.map_cons, List.map_nil]); first | done | rfl) ?_; (with_reducible refine (live_May.calls _ _ _ _ _ (Kd.C_alloc HR.out _) hc0 hM.out).mono ?_); rintro e w' ⟨rfl, ⟨nd, rfl⟩⟩; refine ⟨_, rfl, ?_⟩))
        go_ret
        exact ⟨_, rfl, Kd.R_nil _ _ _ _ _, fin _⟩
      · have b1 : decide (n < 0) = false := decide_eq_false c2
        have b2 : decide (1100 < n) = true := decide_eq_true (by omega)
        go_enter Try.func12, Try.ntmps12
        go_wp2_with (first | ((with_reducible refine gate_callee (f := 25) rfl ?_); refine goesL_ (some 10) rfl rfl Try.func25 (by kernel_rfl) rfl #[.slice A0 l0.length c0] rfl (by (try simp only [List.map_toArray, List.map_cons, List.map_nil]); first | done | rfl) ?_; (with_reducible refine (live_May.calls _ _ _ _ _ (Kd.C_alloc HR.out _) hc0 hM.out).mono ?_); rintro e w' ⟨rfl, ⟨nd, rfl⟩⟩; refine ⟨_, rfl, ?_⟩))
        go_ret
        exact ⟨_, rfl, Kd.R_nil _ _ _ _ _, fin _⟩
    · have b0 : decide ((l0.length : Int) ≤ 64) = false := decide_eq_false (by omega)
      rw [b0] at hM
      go_enter Try.func12, Try.ntmps12
      go_wp2_with (first | ((with_reducible refine gate_callee (f := 25) rfl ?_); refine goesL_ (some 10) rfl rfl Try.func25 (by kernel_rfl) rfl #[.slice A0 l0.length c0] rfl (by (try simp only [List.map_toArray, List.map_cons, List.map_nil]); first | done | rfl) ?_; (with_reducible refine (live_May.calls _ _ _ _ _ (Kd.C_alloc HR.out _) hc0 hM.out).mono ?_); rintro e w' ⟨rfl, ⟨nd, rfl⟩⟩; refine ⟨_, rfl, ?_⟩))
      go_ret
      exact ⟨_, rfl, Kd.R_nil _ _ _ _ _, fin _⟩

end Go.Proofs.Ytldojbonaecngaa.T

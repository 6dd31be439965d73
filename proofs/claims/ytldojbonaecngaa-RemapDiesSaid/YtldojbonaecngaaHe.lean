/- Written by hp.py, this session's own program, out of the translation of this seat: Lean functions for the Go functions, and the proof that each call comes to what its Lean function says. -/
import Derived.Test.YtldojbonaecngaaProg
import Derived.Below
import Derived.Laws.EntriesVeiled
import Derived.Deep.Draws
import Derived.Deep.AppendLies
import Derived.Maps.AppendAt
import Derived.OwnWalk
import Derived.Laws.BytesArg
import Derived.Laws.MakeOwn
import Derived.Laws.OwnMore
import Derived.Deep.OwnRows
import Derived.Tactics
import Derived.Lib.ConvBytes
import Derived.Laws.Slices
import Derived.WalkKit
import Derived.KernelRfl
import Derived.RowKit3
import Derived.Deep.LoopGhost
import Derived.Deep.QuietTactic
import Derived.BigQuiet
import Derived.WideLaws
import Derived.Deep.DeepCutAuto
import Derived.Deep.CutBlock
import Derived.Deep.RegionHeld3
import Derived.Laws.Rows
import Derived.Lib.AppendStr
import Derived.ArgAppend
import Derived.Laws.IdiomCopy
import Derived.OrdersHeld
import Derived.Laws.BitsLemmas
import Derived.RowKit
import Derived.Test.YtldojbonaecngaaWWords
import Derived.Test.YtldojbonaecngaaWLast
import Derived.Test.YtldojbonaecngaaWTab
import Derived.Test.YtldojbonaecngaaWFour
import Derived.Test.YtldojbonaecngaaWQPut
import Derived.Test.YtldojbonaecngaaWApart
import Derived.Test.YtldojbonaecngaaWArr
import Derived.Test.YtldojbonaecngaaWZeros
import Derived.Test.YtldojbonaecngaaWFoot
import Derived.Test.YtldojbonaecngaaWKept
import Derived.Test.YtldojbonaecngaaWShare
import Derived.Test.YtldojbonaecngaaWN
import Derived.Test.YtldojbonaecngaaWFootNe
import Derived.Test.YtldojbonaecngaaWAt
import Derived.Test.YtldojbonaecngaaWEqStruct
import Derived.Test.YtldojbonaecngaaWRepsOne
import Derived.Test.YtldojbonaecngaaWInv
import Derived.Test.YtldojbonaecngaaWInvWords
import Derived.Test.YtldojbonaecngaaWGuard
import Derived.Test.YtldojbonaecngaaWNEv
import Derived.Test.YtldojbonaecngaaWMore
import Derived.Test.YtldojbonaecngaaTx0
import Derived.Test.YtldojbonaecngaaFc
import Derived.Test.YtldojbonaecngaaSr
import Derived.Test.YtldojbonaecngaaOd
namespace Go.Proofs.Ytldojbonaecngaa.T
open Go.RowKit Go.Proofs.YtldojbonaecngaaW.PrintWords Go.Proofs.YtldojbonaecngaaW.PrintLast Go.Proofs.YtldojbonaecngaaW.PrintMore
attribute [local go_sem] max2_int min2_int max_two min_two max_three min_three max_four min_four   -- for this text's walks alone
set_option linter.unusedVariables false
set_option linter.unusedSimpArgs false
/-! ### remap_Order: function 17, by hand -/
section
open Go.Sort
def upto (n : Nat) : List Int := (List.range n).map fun i : Nat => (i : Int)
theorem upto_length (n : Nat) : (upto n).length = n := by simp [upto]
theorem upto_succ (n : Nat) : upto (n + 1) = upto n ++ [(n : Int)] := by simp [upto, List.range_succ]
theorem size_alloc_ (w : World) (o : Obj) : (w.alloc o).heap.size = w.heap.size + 1 := by unfold World.alloc; exact Array.size_push _
theorem order_sort (w W : World) (N : Nat) (hN : N ≤ 1100) (keys : List Int) (ids : List ByteArray) (hkl : keys.length = N) (A0 A1 : Option Addr) (c0 c1 : Nat) (v : Value)
    (HO : Kd.R (Kd.int .i64) 3 W w.heap.size (fun k => w.heap.size + 2 ≤ k) v (upto N))
    (hk : W.heap[w.heap.size]? = some (.cells #[.slice A0 N c0] 23 (0, 0))) (hi : W.heap[w.heap.size + 1]? = some (.cells #[.slice A1 N c1] 29 (0, 0)))
    (HK : Kd.C (Kd.int .i64) w A0 N keys) (HI : Kd.C Kd.string w A1 N ids) (HB : Below w.heap.size w W) :
    Calls Try.prog 32 #[v, .func (.func 28) #[] #[.pointer (some ⟨w.heap.size, 0, none⟩), .pointer (some ⟨w.heap.size + 1, 0, none⟩)]] W fun e w' =>
      e = .returned (.tuple #[]) ∧ Kd.R (Kd.int .i64) 3 w' w.heap.size (fun _ => True) v (orderOf keys ids) ∧ Below w.heap.size w w' := by
  subst hkl
  have hlen := upto_length keys.length
  rcases Nat.eq_zero_or_pos keys.length with h0 | hp
  · obtain ⟨A, c, rfl⟩ := Kd.R_slice HO
    rw [hlen, h0] at HO ⊢
    have hc := AnyF.slices_SortFunc_none (L := { Try.laysSort with }) A c (.func (.func 28) #[] #[.pointer (some ⟨w.heap.size, 0, none⟩), .pointer (some ⟨w.heap.size + 1, 0, none⟩)]) W
    change Calls Try.prog 32 _ W _ at hc
    refine hc.mono ?_
    rintro e w' ⟨rfl, rfl⟩
    refine ⟨rfl, ?_, HB⟩
    have e1 : orderOf keys ids = [] := by
      apply List.eq_nil_of_length_eq_zero
      simp [orderOf, h0]
    rw [e1]
    exact Kd.R_mono HO (fun _ _ => trivial)
  · obtain ⟨b, cap, rfl, hb, hbl, _⟩ := Kd.R_form HO (by rw [hlen]; exact hp)
    rw [hlen] at HO ⊢
    have hb2 : w.heap.size + 2 ≤ b := HO.1 b (by simp [Value.ownBlock])
    haveI : Inhabited (Fin keys.length) := ⟨⟨0, hp⟩⟩
    have hx : upto keys.length = (List.finRange keys.length).toArray.toList.map fun i => (i.val : Int) := by
      apply List.ext_getElem
      · simp [upto]
      · intro i h1 h2
        simp [upto]
    have hsz : (List.finRange keys.length).toArray.size = keys.length := by simp
    have hH : Holds (fun x : Fin keys.length => Value.int .i64 (x.val : Int)) W b 0 (List.finRange keys.length).toArray := sw_holds HO _ hx (fun _ => rfl)
    have eg : ∀ args w, (callFunc 28 args).run Try.prog w = .ok (.enter 28 args) w := enters_of Try.func28 (by kernel_rfl) rfl
    have hcmp : CmpLays1 Try.prog 28 #[.pointer (some ⟨w.heap.size, 0, none⟩), .pointer (some ⟨w.heap.size + 1, 0, none⟩)] (fun x : Fin keys.length => Value.int .i64 (x.val : Int)) (ordFin keys ids keys.length) b 0 (List.finRange keys.length).toArray.size W := by
      intro m os dk hs x y
      have hB2 : Below w.heap.size w (sortWorld (fun x : Fin keys.length => Value.int .i64 (x.val : Int)) W b 0 m dk os) := sw_below 0 HB (by omega) HB.size
      refine order_cmp w.heap.size (w.heap.size + 1) A0 A1 c0 c1 keys.length keys ids _ x.val y.val x.isLt y.isLt hN ?_ ?_ (Kd.C_below HK hB2) (Kd.C_below HI hB2)
      · rw [cell_of_row _ w.heap.size 0 _ 23 (0, 0) ((sw_other (by omega) (by omega) 0).trans hk)]
        rfl
      · rw [cell_of_row _ (w.heap.size + 1) 0 _ 29 (0, 0) ((sw_other (by omega) (by omega) 0).trans hi)]
        rfl
    have hc := Any.slices_SortFunc_total Try.laysSort (fun x : Fin keys.length => Value.int .i64 (x.val : Int)) (fun _ => rfl) (ordFin keys ids keys.length) (ordFin_swo keys ids keys.length) 28 #[.pointer (some ⟨w.heap.size, 0, none⟩), .pointer (some ⟨w.heap.size + 1, 0, none⟩)] b 0 cap (List.finRange keys.length).toArray W eg hcmp hH hbl (by rw [hsz]; omega) (ordFin_total keys ids keys.length)
    rw [hsz] at hc
    change Calls Try.prog 32 _ W _ at hc
    refine hc.mono ?_
    rintro e w' ⟨rfl, n, os, rfl⟩
    refine ⟨rfl, ?_, sw_below 0 HB (by omega) HB.size⟩
    have hr := sw_row (m := n) (os := os) (dk := ((List.finRange keys.length).toArray.toList.mergeSort fun x y => !(ltOf (ordFin keys ids keys.length)) y x).toArray) (f := fun i : Fin keys.length => (i.val : Int)) (enc := fun x : Fin keys.length => Value.int .i64 (x.val : Int)) HO (by simp) (fun _ => rfl)
    exact Kd.R_mono hr (fun _ _ => trivial)
end
def remap_Order.f (keys : List Int) (ids : List ByteArray) : Option (List Int) := if keys.length = ids.length ∧ keys.length ≤ 1100 then some (orderOf keys ids) else some []
set_option maxHeartbeats 4000000 in
set_option maxRecDepth 100000 in
theorem remap_Order.calls (A0 : Option Addr) (c0 : Nat) (l0 : List Int) (A1 : Option Addr) (c1 : Nat) (l1 : List ByteArray) (r : List Int) (w : World) (hr0 : Kd.C (Kd.int .i64) w A0 l0.length l0) (hc0 : l0.length ≤ c0) (hr1 : Kd.C Kd.string w A1 l1.length l1) (hc1 : l1.length ≤ c1) (h : remap_Order.f l0 l1 = some r) :
    Calls Try.prog 17 #[.slice A0 l0.length c0, .slice A1 l1.length c1] w fun e w' => ∃ v0_ : Value, e = .returned (v0_) ∧ Kd.R (Kd.int .i64) 3 w' w.heap.size (fun _ => True) v0_ r ∧ Below w.heap.size w w' := by
  have hmf : ∀ (fn : Fn) (first cap : Array Value) (w : World), (Instr.makeFunc fn first cap).run Try.prog w = .ok (.func fn first cap) w := fun _ _ _ _ => rfl
  have HR0 := Aside0.mk hr0
  have HR1 := Aside0.mk hr1
  have HB := Aside0.mk (Below.refl w.heap.size w)
  unfold remap_Order.f at h
  clear hr0 hr1
  by_cases hin : l0.length = l1.length ∧ l0.length ≤ 1100
  · rw [if_pos hin] at h
    obtain rfl := Option.some.inj h
    clear h
    obtain ⟨he, hl⟩ := hin
    rw [← he] at HR1 ⊢
    clear he hc1
    have b2 : decide (1100 < (l0.length : Int)) = false := decide_eq_false (by omega)
    go_enter Try.func17, Try.ntmps17
    go_wp2
    go_loopg [5, 20] l0.length (fun kq v5 v20 w' => ∃ (i : Nat), v20 = .int .i64 (i : Int) ∧ Aside0 (l0.length ≤ kq + i) ∧ Aside0 (i ≤ l0.length) ∧ Aside0 (w'.heap[w.heap.size]? = some (.cells #[.slice A0 l0.length c0] 23 (0, 0))) ∧ Aside0 (w'.heap[w.heap.size + 1]? = some (.cells #[.slice A1 l0.length c1] 29 (0, 0))) ∧ Aside0 (Kd.R (Kd.int .i64) 3 w' w.heap.size (fun k => w.heap.size + 2 ≤ k) v5 (upto i)) ∧ Aside0 (Below w.heap.size w w'))
    case atStart => exact ⟨0, rfl, ⟨Nat.le_refl _⟩, ⟨by omega⟩, ⟨blk_alloc (blk_new w _) _⟩, ⟨by have h := blk_new (w.alloc (.cells #[.slice A0 l0.length c0] 23 (0, 0))) (.cells #[.slice A1 l0.length c1] 29 (0, 0)); rw [size_alloc_] at h; exact h⟩, ⟨Kd.R_nil _ _ _ _ _⟩, ⟨below_alloc (below_alloc HB.out _) _⟩⟩
    case round =>
      clear HB
      obtain ⟨i, rfl, HK, HI, HX, HY, HO, HB⟩ := hrel
      by_cases hlt : i < l0.length
      · have cc1 : decide ((i : Int) < (l0.length : Int)) = true := decide_eq_true (by omega)
        obtain ⟨kj, rfl⟩ : ∃ k, gk = k + 1 := ⟨gk - 1, by have := HK.out; omega⟩
        go_wp2_with (first | ((with_reducible refine gate_builtin (b := .append) (xs := #[.tmp 23, .tmp 25]) rfl ?_); at_builtin; refine Kd.R_append (Kd.int .i64) (w0 := w) w.heap.size rfl (.tmp 23) (.tmp 25) 23 3 (.int .i64 0) 8 rfl Try.underlying23 info3 rfl (by decide) (by omega) u5 (upto i) (i : Int) [.int .i64 (i : Int)] (fun k => w.heap.size + 2 ≤ k) (fun _ => False) rfl rfl ?aP (fun _ hk => hk.elim) ?aF ?aO ?aB ?aS ?aL ?_; (case aP => exact rfl); (case aB => exact (by repeat (first | (with_reducible first | exact HB.out | apply below_alloc | apply pw_below_drewN | apply below_drew1) | exact HB.out))); (case aF => exact fun k hk => (by have := blk_lt HY.out; omega)); (case aO => exact (by (with_reducible repeat (first | apply Kd.R_alloc | apply Kd.R_drewN | apply Kd.R_drew)); exact HO.out)); (case aS => exact below_size (by repeat (first | (with_reducible first | exact HB.out | apply below_alloc | apply pw_below_drewN | apply below_drew1) | exact HB.out))); (case aL => have := HI.out; rw [upto_length]; omega); intro v1 w1 ho hb hg hat; have HO2 := Aside0.mk ho; have HB2 := Aside0.mk hb; have HX2 := Aside0.mk (blk_grown (by first | exact HX.out | exact blk_alloc HX.out _) hg (fun he => by have := HO.out.1 _ he.symm; omega)); have HY2 := Aside0.mk (blk_grown (by first | exact HY.out | exact blk_alloc HY.out _) hg (fun he => by have := HO.out.1 _ he.symm; omega)); clear ho hb hg hat))
        go_roundg kj
        case measure => omega
        case rel => exact ⟨i + 1, congrArg (Value.int .i64) (by omega), ⟨by have := HK.out; omega⟩, ⟨by omega⟩, HX2, HY2, ⟨by rw [upto_succ]; exact HO2.out⟩, HB2⟩
      · have cc1 : decide ((i : Int) < (l0.length : Int)) = false := decide_eq_false (by omega)
        have ei : i = l0.length := by have := HI.out; omega
        subst ei
        go_wp2_with (go_at_call 32; (refine (order_sort w _ l0.length hl l0 l1 rfl A0 A1 _ _ u5 (Kd.R_alloc HO.out _) (blk_alloc HX.out _) (blk_alloc HY.out _) HR0.out HR1.out (below_alloc HB.out _)).mono ?_); rintro e w' ⟨rfl, hr, hb⟩; have HO3 := Aside0.mk hr; have HB3 := Aside0.mk hb; clear hr hb HX HY HO)
        go_ret
        exact ⟨_, rfl, HO3.out, HB3.out⟩
  · rw [if_neg hin] at h
    obtain rfl := Option.some.inj h
    clear h
    have fin : ∀ o o', Below w.heap.size w ((w.alloc o).alloc o') := fun o o' => below_alloc (below_alloc HB.out _) _
    have fin2 : ∀ o o', Below w.heap.size w ((w.alloc o).alloc o').drew := fun o o' => below_drew (below_alloc (below_alloc HB.out _) _)
    by_cases he : l0.length = l1.length
    · rw [← he]
      have b2 : decide (1100 < (l0.length : Int)) = true := decide_eq_true (by omega)
      go_enter Try.func17, Try.ntmps17
      go_wp2
      go_ret
      exact ⟨_, rfl, Kd.R_nil _ _ _ _ _, by first | exact fin _ _ | exact fin2 _ _⟩
    · have b1 : decide ((l0.length : Int) = (l1.length : Int)) = false := decide_eq_false (by omega)
      go_enter Try.func17, Try.ntmps17
      go_wp2
      go_ret
      exact ⟨_, rfl, Kd.R_nil _ _ _ _ _, by first | exact fin _ _ | exact fin2 _ _⟩

end Go.Proofs.Ytldojbonaecngaa.T

/- Written by hp.py, this session's own program, out of the translation of this seat: Lean functions for the Go functions, and the proof that each call comes to what its Lean function says. -/
import Derived.Test.YtkdbfeapfcflmaaProg
import Derived.Below
import Derived.Deep.Draws
import Derived.Deep.AppendLies
import Derived.Maps.AppendAt
import Derived.OwnWalk
import Derived.Laws.BytesArg
import Derived.Laws.MakeOwn
import Derived.Laws.OwnMore
import Derived.Deep.OwnRows
import Derived.Tactics
import Derived.Lib.ConvBytes
import Derived.Laws.Slices
import Derived.WalkKit
import Derived.KernelRfl
import Derived.RowKit3
import Derived.Deep.LoopGhost
import Derived.Deep.QuietTactic
import Derived.BigQuiet
import Derived.WideLaws
import Derived.Deep.DeepCutAuto
import Derived.Deep.CutBlock
import Derived.Deep.RegionHeld3
import Derived.Laws.Rows
import Derived.Lib.AppendStr
import Derived.ArgAppend
import Derived.Laws.IdiomCopy
import Derived.OrdersHeld
import Derived.Laws.BitsLemmas
import Derived.RowKit
import Derived.Test.YtkdbfeapfcflmaaWWords
import Derived.Test.YtkdbfeapfcflmaaWLast
import Derived.Test.YtkdbfeapfcflmaaWTab
import Derived.Test.YtkdbfeapfcflmaaWFour
import Derived.Test.YtkdbfeapfcflmaaWQPut
import Derived.Test.YtkdbfeapfcflmaaWApart
import Derived.Test.YtkdbfeapfcflmaaWArr
import Derived.Test.YtkdbfeapfcflmaaWZeros
import Derived.Test.YtkdbfeapfcflmaaWFoot
import Derived.Test.YtkdbfeapfcflmaaWKept
import Derived.Test.YtkdbfeapfcflmaaWShare
import Derived.Test.YtkdbfeapfcflmaaWN
import Derived.Test.YtkdbfeapfcflmaaWFootNe
import Derived.Test.YtkdbfeapfcflmaaWAt
import Derived.Test.YtkdbfeapfcflmaaWEqStruct
import Derived.Test.YtkdbfeapfcflmaaWRepsOne
import Derived.Test.YtkdbfeapfcflmaaWInv
import Derived.Test.YtkdbfeapfcflmaaWInvWords
import Derived.Test.YtkdbfeapfcflmaaWGuard
import Derived.Test.YtkdbfeapfcflmaaWNEv
import Derived.Test.YtkdbfeapfcflmaaWMore
import Derived.Test.YtkdbfeapfcflmaaOd
import Derived.Test.YtkdbfeapfcflmaaMa
import Derived.Test.YtkdbfeapfcflmaaHb
import Derived.Test.YtkdbfeapfcflmaaPC
import Derived.Test.YtkdbfeapfcflmaaTd
namespace Go.Proofs.Ytkdbfeapfcflmaa.T
open Go.RowKit Go.Proofs.YtkdbfeapfcflmaaW.PrintWords Go.Proofs.YtkdbfeapfcflmaaW.PrintLast Go.Proofs.YtkdbfeapfcflmaaW.PrintMore
attribute [local go_sem] max2_int min2_int max_two min_two max_three min_three max_four min_four   -- for this text's walks alone
set_option linter.unusedVariables false
set_option linter.unusedSimpArgs false
/-! ### best.of (function 28), by hand -/
open Go.Proofs.Ytkdbfeapfcflmaa.Plain (Order sorted aheadB soonerB U okF KB put)
theorem foldl_take_ {β γ : Type} (f : β → γ → β) (b : β) (l : List γ) (d : γ) (i : Nat) (hi : i < l.length) : (l.take (i + 1)).foldl f b = f ((l.take i).foldl f b) (l.getD i d) := by
  rw [List.take_succ_eq_append_getElem hi, List.foldl_append, List.getD_eq_getElem?_getD, List.getElem?_eq_getElem hi]
  rfl
theorem put_len {lt : S27 → S27 → Bool} (m : Nat) (h : List S27) (x : S27) (hm : h.length ≤ m) : (put z27 lt m h x).length ≤ m := by
  unfold Plain.put
  split
  · rw [Plain.up_length]; simp; omega
  · split
    · rw [Plain.down_length]; simp; omega
    · exact hm
def ofV (lt : S27 → S27 → Bool) (n : Int) (all : List S27) (m : Bool) : List S27 := if m = true ∧ 0 ≤ n ∧ n ≤ 100 then (sorted lt all).take n.toNat else []
set_option maxHeartbeats 8000000 in
set_option maxRecDepth 100000 in
theorem of_calls {F : Nat} {lt : S27 → S27 → Bool} (k : Nat) (n : Int) (A1 : Option Addr) (c1 : Nat) (ls : List (List S27)) (all : List S27) (m : Bool) (w : World) (hr1 : Kd.C (Kd.slice 27 k27) w A1 ls.length ls) (hc1 : ls.length ≤ c1)
    (hcat : slices_Concat_Hit.f ls = some all) (hmay : best_May.f k all = some m) (hg : m = true → CmpOk F lt (fun x => x ∈ all) ∧ Order lt (fun x => x ∈ all) ∧ all.Nodup) :
    Calls Try.prog 28 #[.int .i64 n, .slice A1 ls.length c1, .func (.func F) #[] #[]] w fun e w' => ∃ v0_ : Value, e = .returned (v0_) ∧ Kd.R k27 27 w' w.heap.size (fun _ => True) v0_ (ofV lt n all m) ∧ Below w.heap.size w w' := by
  have HR := Aside0.mk hr1
  have HC := Aside0.mk hcat
  have HM := Aside0.mk hmay
  have HG := Aside0.mk hg
  clear hr1 hcat hmay hg
  cases m with
  | false =>
    have ev : ofV lt n all false = [] := by unfold ofV; rw [if_neg (by simp)]
    rw [ev]
    clear ev
    go_enter Try.func28, Try.ntmps28
    go_wp2_with (first | (go_at_call 34; (with_reducible refine (slices_Concat_Hit.calls _ _ ls all _ HR.out hc1 HC.out).mono ?_); rintro e w1 ⟨v, rfl, hR, hB⟩; obtain ⟨Av, cv, ev, hcv, hC⟩ := Kd.R_reads hR; subst ev; have HA := Aside0.mk hC; have HB := Aside0.mk hB; clear hR hB hC) | (go_at_call 11; (with_reducible refine (best_May.calls k _ _ all _ _ HA.out hcv HM.out).mono ?_); rintro e w2 ⟨rfl, hB⟩; have HB2 := Aside0.mk (below_step HB.out hB); clear hB))
    go_ret
    exact ⟨_, rfl, Kd.R_nil _ _ _ _ _, HB2.out⟩
  | true =>
    by_cases h0 : n < 0
    · have ev : ofV lt n all true = [] := by unfold ofV; rw [if_neg (by omega)]
      rw [ev]
      have d0 : decide (n < 0) = true := decide_eq_true h0
      clear ev
      go_enter Try.func28, Try.ntmps28
      go_wp2_with (first | (go_at_call 34; (with_reducible refine (slices_Concat_Hit.calls _ _ ls all _ HR.out hc1 HC.out).mono ?_); rintro e w1 ⟨v, rfl, hR, hB⟩; obtain ⟨Av, cv, ev, hcv, hC⟩ := Kd.R_reads hR; subst ev; have HA := Aside0.mk hC; have HB := Aside0.mk hB; clear hR hB hC) | (go_at_call 11; (with_reducible refine (best_May.calls k _ _ all _ _ HA.out hcv HM.out).mono ?_); rintro e w2 ⟨rfl, hB⟩; have HB2 := Aside0.mk (below_step HB.out hB); clear hB))
      go_ret
      exact ⟨_, rfl, Kd.R_nil _ _ _ _ _, HB2.out⟩
    · have d0 : decide (n < 0) = false := decide_eq_false h0
      by_cases h1 : n > 100
      · have ev : ofV lt n all true = [] := by unfold ofV; rw [if_neg (by omega)]
        rw [ev]
        have d1 : decide (100 < n) = true := decide_eq_true h1
        clear ev
        go_enter Try.func28, Try.ntmps28
        go_wp2_with (first | (go_at_call 34; (with_reducible refine (slices_Concat_Hit.calls _ _ ls all _ HR.out hc1 HC.out).mono ?_); rintro e w1 ⟨v, rfl, hR, hB⟩; obtain ⟨Av, cv, ev, hcv, hC⟩ := Kd.R_reads hR; subst ev; have HA := Aside0.mk hC; have HB := Aside0.mk hB; clear hR hB hC) | (go_at_call 11; (with_reducible refine (best_May.calls k _ _ all _ _ HA.out hcv HM.out).mono ?_); rintro e w2 ⟨rfl, hB⟩; have HB2 := Aside0.mk (below_step HB.out hB); clear hB))
        go_ret
        exact ⟨_, rfl, Kd.R_nil _ _ _ _ _, HB2.out⟩
      · have d1 : decide (100 < n) = false := decide_eq_false h1
        have ev : ofV lt n all true = (sorted lt all).take n.toNat := by unfold ofV; rw [if_pos ⟨rfl, by omega, by omega⟩]
        obtain ⟨q, rfl⟩ := Int.eq_ofNat_of_zero_le (show 0 ≤ n by omega)
        rw [Int.toNat_natCast] at ev
        have EV := Aside0.mk ev
        clear ev
        obtain ⟨hF, ho, hn⟩ := HG.out rfl
        have HN := Aside0.mk hn
        have HF := Aside0.mk hF
        have HO := Aside0.mk ho
        have hq : q ≤ 100 := by omega
        clear hn HG h0 h1 hF ho
        go_enter Try.func28, Try.ntmps28
        go_wp2_with (first | (go_at_call 34; (with_reducible refine (slices_Concat_Hit.calls _ _ ls all _ HR.out hc1 HC.out).mono ?_); rintro e w1 ⟨v, rfl, hR, hB⟩; obtain ⟨Av, cv, ev, hcv, hC⟩ := Kd.R_reads hR; subst ev; have HA := Aside0.mk hC; have HB := Aside0.mk hB; clear hR hB hC) | (go_at_call 11; (with_reducible refine (best_May.calls k _ _ all _ _ HA.out hcv HM.out).mono ?_); rintro e w2 ⟨rfl, hB⟩; have HB2 := Aside0.mk (below_step HB.out hB); have HA2 := Aside0.mk (Kd.C_below HA.out hB); clear hB))
        go_loopg [30] all.length (fun kq v30 w' => ∃ (i : Nat) (v : Value), v30 = .int .i64 (i : Int) ∧ Aside0 (all.length ≤ kq + i) ∧ Aside0 (i ≤ all.length) ∧ Aside0 (TopV F (fun x => x ∈ all) w2 w' w2.heap.size w2.heap.size q v ((all.take i).foldl (put z27 lt q) [])) ∧ Aside0 (w2.heap.size ≤ w'.heap.size))
        case atStart => exact ⟨0, .slice none 0 0, rfl, ⟨Nat.le_refl _⟩, ⟨Nat.zero_le _⟩, ⟨⟨blk_new w2 _, Kd.R_nil _ _ _ _ _, by simp, by simp, below_alloc (Below.refl _ _) _, Nat.le_refl _⟩⟩, ⟨by rw [World.alloc]; simp⟩⟩
        case round =>
          obtain ⟨i, v, rfl, HK, HI, T, HS⟩ := hrel
          obtain ⟨wo, rfl⟩ : ∃ wo : World, wo = wr := ⟨_, rfl⟩
          by_cases hlt : i < all.length
          · obtain ⟨kj, rfl⟩ : ∃ m, gk = m + 1 := ⟨gk - 1, by have := HK.out; omega⟩
            have d2 : decide ((i : Int) < (all.length : Int)) = true := decide_eq_true (by omega)
            have hal : all.length ≤ 9223372036854775807 := HA2.out.2.1
            obtain ⟨ad, e1, g0, g1, g2, g3⟩ := at_T27 (Kd.C_below HA2.out T.out.bel) (i : Int) (by omega) (by omega)
            subst e1
            rw [Int.toNat_natCast] at g0 g1 g2 g3
            have hstep := foldl_take_ (put z27 lt q) [] all z27 i hlt
            have hrd : rd_T27 all (i : Int) = all.getD i z27 := by unfold rd_T27; rw [Int.toNat_natCast]
            have hmem : all.getD i z27 ∈ all := by rw [List.getD_eq_getElem?_getD, List.getElem?_eq_getElem hlt]; exact List.getElem_mem hlt
            rw [← hrd] at hstep hmem
            generalize rd_T27 all (i : Int) = x at g0 g1 g2 g3 hstep hmem
            have HST := Aside0.mk hstep
            clear hstep hrd
            go_wp2_with (first | (go_at_call 35; (refine (put_calls HF.out w2 _ w2.heap.size w2.heap.size q v _ x hmem (by omega) (below_size (below_alloc T.out.bel _)) (T.out.step (below_alloc (Below.refl _ _) _) HS.out)).mono ?_); rintro e w3 ⟨rfl, hs, v', ht⟩; have T3 := Aside0.mk ht; have HS3 := Aside0.mk hs; clear ht hs))
            go_roundg kj
            case measure => omega
            case rel => exact ⟨i + 1, v', congrArg (Value.int .i64) (by omega), ⟨by have := HK.out; omega⟩, ⟨by omega⟩, ⟨by rw [HST.out]; exact T3.out⟩, HS3⟩
          · have d2 : decide ((i : Int) < (all.length : Int)) = false := decide_eq_false (by omega)
            have ei : i = all.length := by have := HI.out; omega
            subst ei
            have T1 := Aside0.mk (show TopV F (fun x => x ∈ all) w2 wo w2.heap.size w2.heap.size q v (all.foldl (put z27 lt q) []) by have := T.out; rwa [List.take_length] at this)
            clear T
            have hkept : (all.foldl (put z27 lt q) []).Nodup := by
              obtain ⟨rest, hp, _⟩ := Plain.fold_kept (d := z27) HO.out q all [] [] (by simp) (by simpa using HN.out) ⟨[], by simp, fun i h1 h2 => by simp at h2, by simp, by simp⟩
              rw [List.nil_append] at hp
              exact (List.nodup_append.1 (hp.nodup_iff.2 HN.out)).1
            have HKN := Aside0.mk hkept
            clear hkept
            go_wp2_with (first | (go_at_call 36; (refine (told_calls HF.out HO.out w2 wo w2.heap.size w2.heap.size q v _ HKN.out T1.out).mono ?_); rintro e w3 ⟨v3, s, rfl, hp, hpw, hR, hB⟩; have HP := Aside0.mk hp; have HPW := Aside0.mk hpw; have HR3 := Aside0.mk hR; have HB3 := Aside0.mk hB; clear hp hpw hR hB))
            go_ret
            have es : s = (sorted lt all).take q := Plain.heap_tells (d := z27) HO.out q all s (fun y hy => hy) HN.out HP.out HPW.out
            refine ⟨_, rfl, ?_, ?_⟩
            · rw [EV.out, ← es]
              exact Kd.R_lower HR3.out (Nat.le_trans HB2.out.size T1.out.bel.size)
            · exact below_step (below_step HB2.out T1.out.bel) HB3.out
/-! the two that are told of it -/
def goodB (all : List S27) : Bool := all.all (fun x => decide (0 ≤ x.f2.f0) && (decide (x.f2.f0 < 18446744073709551616) && (decide (0 ≤ x.f2.f1) && (decide (x.f2.f1 < 18446744073709551616) && okF x.f2)))) && decide (idsOf all).Nodup
theorem goodB_good {all : List S27} (h : goodB all = true) : Plain.Good all := by
  unfold goodB at h
  rw [Bool.and_eq_true, List.all_eq_true] at h
  obtain ⟨h1, h2⟩ := h
  refine ⟨fun x hx => ?_, of_decide_eq_true h2⟩
  have := h1 x hx
  simp only [Bool.and_eq_true, decide_eq_true_eq] at this
  exact ⟨⟨⟨this.1, this.2.1⟩, this.2.2.1, this.2.2.2.1⟩, this.2.2.2.2⟩
theorem good_nodup {all : List S27} (h : Plain.Good all) : all.Nodup := List.Pairwise.of_map (fun x : S27 => x.f0.data.toList) (fun a b hab e => hab (by rw [e])) h.2
theorem eg13 : ∀ args w, (callFunc 13 args).run Try.prog w = .ok (.enter 13 args) w := enters_of Try.func13 (by kernel_rfl) rfl
theorem eg15 : ∀ args w, (callFunc 15 args).run Try.prog w = .ok (.enter 15 args) w := enters_of Try.func15 (by kernel_rfl) rfl
theorem cmp13 {all : List S27} (h : Plain.Good all) : CmpOk 13 aheadB (fun x => x ∈ all) :=
  ⟨eg13, fun a b w ha hb => (Go.Proofs.Ytkdbfeapfcflmaa.TD.best_Ahead.calls KB a.f0 a.f1 a.f2.f0 a.f2.f1 b.f0 b.f1 b.f2.f0 b.f2.f1 (aheadB a b) w (Plain.ahead_eq KB a b (h.1 a ha).1 (h.1 b hb).1 (Nat.le_refl _))).mono fun e w' ⟨he, hb⟩ => ⟨he, Lays_.of hb⟩⟩
theorem cmp15 {all : List S27} : CmpOk 15 soonerB (fun x => x ∈ all) :=
  ⟨eg15, fun a b w ha hb => (Go.Proofs.Ytkdbfeapfcflmaa.TD.best_Sooner.calls a.f0 a.f1 a.f2.f0 a.f2.f1 b.f0 b.f1 b.f2.f0 b.f2.f1 (soonerB a b) w (Plain.sooner_eq a b)).mono fun e w' ⟨he, hb⟩ => ⟨he, Lays_.of hb⟩⟩
def best_of_13.f (k : Nat) (n : Int) (ls : List (List S27)) : Option (List S27) := (slices_Concat_Hit.f ls).bind fun all => (best_May.f k all).bind fun m => if m = true then (if goodB all = true then some (ofV aheadB n all true) else none) else some []
def best_of_15.f (k : Nat) (n : Int) (ls : List (List S27)) : Option (List S27) := (slices_Concat_Hit.f ls).bind fun all => (best_May.f k all).bind fun m => if m = true then (if goodB all = true then some (ofV soonerB n all true) else none) else some []
theorem best_of_13.mono : ∀ a0 a1 k, LeO (best_of_13.f k a0 a1) (best_of_13.f (k + 1) a0 a1) := by
  intro a0 a1 k
  unfold best_of_13.f
  exact LeO.bind (LeO.refl _) (fun x => LeO.bind (best_May.mono _ _) (fun m => LeO.refl _))
theorem best_of_15.mono : ∀ a0 a1 k, LeO (best_of_15.f k a0 a1) (best_of_15.f (k + 1) a0 a1) := by
  intro a0 a1 k
  unfold best_of_15.f
  exact LeO.bind (LeO.refl _) (fun x => LeO.bind (best_May.mono _ _) (fun m => LeO.refl _))
theorem best_of_13.calls (k : Nat) (a0 : Int) (A1 : Option Addr) (c1 : Nat) (l1 : List (List (S27))) (r : List (S27)) (w : World) (hr1 : Kd.C (Kd.slice 27 k27) w A1 l1.length l1) (hc1 : l1.length ≤ c1) (h : best_of_13.f k a0 l1 = some r) :
    Calls Try.prog 28 #[.int .i64 a0, .slice A1 l1.length c1, (.func (.func 13) #[] #[])] w fun e w' => ∃ v0_ : Value, e = .returned (v0_) ∧ Kd.R k27 27 w' w.heap.size (fun _ => True) v0_ r ∧ Below w.heap.size w w' := by
  unfold best_of_13.f at h
  obtain ⟨all, hc, h⟩ := Option.bind_eq_some_iff.mp h
  obtain ⟨m, hm, h⟩ := Option.bind_eq_some_iff.mp h
  cases m with
  | false =>
    obtain rfl := Option.some.inj h
    exact of_calls (F := 13) (lt := aheadB) k a0 A1 c1 l1 all false w hr1 hc1 hc hm (fun h => by cases h)
  | true =>
    rw [if_pos rfl] at h
    by_cases hg : goodB all = true
    · rw [if_pos hg] at h
      obtain rfl := Option.some.inj h
      have g := goodB_good hg
      exact of_calls (F := 13) (lt := aheadB) k a0 A1 c1 l1 all true w hr1 hc1 hc hm (fun _ => ⟨cmp13 g, Plain.ahead_order g, good_nodup g⟩)
    · rw [if_neg hg] at h; cases h
theorem best_of_15.calls (k : Nat) (a0 : Int) (A1 : Option Addr) (c1 : Nat) (l1 : List (List (S27))) (r : List (S27)) (w : World) (hr1 : Kd.C (Kd.slice 27 k27) w A1 l1.length l1) (hc1 : l1.length ≤ c1) (h : best_of_15.f k a0 l1 = some r) :
    Calls Try.prog 28 #[.int .i64 a0, .slice A1 l1.length c1, (.func (.func 15) #[] #[])] w fun e w' => ∃ v0_ : Value, e = .returned (v0_) ∧ Kd.R k27 27 w' w.heap.size (fun _ => True) v0_ r ∧ Below w.heap.size w w' := by
  unfold best_of_15.f at h
  obtain ⟨all, hc, h⟩ := Option.bind_eq_some_iff.mp h
  obtain ⟨m, hm, h⟩ := Option.bind_eq_some_iff.mp h
  cases m with
  | false =>
    obtain rfl := Option.some.inj h
    exact of_calls (F := 15) (lt := soonerB) k a0 A1 c1 l1 all false w hr1 hc1 hc hm (fun h => by cases h)
  | true =>
    rw [if_pos rfl] at h
    by_cases hg : goodB all = true
    · rw [if_pos hg] at h
      obtain rfl := Option.some.inj h
      have g := goodB_good hg
      exact of_calls (F := 15) (lt := soonerB) k a0 A1 c1 l1 all true w hr1 hc1 hc hm (fun _ => ⟨cmp15, Plain.sooner_order g.2 (fun x y hx hy hne => Plain.good_id g hx hy hne), good_nodup g⟩)
    · rw [if_neg hg] at h; cases h

end Go.Proofs.Ytkdbfeapfcflmaa.T

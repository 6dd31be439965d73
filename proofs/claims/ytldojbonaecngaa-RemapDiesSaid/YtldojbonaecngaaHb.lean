/- Written by hp.py, this session's own program, out of the translation of this seat: Lean functions for the Go functions, and the proof that each call comes to what its Lean function says. -/
import Derived.Test.YtldojbonaecngaaProg
import Derived.Below
import Derived.Deep.Draws
import Derived.Deep.AppendLies
import Derived.Maps.AppendAt
import Derived.OwnWalk
import Derived.Laws.BytesArg
import Derived.Laws.MakeOwn
import Derived.Laws.OwnMore
import Derived.Deep.OwnRows
import Derived.Tactics
import Derived.Lib.ConvBytes
import Derived.Laws.Slices
import Derived.WalkKit
import Derived.KernelRfl
import Derived.RowKit3
import Derived.Deep.LoopGhost
import Derived.Deep.QuietTactic
import Derived.BigQuiet
import Derived.WideLaws
import Derived.Deep.DeepCutAuto
import Derived.Deep.CutBlock
import Derived.Deep.RegionHeld3
import Derived.Laws.Rows
import Derived.Lib.AppendStr
import Derived.ArgAppend
import Derived.Laws.IdiomCopy
import Derived.OrdersHeld
import Derived.Laws.BitsLemmas
import Derived.RowKit
import Derived.Test.YtldojbonaecngaaWWords
import Derived.Test.YtldojbonaecngaaWLast
import Derived.Test.YtldojbonaecngaaWTab
import Derived.Test.YtldojbonaecngaaWFour
import Derived.Test.YtldojbonaecngaaWQPut
import Derived.Test.YtldojbonaecngaaWApart
import Derived.Test.YtldojbonaecngaaWArr
import Derived.Test.YtldojbonaecngaaWZeros
import Derived.Test.YtldojbonaecngaaWFoot
import Derived.Test.YtldojbonaecngaaWKept
import Derived.Test.YtldojbonaecngaaWShare
import Derived.Test.YtldojbonaecngaaWN
import Derived.Test.YtldojbonaecngaaWFootNe
import Derived.Test.YtldojbonaecngaaWAt
import Derived.Test.YtldojbonaecngaaWEqStruct
import Derived.Test.YtldojbonaecngaaWRepsOne
import Derived.Test.YtldojbonaecngaaWInv
import Derived.Test.YtldojbonaecngaaWInvWords
import Derived.Test.YtldojbonaecngaaWGuard
import Derived.Test.YtldojbonaecngaaWNEv
import Derived.Test.YtldojbonaecngaaWMore
import Derived.Test.YtldojbonaecngaaTx0
import Derived.Test.YtldojbonaecngaaMu
namespace Go.Proofs.Ytldojbonaecngaa.T
open Go.RowKit Go.Proofs.YtldojbonaecngaaW.PrintWords Go.Proofs.YtldojbonaecngaaW.PrintLast Go.Proofs.YtldojbonaecngaaW.PrintMore
attribute [local go_sem] max2_int min2_int max_two min_two max_three min_three max_four min_four   -- for this text's walks alone
set_option linter.unusedVariables false
set_option linter.unusedSimpArgs false
/-! ### slices_Repeat_int_int: function 34 (slices.Repeat of one element), by hand -/
theorem slices_Repeat_int_int.copy {P : Program} {α : Type} {enc : α → Value} {h1 : ∀ x, (enc x).oneCell' = true} (t e ty : TypeId) (ht : P.underlying t = some (.slice e)) (hinfo : (P.info? e).map (·.size) = some 1) {W : World} {base : Nat} {ok : Nat → Prop} {g N cap : Nat} {xs : List α}
    (HO : (Kd.scalar enc h1).R e W base ok (.slice (some ⟨g, 0, none⟩) N cap) xs) (n : Nat) (hp : 0 < n) (hn : n < N) :
    ∃ w1, (Builtin.copy_ #[t, t] ty #[.slice (some ⟨g, n, none⟩) (N - n) (cap - n), .slice (some ⟨g, 0, none⟩) n cap]).run P W = .ok (goInt ((min n (N - n) : Nat) : Int)) w1 ∧
      (Kd.scalar enc h1).R e w1 base ok (.slice (some ⟨g, 0, none⟩) N cap) (xs.take n ++ xs.take (min n (N - n)) ++ xs.drop (n + min n (N - n))) ∧ W.grownBy w1 (some g) := by
  have hown := Kd.own_of_R HO
  obtain ⟨hN, _, _⟩ := Kd.R_reads' HO
  rcases hown.2 with ⟨hv, _⟩ | ⟨g', cap', cur, hv, hb, hh, hnc, hcm, hcs, htake⟩
  · cases hv
  injection hv with ha _ hc
  injection ha with ha
  injection ha with hg'
  subst hg'; subst hc
  have hcs1 : cur.size = cap := by omega
  subst hN
  have hlen : (encs enc (xs.take (min n (xs.length - n)))).length = min n (xs.length - n) := by rw [encs_length, List.length_take]; omega
  have hcell : ∀ j, W.cell? ⟨g, j, none⟩ = cur[j]? := fun j => cell_of_row W g j cur e (0, 0) hh
  have htk : cur.toList.take xs.length = encs enc xs := by rw [← htake, Nat.mul_one]
  have hsrc : ∀ j u, (encs enc (xs.take (min n (xs.length - n))))[j]? = some u → W.cell? ((⟨g, 0, none⟩ : Addr).add j) = some u := by
    intro j u hu
    obtain ⟨hj, hu'⟩ := List.getElem?_eq_some_iff.1 hu
    rw [hlen] at hj
    rw [add_at, Nat.zero_add, hcell]
    have h2 : (encs enc xs)[j]? = some u := by
      rw [← hu]
      simp only [encs, List.getElem?_map, List.getElem?_take]
      rw [if_pos hj]
    rw [← htk, List.getElem?_take, if_pos (by omega)] at h2
    simpa using h2
  have hr := run_copy_cells (P := P) W t t ty e g n (xs.length - n) (cap - n) ⟨g, 0, none⟩ n cap (encs enc (xs.take (min n (xs.length - n)))) ht hinfo (by rw [hlen]) hsrc
    (fun j hj => by rw [hcell]; rw [hlen] at hj; simp; omega) (fun j _ => blk_frozen hh _) (by intro u hu; simp only [encs, List.mem_map] at hu; obtain ⟨q, _, rfl⟩ := hu; exact h1 q)
  obtain ⟨cur', h3, h4, h5⟩ := setCells_row (encs enc (xs.take (min n (xs.length - n)))) n W cur hh (by rw [hlen]; omega)
  obtain ⟨s1, s2, s3, s4⟩ := setCells_same g (encs enc (xs.take (min n (xs.length - n)))) n W
  refine ⟨_, by rw [hr, hlen], ?_, ⟨s1, s2, s3, by rw [s4]; exact Nat.le_refl _, fun k _ hk => setCells_far _ _ k (fun he => hk (by rw [he]))⟩⟩
  have hln : (xs.take n ++ xs.take (min n (xs.length - n)) ++ xs.drop (n + min n (xs.length - n))).length = xs.length := by
    simp only [List.length_append, List.length_take, List.length_drop]
    omega
  refine Kd.R_of_own ?_ HO.1
  rw [hln]
  refine ⟨by rw [encs_length, hln, Nat.mul_one], .inr ⟨g, cap, cur', rfl, hb, h3, hnc, hcm, by rw [h4, hcs], ?_⟩⟩
  rw [h5, hlen, Nat.mul_one]
  have e1 : cur.toList.take n = (encs enc xs).take n := by rw [← htk, List.take_take, Nat.min_eq_left (by omega)]
  have e2 : (cur.toList.drop (n + min n (xs.length - n))).take (xs.length - (n + min n (xs.length - n))) = (encs enc xs).drop (n + min n (xs.length - n)) := by
    rw [← htk, List.drop_take]
  have l1 : (cur.toList.take n ++ encs enc (xs.take (min n (xs.length - n)))).length = n + min n (xs.length - n) := by
    rw [List.length_append, hlen, List.length_take, Array.length_toList]
    omega
  rw [List.take_append, l1, List.take_of_length_le (by rw [l1]; omega), e2, e1]
  simp [encs, List.map_take, List.map_drop]
theorem slices_Repeat_int_int.more {α : Type} (v z : α) (N c : Nat) (hc : c ≤ N) : (List.replicate c v ++ List.replicate (N - c) z).take c ++ (List.replicate c v ++ List.replicate (N - c) z).take (min c (N - c)) ++ (List.replicate c v ++ List.replicate (N - c) z).drop (c + min c (N - c)) = List.replicate (c + min c (N - c)) v ++ List.replicate (N - (c + min c (N - c))) z := by
  rw [List.take_append_of_le_length (by simp), List.take_append_of_le_length (by simp; omega), List.drop_append]
  simp only [List.take_replicate, List.drop_replicate, List.length_replicate, Nat.min_self]
  rw [show c - (c + min c (N - c)) = 0 by omega, List.replicate_zero, List.nil_append, show min (min c (N - c)) c = min c (N - c) by omega, List.replicate_append_replicate]
  congr 2
  omega
theorem slices_Repeat_int_int.size {P : Program} {e : TypeId} {z : Option Value} {s b : Nat} (h : (P.info? e).map (fun i => (i.zero, i.size, i.bytes)) = some (z, s, b)) : (P.info? e).map (·.size) = some s := by
  obtain ⟨i0, hi, hzz⟩ := Option.map_eq_some_iff.1 h
  simp only [Prod.mk.injEq] at hzz
  rw [hi, ← hzz.2.1]
  rfl
theorem slices_Repeat_int_int.sum (c N : Nat) (h : c < N) (hN : N ≤ 140737488355328) : wrap64 ((c : Int) + ((min c (N - c) : Nat) : Int)) = ((c + min c (N - c) : Nat) : Int) := by
  unfold wrap64
  omega
def slices_Repeat_int_int.f (l0 : List Int) (n : Int) : Option (List Int) := match l0 with
  | [v] => if 0 ≤ n ∧ n.toNat * 8 ≤ 140737488355328 then some (List.replicate n.toNat v) else none
  | _ => none
set_option maxHeartbeats 4000000 in
set_option maxRecDepth 100000 in
theorem slices_Repeat_int_int.calls (A0 : Option Addr) (c0 : Nat) (l0 : List Int) (n : Int) (r : List Int) (w : World) (hr0 : Kd.C (Kd.int .i64) w A0 l0.length l0) (hc0 : l0.length ≤ c0) (h : slices_Repeat_int_int.f l0 n = some r) :
    Calls Try.prog 34 #[.slice A0 l0.length c0, .int .i64 n] w fun e w' => ∃ v0_ : Value, e = .returned (v0_) ∧ Kd.R (Kd.int .i64) 3 w' w.heap.size (fun _ => True) v0_ r ∧ Below w.heap.size w w' := by
  match l0, hr0, hc0, h with
  | [], _, _, h => exact absurd h (by simp [slices_Repeat_int_int.f])
  | _ :: _ :: _, _, _, h => exact absurd h (by simp [slices_Repeat_int_int.f])
  | [v], hr0, hc0, h =>
    simp only [slices_Repeat_int_int.f] at h
    by_cases hl : 0 ≤ n ∧ n.toNat * 8 ≤ 140737488355328
    · rw [if_pos hl] at h
      obtain rfl := Option.some.inj h
      obtain ⟨h0, h1⟩ := hl
      have HR := Aside0.mk hr0
      have HL := Aside0.mk h1
      have H0 := Aside0.mk h0
      have d0 : decide (n < 0) = false := decide_eq_false (by omega)
      have HB := Aside0.mk (Below.refl w.heap.size w)
      clear h hr0 h1 h0
      have e64 : wrap64 n = n := by have := H0.out; have := HL.out; unfold wrap64; omega
      have eu : IntKind.u64.wrap n = n := by rw [IntKind.wrap_u64]; have := H0.out; have := HL.out; omega
      have hM := Aside0.mk (show h_bits_Mul.f 1 n = some (0, n) by have h := mul_one_ n H0.out (by have := HL.out; omega); rw [eu] at h; exact h)
      have d1 : decide (9223372036854775807 < n) = false := decide_eq_false (by have := HL.out; omega)
      have d2 : decide (0 < (0 : Int)) = false := decide_eq_false (by omega)
      go_enter Try.func34, Try.ntmps34
      go_wp2_with (first | ((with_reducible refine gate_callee (f := 41) rfl ?_); refine goesL_ (some 18) rfl rfl Try.func41 (by kernel_rfl) rfl #[.int .u64 1, .int .u64 n] rfl (by (try simp only [List.map_toArray, List.map_cons, List.map_nil]); first | done | rfl) ?_; (with_reducible refine (h_bits_Mul.calls _ _ 0 n _ hM.out).mono ?_); rintro e w' ⟨rfl, ⟨nd, rfl⟩⟩; refine ⟨_, rfl, ?_⟩) | ((with_reducible refine gate_dst (N := 30) rfl ?_); refine Kd.R_make (Kd.int .i64) _ 3 rfl (N := 30) rfl 23 _ _ rfl n (congrArg (Value.int .i64) e64) (congrArg (Value.int .i64) e64) Try.underlying23 (.int .i64 0) 8 info3 rfl (by decide) (by omega) 0 (ok := fun _ => True) (okp := fun _ => True) rfl (fun _ hk => hk) trivial H0.out (by have := HL.out; omega) (Below.refl _ _) (Nat.le_refl _) ?_; intro v30 w2 ho hb hg hnew; have HO := Aside0.mk ho; have HB2 := Aside0.mk hb; clear ho hb hg hnew; obtain ⟨Ao, co, eo⟩ := Kd.R_slice HO.out; rw [List.length_replicate] at eo; subst eo) | ((with_reducible refine gate_builtin (b := .copy) (xs := #[.tmp 31, .tmp 32]) rfl ?_); refine Kd.R_copy (enc := (Value.int .i64)) (h1 := fun _ => rfl) 0 (w0 := w) w.heap.size rfl (.tmp 31) (.tmp 32) 23 23 3 rfl Try.underlying23 (slices_Repeat_int_int.size info3) (.slice Ao n.toNat co) (List.replicate n.toNat 0) [v] A0 1 c0 (fun _ => True) rfl rfl (Kd.R_lower HO.out (Nat.le_refl _)) (Kd.C_below (Kd.C_below HR.out (pw_below_drewN (Below.refl _ _) nd)) HB2.out) (below_step (pw_below_drewN HB.out nd) HB2.out) (below_size (below_step (pw_below_drewN HB.out nd) HB2.out)) ?_; intro w3 ho hb hg; have HO2 := Aside0.mk ho; have HB3 := Aside0.mk hb; clear ho hb hg HB2 HO HR))
      go_loopg [8] n.toNat (fun kq v8 w' => ∃ c : Nat, v8 = .int .i64 (c : Int) ∧ Aside0 (n.toNat ≤ kq + c) ∧ Aside0 (c ≤ n.toNat ∧ (0 < c ∨ n.toNat = 0)) ∧ Aside0 (Kd.R (Kd.int .i64) 3 w' w.heap.size (fun _ => True) (.slice Ao n.toNat co) (List.replicate c v ++ List.replicate (n.toNat - c) 0)) ∧ Aside0 (Below w.heap.size w w'))
      case atStart =>
        refine ⟨min 1 n.toNat, rfl, ⟨by omega⟩, ⟨by omega⟩, ⟨?_⟩, HB3⟩
        have h := HO2.out
        rw [List.length_replicate, List.drop_replicate] at h
        rcases Nat.eq_zero_or_pos n.toNat with hz | hz
        · rw [hz] at h ⊢
          exact h
        · rw [Nat.min_eq_left (by omega)] at h ⊢
          exact h
      case round =>
        clear HO2 HB3 hr0 h
        obtain ⟨c, rfl, HK, HC, HO2, HB3⟩ := hrel
        have hlen : (List.replicate c v ++ List.replicate (n.toNat - c) 0).length = n.toNat := by
          simp only [List.length_append, List.length_replicate]
          have := HC.out
          omega
        by_cases hlt : c < n.toNat
        · have b1 : decide ((c : Int) < (n.toNat : Int)) = true := decide_eq_true (by omega)
          have hc1 : 0 < c := by have := HC.out; omega
          obtain ⟨g, cap, ev, hgb, hgl, _⟩ := Kd.R_form HO2.out (by rw [hlen]; omega)
          injection ev with ea e_ ec
          clear e_
          subst ea; subst ec
          obtain ⟨w4, hcp, hr4, hg4⟩ := slices_Repeat_int_int.copy (P := Try.prog) (enc := (Value.int .i64)) (h1 := fun _ => rfl) 23 3 3 Try.underlying23 (slices_Repeat_int_int.size info3) (Kd.R_drew HO2.out) c hc1 hlt
          rw [slices_Repeat_int_int.more _ _ _ _ (by omega)] at hr4
          obtain ⟨i0, hi0, _, hsz, _⟩ := info_parts info3
          have hcc := (Kd.R_reads' HO2.out).2.1
          have hcut1 := cut_from (P := Try.prog) 23 3 .i64 Try.underlying23 hi0 1 hsz (some ⟨g, 0, none⟩) n.toNat co (c : Int) (by omega) (by omega)
          have hcut2 := cut_to (P := Try.prog) 23 3 .i64 Try.underlying23 hi0 (some ⟨g, 0, none⟩) n.toNat co (c : Int) (by omega) (by omega) hcc
          rw [if_neg (by omega), Option.map_some, add_at, Nat.zero_add, Nat.mul_one, Int.toNat_natCast] at hcut1
          rw [Int.toNat_natCast] at hcut2
          have hB4 := Below.grown (below_drew HB3.out) hg4 (below_size (below_drew HB3.out)) (fun k hk => by injection hk with hk; omega)
          have q1 : decide ((c : Int) ≤ (n.toNat : Int)) = true := decide_eq_true (by omega)
          have q2 : decide ((0 : Int) ≤ (c : Int)) = true := decide_eq_true (by omega)
          clear d0 d1 d2 hM e64 eu hlen
          go_wp2
          go_region
          obtain ⟨kj, rfl⟩ : ∃ k, gk = k + 1 := ⟨gk - 1, by have := HK.out; omega⟩
          go_wp2
          go_roundg kj
          case measure => omega
          case rel => exact ⟨c + min c (n.toNat - c), congrArg (Value.int .i64) (slices_Repeat_int_int.sum c n.toNat hlt (by have := HL.out; omega)), ⟨by have := HK.out; omega⟩, ⟨by have := HC.out; omega⟩, ⟨hr4⟩, ⟨hB4⟩⟩
        · have b1 : decide ((c : Int) < (n.toNat : Int)) = false := decide_eq_false (by omega)
          have ec : c = n.toNat := by have := HC.out; omega
          subst ec
          go_wp2
          go_ret
          refine ⟨_, rfl, ?_, HB3.out⟩
          have h := HO2.out
          rw [Nat.sub_self, List.replicate_zero, List.append_nil] at h
          exact h
    · rw [if_neg hl] at h
      exact absurd h (by simp)

end Go.Proofs.Ytldojbonaecngaa.T

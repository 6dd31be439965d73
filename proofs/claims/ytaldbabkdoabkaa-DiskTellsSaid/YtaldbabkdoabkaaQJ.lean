import Derived.Test.YtaldbabkdoabkaaProg
import Derived.Test.YtaldbabkdoabkaaQV
import Derived.Test.YtaldbabkdoabkaaQA
import Derived.Test.YtaldbabkdoabkaaQB
import Derived.Test.YtaldbabkdoabkaaQD
import Derived.Test.YtaldbabkdoabkaaQE
import Derived.Test.YtaldbabkdoabkaaQF
import Derived.Test.YtaldbabkdoabkaaQG
import Derived.Test.YtaldbabkdoabkaaQH
import Derived.Test.YtaldbabkdoabkaaQI
import Derived.Laws.EntriesVeiled
namespace Go.Proofs.Ytaldbabkdoabkaa.T
open Go.RowKit Go.Proofs.YtaldbabkdoabkaaW.PrintWords Go.Proofs.YtaldbabkdoabkaaW.PrintLast Go.Proofs.YtaldbabkdoabkaaW.PrintMore
attribute [local go_sem] max2_int min2_int max_two min_two max_three min_three max_four min_four   -- for this text's walks alone
set_option linter.unusedVariables false
set_option linter.unusedSimpArgs false
/-! ### disk.Do (function 25), by hand -/
section
open Go.Maps Go.WideMaps
set_option maxRecDepth 100000 in
theorem mapAns_of {W : World} {mb n : Nat} {Dm : DataW Unit} {l : List S48} {a : ByteArray} (hM : W.ownsMap Try.prog 9 (plainElem Try.prog 3) mb n Dm) (hP : PlacesOf Dm (namesOf l)) (ha : a.size ≤ 9223372036854775807) (hn : (namesOf l).Nodup) :
    ∃ i : Int, MapAns W mb a i (isX a l) ∧ (isX a l = true → i = (posX a l : Int)) := by
  have hkey : keyOf Try.prog 9 (.string a) = some (.string a.data.toList) := keyOf_string_mk Try.underlying9 ha
  have hone : ∀ W' : World, W'.heap[mb]? = W.heap[mb]? → ∃ c : Int, (Instr.lookup 57 (.map (some mb)) (.string a) true).run Try.prog W' = .ok (.tuple #[.int .i64 c, .bool (isX a l)]) W' ∧ Dm.atKey (.string a.data.toList) (.lit (.int .i64 0)) = .lit (.int .i64 c) := by
    intro W' hW
    obtain ⟨v, ps, hrun, hv⟩ := (owns_of hM hW).look_ok mlaw Try.underlying57 (mzero W') (plainElem_int Try.underlying3 (by decide)) hkey
    obtain ⟨c, rfl, hc, _⟩ := plainElem_int_inv Try.underlying3 hv
    refine ⟨c, ?_, congrArg Prod.fst hc⟩
    rw [hP.has_] at hrun
    exact hrun
  obtain ⟨c, _, hc⟩ := hone W rfl
  refine ⟨c, fun W' hW => ?_, fun hi => ?_⟩
  · obtain ⟨c', h1, h2⟩ := hone W' hW
    rw [hc] at h2
    injection h2 with h2
    injection h2 with _ h2
    rw [h2]
    exact h1
  · have h1 : a.data.toList ∈ namesOf l := of_decide_eq_true hi
    have hx := hP.at_ hn (posX a l) a.data.toList (by unfold posX; rw [List.getElem?_eq_getElem (List.idxOf_lt_length_of_mem h1), List.getElem_idxOf])
    rw [hc] at hx
    injection hx with hx
    injection hx
end
def gMax : Nat := 9223372036854775807
def gRow : Nat := 140737488355328
def ownOk (l : List S48) : Bool := decide (l.length * 48 ≤ gRow) && l.all (fun x => decide (x.f1.length ≤ gRow) && decide (x.f0.size ≤ gMax))
def disk_Do.f (k : Nat) (cap : Int) (l : List S48) (kind : Int) (a b : ByteArray) (dat : List Int) : Option (Int × List S48 × Int) :=
  if ownOk l = true then ((disk_May.f k cap l).bind fun m => if m = true then ((disk_named.f k a).bind fun n => if n = true then (if kind < 0 ∨ 4 ≤ kind then some (cap, l, 1) else (disk_named.f k b).bind fun bn => (disk_used.f k l).bind fun u => if doOk cap l u = true ∧ a.size ≤ gMax then some (cap, (doP cap l kind a b dat u bn).1, (doP cap l kind a b dat u bn).2) else none) else some (cap, l, 1)) else some (cap, l, 1)) else none
theorem disk_Do.mono : ∀ cap l kind a b dat k, LeO (disk_Do.f k cap l kind a b dat) (disk_Do.f (k + 1) cap l kind a b dat) := by
  intro cap l kind a b dat k
  unfold disk_Do.f
  exact LeO.ite (LeO.bind (disk_May.mono _ _ _) (fun m => LeO.ite (LeO.bind (disk_named.mono _ _) (fun n => LeO.ite (LeO.ite (LeO.refl _) (LeO.bind (disk_named.mono _ _) (fun bn => LeO.bind (disk_used.mono _ _) (fun u => LeO.refl _)))) (LeO.refl _))) (LeO.refl _))) (LeO.refl _)
theorem doP_same (cap : Int) (l : List S48) (kind : Int) (a b : ByteArray) (dat : List Int) (u : Int) (bn : Bool) (h : (doP cap l kind a b dat u bn).2 ≠ 0) : (doP cap l kind a b dat u bn).1 = l := by
  unfold doP at *
  by_cases h0 : kind = 0
  · rw [if_pos h0] at *
    by_cases h1 : isX a l = true
    · rw [if_pos h1]
    · rw [if_neg h1] at *
      by_cases h2 : l.length = 64 ∨ cap - u < (dat.length : Int)
      · rw [if_pos h2]
      · rw [if_neg h2] at h; exact absurd rfl h
  · rw [if_neg h0] at *
    by_cases h1 : kind = 1
    · rw [if_pos h1] at *
      by_cases h2 : isX a l = true
      · rw [if_pos h2] at h; exact absurd rfl h
      · rw [if_neg h2]
    · rw [if_neg h1] at *
      by_cases h2 : kind = 2
      · rw [if_pos h2] at *
        by_cases h3 : bn = false
        · rw [if_pos h3]
        · rw [if_neg h3] at *
          by_cases h4 : isX a l = true
          · rw [if_pos h4] at h
            by_cases h5 : (a.toList == b.toList) = true
            · rw [if_pos h5] at h; exact absurd rfl h
            · rw [if_neg h5] at h; exact absurd rfl h
          · rw [if_neg h4]
      · rw [if_neg h2] at *
        by_cases h3 : isX a l = true
        · rw [if_pos h3] at h; exact absurd rfl h
        · rw [if_neg h3]
theorem AllV.bound {W : World} {ok : Nat → Prop} {fs : List SF} {xs : List S48} (h : AllV W ok fs xs) : AllV W (fun k => ok k ∧ k < W.heap.size) fs xs := ⟨h.1, fun j s x hs hx => ⟨(h.2 j s x hs hx).1, (h.2 j s x hs hx).2.1, Kd.V_bound (h.2 j s x hs hx).2.2⟩⟩
theorem fin_V {W : World} {B2 base base0 b : Nat} {ok : Nat → Prop} {v : Value} {fs : List SF} {l : List S48} {cs : Array Value} (hB2 : W.heap[B2]? = some (.cells cs 24 (0, 0))) (hR : Kd.R kF 48 W base (fun _ => True) v fs) (hb : base0 ≤ base) (hA : AllV W ok fs l) (hok : ∀ k, ok k → base0 ≤ k ∧ k ≠ B2) (u1 u2 : Value) :
    Kd.V k48 48 ((W.setCell ⟨B2, 0, none⟩ u1).setCell ⟨B2, 1, none⟩ u2) b (fun k_ => base0 ≤ k_) v l := by
  have h1 := Kd.R_set (Kd.R_set hR hB2 (fun q hq => by rw [kF_E hq]; decide) 0 u1) (blk_set hB2 0 u1) (fun q hq => by rw [kF_E hq]; decide) 1 u2
  refine V48_of (Kd.R_mono (Kd.R_bound h1) (fun k hk => Nat.le_trans hb hk.2.1)) ((hA.step (fun k hk _ => ?_)).monoV (fun k hk => (hok k hk).1)) b
  exact (Below.heap_setCell _ ⟨B2, 1, none⟩ u2 k (hok k hk).2).trans (Below.heap_setCell _ ⟨B2, 0, none⟩ u1 k (hok k hk).2)
theorem four_blocks (w : World) (o1 o2 o3 o4 : Obj) : ((((w.alloc o1).alloc o2).alloc o3).alloc o4).heap[w.heap.size]? = some o1 ∧ ((((w.alloc o1).alloc o2).alloc o3).alloc o4).heap[w.heap.size + 1]? = some o2 ∧ ((((w.alloc o1).alloc o2).alloc o3).alloc o4).heap[w.heap.size + 1 + 1]? = some o3 ∧ ((((w.alloc o1).alloc o2).alloc o3).alloc o4).heap[w.heap.size + 1 + 1 + 1]? = some o4 ∧ Below w.heap.size w ((((w.alloc o1).alloc o2).alloc o3).alloc o4) := by
  have s1 := size_alloc_ w o1
  have s2 := size_alloc_ (w.alloc o1) o2
  have s3 := size_alloc_ ((w.alloc o1).alloc o2) o3
  have h2 := blk_new (w.alloc o1) o2
  have h3 := blk_new ((w.alloc o1).alloc o2) o3
  have h4 := blk_new (((w.alloc o1).alloc o2).alloc o3) o4
  rw [s1] at h2
  rw [s2, s1] at h3
  rw [s3, s2, s1] at h4
  exact ⟨blk_alloc (blk_alloc (blk_alloc (blk_new w o1) _) _) _, blk_alloc (blk_alloc h2 _) _, blk_alloc h3 _, h4, below_alloc (below_alloc (below_alloc (below_alloc (Below.refl _ _) _) _) _) _⟩
theorem way_any (kn : Nat) (hk : kn < 4) (W : World) (D base : Nat) (ok : Nat → Prop) (cap : Int) (A : Option Addr) (c : Nat) (kd : Int) (a b : ByteArray) (A2 : Option Addr) (c2 : Nat) (ld : List Int) (mb : Nat) (i : Int) (k : Nat) (fs : List SF) (l : List S48) (u : Int) (bn : Bool)
    (hD : W.heap[D]? = some (wk cap (.slice A fs.length c) kd a b (.slice A2 ld.length c2) (.map (some mb)))) (hbD : base ≤ D) (hM : MapAns W mb a i (isX a l)) (hi2 : isX a l = true → i = (posX a l : Int)) (hS : WS W D base ok (.slice A fs.length c) fs l) (hok : doOk cap l u = true) (hu : disk_used.f k l = some u) (hL : Kd.C (Kd.int .u8) W A2 ld.length ld) (hc2 : ld.length ≤ c2) (hn : disk_named.f k b = some bn) :
    Calls Try.prog (39 + kn) #[.pointer (some ⟨D, 0, none⟩)] W (WayP base D W cap (doP cap l (kn : Int) a b ld u bn)) := by
  match kn, hk with
  | 0, _ => exact way_write W D base ok cap A c kd a b A2 c2 ld mb i k fs l u bn hD hbD hM hS hok hu hL hc2
  | 1, _ => exact way_sync W D base ok cap A c kd a b A2 c2 ld mb i fs l u bn hD hbD hM hi2 hS
  | 2, _ => exact way_rename W D base ok cap A c kd a b A2 c2 ld mb i k fs l u bn hD hbD hM hi2 hS hok hn
  | 3, _ => exact way_remove W D base ok cap A c kd a b A2 c2 ld mb i fs l u bn hD hbD hM hS hok
set_option maxHeartbeats 8000000 in
set_option maxRecDepth 100000 in
theorem disk_Do.calls (k : Nat) (cap : Int) (A0 : Option Addr) (c0 : Nat) (l0 : List S48) (kind : Int) (a b : ByteArray) (A1 : Option Addr) (c1 : Nat) (l1 : List Int) (r1 : Int) (r2 : List S48) (r3 : Int) (w : World) (hr0 : Kd.C k48 w A0 l0.length l0) (hc0 : l0.length ≤ c0) (hr1 : Kd.C (Kd.int .u8) w A1 l1.length l1) (hc1 : l1.length ≤ c1) (h : disk_Do.f k cap l0 kind a b l1 = some (r1, r2, r3)) :
    Calls Try.prog 25 #[.agg #[.int .i64 cap, .slice A0 l0.length c0], .agg #[.int .i64 kind, .string a, .string b, .slice A1 l1.length c1]] w fun e w' => ∃ v1_ : Value, e = .returned (.tuple #[.agg #[.int .i64 r1, v1_], .int .i64 r3]) ∧ Kd.V k48 48 w' w.heap.size (fun k_ => w.heap.size ≤ k_) v1_ r2 ∧ Below w.heap.size w w' := by
  unfold disk_Do.f at h
  by_cases ho : ownOk l0 = true
  · rw [if_pos ho] at h
    have hown := ho
    simp only [ownOk, Bool.and_eq_true, decide_eq_true_eq, List.all_eq_true] at hown
    obtain ⟨hL, hD⟩ := hown
    have HLL := Aside0.mk (show l0.length * 48 ≤ 140737488355328 from hL)
    have HDD := Aside0.mk (show ∀ x ∈ l0, x.f1.length ≤ 140737488355328 from fun x hx => (hD x hx).1)
    have HDS := Aside0.mk (show ∀ x ∈ l0, x.f0.size ≤ 9223372036854775807 from fun x hx => (hD x hx).2)
    have HR0 := Aside0.mk hr0
    have HR1 := Aside0.mk hr1
    have hu24 := Try.underlying24
    have hu39 := Try.underlying39
    have hu64 := Try.underlying64
    have hu67 := Try.underlying67
    have H := Aside0.mk h
    clear ho hL hD hr0 hr1 h
    go_enter Try.func25, Try.ntmps25
    go_upto_region 2 with fail
    obtain ⟨b0, b1, b2, b3, bb⟩ := four_blocks w (.cells #[.int .i64 cap, .slice A0 l0.length c0] 24) (.cells #[.int .i64 kind, .string a, .string b, .slice A1 l1.length c1] 39) (.cells #[.int .i64 0, .slice none 0 0] 24) (.cells #[.func (.func 39) #[] #[], .func (.func 40) #[] #[], .func (.func 41) #[] #[], .func (.func 42) #[] #[]] 64)
    generalize ((((w.alloc (.cells #[.int .i64 cap, .slice A0 l0.length c0] 24)).alloc (.cells #[.int .i64 kind, .string a, .string b, .slice A1 l1.length c1] 39)).alloc (.cells #[.int .i64 0, .slice none 0 0] 24)).alloc (.cells #[.func (.func 39) #[] #[], .func (.func 40) #[] #[], .func (.func 41) #[] #[], .func (.func 42) #[] #[]] 64)) = wb at *
    have HBB := Aside0.mk bb
    have BK0 := Aside0.mk b0
    have BK1 := Aside0.mk b1
    have BK2 := Aside0.mk b2
    have BK3 := Aside0.mk b3
    have HB2 := Aside0.mk (show w.heap.size ≤ w.heap.size + 1 + 1 by omega)
    have HB2l := Aside0.mk (show w.heap.size + 1 + 1 < wb.heap.size from blk_lt b2)
    have HB1l := Aside0.mk (show w.heap.size + 1 < wb.heap.size from blk_lt b1)
    generalize w.heap.size + 1 + 1 + 1 = B3 at *
    generalize w.heap.size + 1 + 1 = B2 at *
    generalize w.heap.size + 1 = B1 at *
    have c00 : wb.cell? ⟨w.heap.size, 0, none⟩ = some (.int .i64 cap) := (blk_cell b0 0).trans rfl
    have c01 : wb.cell? ⟨w.heap.size, 1, none⟩ = some (.slice A0 l0.length c0) := (blk_cell b0 1).trans rfl
    have d00 : wb.cell? ⟨B1, 0, none⟩ = some (.int .i64 kind) := (blk_cell b1 0).trans rfl
    have d01 : wb.cell? ⟨B1, 1, none⟩ = some (.string a) := (blk_cell b1 1).trans rfl
    have d02 : wb.cell? ⟨B1, 2, none⟩ = some (.string b) := (blk_cell b1 2).trans rfl
    have d03 : wb.cell? ⟨B1, 3, none⟩ = some (.slice A1 l1.length c1) := (blk_cell b1 3).trans rfl
    have g00 : wb.cell? ⟨B3, 0, none⟩ = some (.func (.func 39) #[] #[]) := (blk_cell b3 0).trans rfl
    have g01 : wb.cell? ⟨B3, 1, none⟩ = some (.func (.func 40) #[] #[]) := (blk_cell b3 1).trans rfl
    have g02 : wb.cell? ⟨B3, 2, none⟩ = some (.func (.func 41) #[] #[]) := (blk_cell b3 2).trans rfl
    have g03 : wb.cell? ⟨B3, 3, none⟩ = some (.func (.func 42) #[] #[]) := (blk_cell b3 3).trans rfl
    have e00 : wb.cell? ⟨B2, 0, none⟩ = some (.int .i64 0) := (blk_cell b2 0).trans rfl
    have e01 : wb.cell? ⟨B2, 1, none⟩ = some (.slice none 0 0) := (blk_cell b2 1).trans rfl
    have f00 := blk_frozen b2 0
    have f01 := blk_frozen b2 1
    clear bb b0 b1 b2 b3
    have h := H.out
    clear H
    obtain ⟨m, hm, h⟩ := Option.bind_eq_some_iff.mp h
    have HM := Aside0.mk hm
    clear hm
    cases m with
    | false =>
      rw [if_neg (by simp)] at h
      have h1 := Option.some.inj h
      injection h1 with h1 h2
      injection h2 with h2 h3
      subst h1; subst h2; subst h3
      clear h
      go_wp2_with (first | (go_at_call 18; (refine (disk_May.calls k cap A0 c0 l0 false _ (Kd.C_below HR0.out HBB.out) hc0 HM.out).mono ?_); rintro e w2 ⟨rfl, hb⟩; have n0_ := Aside0.mk (below_step HBB.out hb); have n2_ := Aside0.mk (blk_below BK2.out hb); replace c00 := pw_cell_below hb c00; replace c01 := pw_cell_below hb c01; replace d00 := pw_cell_below hb d00; replace d01 := pw_cell_below hb d01; replace d02 := pw_cell_below hb d02; replace d03 := pw_cell_below hb d03; replace g00 := pw_cell_below hb g00; replace g01 := pw_cell_below hb g01; replace g02 := pw_cell_below hb g02; replace g03 := pw_cell_below hb g03; replace e00 := pw_cell_below hb e00; replace e01 := pw_cell_below hb e01; clear HBB BK2 f00 f01; have HBB := n0_; have BK2 := n2_; have f00 := blk_frozen BK2.out 0; have f01 := blk_frozen BK2.out 1; clear n0_ n2_ hb) | (go_at_call 43; (refine (own_calls cap A0 c0 l0 _ (Kd.C_below HR0.out HBB.out) hc0 HLL.out HDD.out).mono ?_); rintro e w9 ⟨v, fs, rfl, hR, hA, hb⟩; obtain ⟨Av, cv, ev⟩ := Kd.R_slice hR; subst ev; have HRV := Aside0.mk hR; have HAV := Aside0.mk hA; have HB2m := Aside0.mk (blk_lt BK2.out); have HSZ := Aside0.mk (below_size HBB.out); clear hR hA; have n0_ := Aside0.mk (below_step HBB.out hb); have n2_ := Aside0.mk (blk_below BK2.out hb); replace c00 := pw_cell_below hb c00; replace c01 := pw_cell_below hb c01; replace d00 := pw_cell_below hb d00; replace d01 := pw_cell_below hb d01; replace d02 := pw_cell_below hb d02; replace d03 := pw_cell_below hb d03; replace g00 := pw_cell_below hb g00; replace g01 := pw_cell_below hb g01; replace g02 := pw_cell_below hb g02; replace g03 := pw_cell_below hb g03; replace e00 := pw_cell_below hb e00; replace e01 := pw_cell_below hb e01; clear HBB BK2 f00 f01; have HBB := n0_; have BK2 := n2_; have f00 := blk_frozen BK2.out 0; have f01 := blk_frozen BK2.out 1; clear n0_ n2_ hb))
      have hG := blk_set (blk_set BK2.out 0 (.int .i64 cap)) 1 (.slice Av fs.length cv)
      refine bodyPost_ret (results_ct rfl _ _ B2 24 #[.int .i64 cap, .slice Av fs.length cv] (0, 0) _ rfl hG Try.underlying24 rfl (by kernel_rfl)) rfl ?_
      exact ⟨_, rfl, fin_V BK2.out HRV.out HSZ.out HAV.out (fun k hk => ⟨Nat.le_trans HSZ.out hk.1, fun e => by have h1 := HB2m.out; have h2 := hk.1; omega⟩) _ _, below_set (below_set HBB.out HB2.out) HB2.out⟩
    | true =>
      rw [if_pos rfl] at h
      obtain ⟨n, hn, h⟩ := Option.bind_eq_some_iff.mp h
      have HN := Aside0.mk hn
      clear hn
      cases n with
      | false =>
        rw [if_neg (by simp)] at h
        have h1 := Option.some.inj h
        injection h1 with h1 h2
        injection h2 with h2 h3
        subst h1; subst h2; subst h3
        clear h
        go_wp2_with (first | (go_at_call 18; (refine (disk_May.calls k cap A0 c0 l0 true _ (Kd.C_below HR0.out HBB.out) hc0 HM.out).mono ?_); rintro e w2 ⟨rfl, hb⟩; have n0_ := Aside0.mk (below_step HBB.out hb); have n2_ := Aside0.mk (blk_below BK2.out hb); replace c00 := pw_cell_below hb c00; replace c01 := pw_cell_below hb c01; replace d00 := pw_cell_below hb d00; replace d01 := pw_cell_below hb d01; replace d02 := pw_cell_below hb d02; replace d03 := pw_cell_below hb d03; replace g00 := pw_cell_below hb g00; replace g01 := pw_cell_below hb g01; replace g02 := pw_cell_below hb g02; replace g03 := pw_cell_below hb g03; replace e00 := pw_cell_below hb e00; replace e01 := pw_cell_below hb e01; clear HBB BK2 f00 f01; have HBB := n0_; have BK2 := n2_; have f00 := blk_frozen BK2.out 0; have f01 := blk_frozen BK2.out 1; clear n0_ n2_ hb) | (go_at_call 33; (refine (disk_named.calls k a false _ HN.out).mono ?_); rintro e w3 ⟨rfl, hb⟩; have n0_ := Aside0.mk (below_step HBB.out hb); have n2_ := Aside0.mk (blk_below BK2.out hb); replace c00 := pw_cell_below hb c00; replace c01 := pw_cell_below hb c01; replace d00 := pw_cell_below hb d00; replace d01 := pw_cell_below hb d01; replace d02 := pw_cell_below hb d02; replace d03 := pw_cell_below hb d03; replace g00 := pw_cell_below hb g00; replace g01 := pw_cell_below hb g01; replace g02 := pw_cell_below hb g02; replace g03 := pw_cell_below hb g03; replace e00 := pw_cell_below hb e00; replace e01 := pw_cell_below hb e01; clear HBB BK2 f00 f01; have HBB := n0_; have BK2 := n2_; have f00 := blk_frozen BK2.out 0; have f01 := blk_frozen BK2.out 1; clear n0_ n2_ hb) | (go_at_call 43; (refine (own_calls cap A0 c0 l0 _ (Kd.C_below HR0.out HBB.out) hc0 HLL.out HDD.out).mono ?_); rintro e w9 ⟨v, fs, rfl, hR, hA, hb⟩; obtain ⟨Av, cv, ev⟩ := Kd.R_slice hR; subst ev; have HRV := Aside0.mk hR; have HAV := Aside0.mk hA; have HB2m := Aside0.mk (blk_lt BK2.out); have HSZ := Aside0.mk (below_size HBB.out); clear hR hA; have n0_ := Aside0.mk (below_step HBB.out hb); have n2_ := Aside0.mk (blk_below BK2.out hb); replace c00 := pw_cell_below hb c00; replace c01 := pw_cell_below hb c01; replace d00 := pw_cell_below hb d00; replace d01 := pw_cell_below hb d01; replace d02 := pw_cell_below hb d02; replace d03 := pw_cell_below hb d03; replace g00 := pw_cell_below hb g00; replace g01 := pw_cell_below hb g01; replace g02 := pw_cell_below hb g02; replace g03 := pw_cell_below hb g03; replace e00 := pw_cell_below hb e00; replace e01 := pw_cell_below hb e01; clear HBB BK2 f00 f01; have HBB := n0_; have BK2 := n2_; have f00 := blk_frozen BK2.out 0; have f01 := blk_frozen BK2.out 1; clear n0_ n2_ hb))
        have hG := blk_set (blk_set BK2.out 0 (.int .i64 cap)) 1 (.slice Av fs.length cv)
        refine bodyPost_ret (results_ct rfl _ _ B2 24 #[.int .i64 cap, .slice Av fs.length cv] (0, 0) _ rfl hG Try.underlying24 rfl (by kernel_rfl)) rfl ?_
        exact ⟨_, rfl, fin_V BK2.out HRV.out HSZ.out HAV.out (fun k hk => ⟨Nat.le_trans HSZ.out hk.1, fun e => by have h1 := HB2m.out; have h2 := hk.1; omega⟩) _ _, below_set (below_set HBB.out HB2.out) HB2.out⟩
      | true =>
        rw [if_pos rfl] at h
        by_cases hk0 : kind < 0
        · rw [if_pos (.inl hk0)] at h
          have h1 := Option.some.inj h
          injection h1 with h1 h2
          injection h2 with h2 h3
          subst h1; subst h2; subst h3
          have dk : decide (kind < 0) = true := decide_eq_true hk0
          clear h hk0
          go_wp2_with (first | (go_at_call 18; (refine (disk_May.calls k cap A0 c0 l0 true _ (Kd.C_below HR0.out HBB.out) hc0 HM.out).mono ?_); rintro e w2 ⟨rfl, hb⟩; have n0_ := Aside0.mk (below_step HBB.out hb); have n2_ := Aside0.mk (blk_below BK2.out hb); replace c00 := pw_cell_below hb c00; replace c01 := pw_cell_below hb c01; replace d00 := pw_cell_below hb d00; replace d01 := pw_cell_below hb d01; replace d02 := pw_cell_below hb d02; replace d03 := pw_cell_below hb d03; replace g00 := pw_cell_below hb g00; replace g01 := pw_cell_below hb g01; replace g02 := pw_cell_below hb g02; replace g03 := pw_cell_below hb g03; replace e00 := pw_cell_below hb e00; replace e01 := pw_cell_below hb e01; clear HBB BK2 f00 f01; have HBB := n0_; have BK2 := n2_; have f00 := blk_frozen BK2.out 0; have f01 := blk_frozen BK2.out 1; clear n0_ n2_ hb) | (go_at_call 33; (refine (disk_named.calls k a true _ HN.out).mono ?_); rintro e w3 ⟨rfl, hb⟩; have n0_ := Aside0.mk (below_step HBB.out hb); have n2_ := Aside0.mk (blk_below BK2.out hb); replace c00 := pw_cell_below hb c00; replace c01 := pw_cell_below hb c01; replace d00 := pw_cell_below hb d00; replace d01 := pw_cell_below hb d01; replace d02 := pw_cell_below hb d02; replace d03 := pw_cell_below hb d03; replace g00 := pw_cell_below hb g00; replace g01 := pw_cell_below hb g01; replace g02 := pw_cell_below hb g02; replace g03 := pw_cell_below hb g03; replace e00 := pw_cell_below hb e00; replace e01 := pw_cell_below hb e01; clear HBB BK2 f00 f01; have HBB := n0_; have BK2 := n2_; have f00 := blk_frozen BK2.out 0; have f01 := blk_frozen BK2.out 1; clear n0_ n2_ hb) | (go_at_call 43; (refine (own_calls cap A0 c0 l0 _ (Kd.C_below HR0.out HBB.out) hc0 HLL.out HDD.out).mono ?_); rintro e w9 ⟨v, fs, rfl, hR, hA, hb⟩; obtain ⟨Av, cv, ev⟩ := Kd.R_slice hR; subst ev; have HRV := Aside0.mk hR; have HAV := Aside0.mk hA; have HB2m := Aside0.mk (blk_lt BK2.out); have HSZ := Aside0.mk (below_size HBB.out); clear hR hA; have n0_ := Aside0.mk (below_step HBB.out hb); have n2_ := Aside0.mk (blk_below BK2.out hb); replace c00 := pw_cell_below hb c00; replace c01 := pw_cell_below hb c01; replace d00 := pw_cell_below hb d00; replace d01 := pw_cell_below hb d01; replace d02 := pw_cell_below hb d02; replace d03 := pw_cell_below hb d03; replace g00 := pw_cell_below hb g00; replace g01 := pw_cell_below hb g01; replace g02 := pw_cell_below hb g02; replace g03 := pw_cell_below hb g03; replace e00 := pw_cell_below hb e00; replace e01 := pw_cell_below hb e01; clear HBB BK2 f00 f01; have HBB := n0_; have BK2 := n2_; have f00 := blk_frozen BK2.out 0; have f01 := blk_frozen BK2.out 1; clear n0_ n2_ hb))
          have hG := blk_set (blk_set BK2.out 0 (.int .i64 cap)) 1 (.slice Av fs.length cv)
          refine bodyPost_ret (results_ct rfl _ _ B2 24 #[.int .i64 cap, .slice Av fs.length cv] (0, 0) _ rfl hG Try.underlying24 rfl (by kernel_rfl)) rfl ?_
          exact ⟨_, rfl, fin_V BK2.out HRV.out HSZ.out HAV.out (fun k hk => ⟨Nat.le_trans HSZ.out hk.1, fun e => by have h1 := HB2m.out; have h2 := hk.1; omega⟩) _ _, below_set (below_set HBB.out HB2.out) HB2.out⟩
        by_cases hk4 : 4 ≤ kind
        · rw [if_pos (.inr hk4)] at h
          have h1 := Option.some.inj h
          injection h1 with h1 h2
          injection h2 with h2 h3
          subst h1; subst h2; subst h3
          have dk : decide (kind < 0) = false := decide_eq_false hk0
          have dk4 : decide (4 ≤ kind) = true := decide_eq_true hk4
          clear h hk0 hk4
          go_wp2_with (first | (go_at_call 18; (refine (disk_May.calls k cap A0 c0 l0 true _ (Kd.C_below HR0.out HBB.out) hc0 HM.out).mono ?_); rintro e w2 ⟨rfl, hb⟩; have n0_ := Aside0.mk (below_step HBB.out hb); have n2_ := Aside0.mk (blk_below BK2.out hb); replace c00 := pw_cell_below hb c00; replace c01 := pw_cell_below hb c01; replace d00 := pw_cell_below hb d00; replace d01 := pw_cell_below hb d01; replace d02 := pw_cell_below hb d02; replace d03 := pw_cell_below hb d03; replace g00 := pw_cell_below hb g00; replace g01 := pw_cell_below hb g01; replace g02 := pw_cell_below hb g02; replace g03 := pw_cell_below hb g03; replace e00 := pw_cell_below hb e00; replace e01 := pw_cell_below hb e01; clear HBB BK2 f00 f01; have HBB := n0_; have BK2 := n2_; have f00 := blk_frozen BK2.out 0; have f01 := blk_frozen BK2.out 1; clear n0_ n2_ hb) | (go_at_call 33; (refine (disk_named.calls k a true _ HN.out).mono ?_); rintro e w3 ⟨rfl, hb⟩; have n0_ := Aside0.mk (below_step HBB.out hb); have n2_ := Aside0.mk (blk_below BK2.out hb); replace c00 := pw_cell_below hb c00; replace c01 := pw_cell_below hb c01; replace d00 := pw_cell_below hb d00; replace d01 := pw_cell_below hb d01; replace d02 := pw_cell_below hb d02; replace d03 := pw_cell_below hb d03; replace g00 := pw_cell_below hb g00; replace g01 := pw_cell_below hb g01; replace g02 := pw_cell_below hb g02; replace g03 := pw_cell_below hb g03; replace e00 := pw_cell_below hb e00; replace e01 := pw_cell_below hb e01; clear HBB BK2 f00 f01; have HBB := n0_; have BK2 := n2_; have f00 := blk_frozen BK2.out 0; have f01 := blk_frozen BK2.out 1; clear n0_ n2_ hb) | (go_at_call 43; (refine (own_calls cap A0 c0 l0 _ (Kd.C_below HR0.out HBB.out) hc0 HLL.out HDD.out).mono ?_); rintro e w9 ⟨v, fs, rfl, hR, hA, hb⟩; obtain ⟨Av, cv, ev⟩ := Kd.R_slice hR; subst ev; have HRV := Aside0.mk hR; have HAV := Aside0.mk hA; have HB2m := Aside0.mk (blk_lt BK2.out); have HSZ := Aside0.mk (below_size HBB.out); clear hR hA; have n0_ := Aside0.mk (below_step HBB.out hb); have n2_ := Aside0.mk (blk_below BK2.out hb); replace c00 := pw_cell_below hb c00; replace c01 := pw_cell_below hb c01; replace d00 := pw_cell_below hb d00; replace d01 := pw_cell_below hb d01; replace d02 := pw_cell_below hb d02; replace d03 := pw_cell_below hb d03; replace g00 := pw_cell_below hb g00; replace g01 := pw_cell_below hb g01; replace g02 := pw_cell_below hb g02; replace g03 := pw_cell_below hb g03; replace e00 := pw_cell_below hb e00; replace e01 := pw_cell_below hb e01; clear HBB BK2 f00 f01; have HBB := n0_; have BK2 := n2_; have f00 := blk_frozen BK2.out 0; have f01 := blk_frozen BK2.out 1; clear n0_ n2_ hb))
          have hG := blk_set (blk_set BK2.out 0 (.int .i64 cap)) 1 (.slice Av fs.length cv)
          refine bodyPost_ret (results_ct rfl _ _ B2 24 #[.int .i64 cap, .slice Av fs.length cv] (0, 0) _ rfl hG Try.underlying24 rfl (by kernel_rfl)) rfl ?_
          exact ⟨_, rfl, fin_V BK2.out HRV.out HSZ.out HAV.out (fun k hk => ⟨Nat.le_trans HSZ.out hk.1, fun e => by have h1 := HB2m.out; have h2 := hk.1; omega⟩) _ _, below_set (below_set HBB.out HB2.out) HB2.out⟩
        rw [if_neg (by rintro (h | h); (· exact hk0 h); (· exact hk4 h))] at h
        have dk : decide (kind < 0) = false := decide_eq_false hk0
        have dk4 : decide (4 ≤ kind) = false := decide_eq_false hk4
        obtain ⟨bn, hbn, h⟩ := Option.bind_eq_some_iff.mp h
        obtain ⟨u, hu, h⟩ := Option.bind_eq_some_iff.mp h
        by_cases hg : doOk cap l0 u = true ∧ a.size ≤ gMax
        · rw [if_pos hg] at h
          have h1 := Option.some.inj h
          injection h1 with h1 h2
          injection h2 with h2 h3
          subst h1
          have HBN := Aside0.mk hbn
          have HU := Aside0.mk hu
          have HOK := Aside0.mk hg.1
          have HAS := Aside0.mk (show a.size ≤ 9223372036854775807 from hg.2)
          have HR2 := Aside0.mk h2
          have HR3 := Aside0.mk h3
          have hpw := hg.1
          simp only [doOk, Bool.and_eq_true, decide_eq_true_eq] at hpw
          have HND := Aside0.mk (show (namesOf l0).Nodup from by
            have := sorted_nodup hpw.1.1.1.1
            simp only [toList_data] at this
            exact this)
          have HK := Aside0.mk (show kind = 0 ∨ kind = 1 ∨ kind = 2 ∨ kind = 3 by omega)
          clear hpw hg h h2 h3 hu hbn hk0 hk4
          go_upto_region 4 with (first | (go_at_call 18; (refine (disk_May.calls k cap A0 c0 l0 true _ (Kd.C_below HR0.out HBB.out) hc0 HM.out).mono ?_); rintro e w2 ⟨rfl, hb⟩; have n0_ := Aside0.mk (below_step HBB.out hb); have n2_ := Aside0.mk (blk_below BK2.out hb); replace c00 := pw_cell_below hb c00; replace c01 := pw_cell_below hb c01; replace d00 := pw_cell_below hb d00; replace d01 := pw_cell_below hb d01; replace d02 := pw_cell_below hb d02; replace d03 := pw_cell_below hb d03; replace g00 := pw_cell_below hb g00; replace g01 := pw_cell_below hb g01; replace g02 := pw_cell_below hb g02; replace g03 := pw_cell_below hb g03; replace e00 := pw_cell_below hb e00; replace e01 := pw_cell_below hb e01; clear HBB BK2 f00 f01; have HBB := n0_; have BK2 := n2_; have f00 := blk_frozen BK2.out 0; have f01 := blk_frozen BK2.out 1; clear n0_ n2_ hb) | (go_at_call 33; (refine (disk_named.calls k a true _ HN.out).mono ?_); rintro e w3 ⟨rfl, hb⟩; have n0_ := Aside0.mk (below_step HBB.out hb); have n2_ := Aside0.mk (blk_below BK2.out hb); replace c00 := pw_cell_below hb c00; replace c01 := pw_cell_below hb c01; replace d00 := pw_cell_below hb d00; replace d01 := pw_cell_below hb d01; replace d02 := pw_cell_below hb d02; replace d03 := pw_cell_below hb d03; replace g00 := pw_cell_below hb g00; replace g01 := pw_cell_below hb g01; replace g02 := pw_cell_below hb g02; replace g03 := pw_cell_below hb g03; replace e00 := pw_cell_below hb e00; replace e01 := pw_cell_below hb e01; clear HBB BK2 f00 f01; have HBB := n0_; have BK2 := n2_; have f00 := blk_frozen BK2.out 0; have f01 := blk_frozen BK2.out 1; clear n0_ n2_ hb))
          have HW3 := Aside0.mk (show B2 < w3.heap.size from blk_lt BK2.out)
          refine start_ (n := 9) (S := fun w' => w'.cell? ⟨w.heap.size, 0, none⟩ = some (.int .i64 cap) ∧ w'.cell? ⟨w.heap.size, 1, none⟩ = some (.slice A0 l0.length c0) ∧ w'.cell? ⟨B1, 0, none⟩ = some (.int .i64 kind) ∧ w'.cell? ⟨B1, 1, none⟩ = some (.string a) ∧ w'.cell? ⟨B1, 2, none⟩ = some (.string b) ∧ w'.cell? ⟨B1, 3, none⟩ = some (.slice A1 l1.length c1)) (ds := []) #[false, false, false, false, false, false, false, false, false] (by kernel_rfl) rfl rfl ⟨c00, c01, d00, d01, d02, d03⟩ (fun hHeld => ?_)
          refine pure_ (i := 3) (N := some 34) (v := ?_) (a' := ?_) #[false, false, false, true, false, false, false, false, false] rfl rfl (by kernel_rfl) (fun _ _ _ h => h) (Or.inl ⟨by rfl, ?_⟩) ?_ ?_
          rotate_left
          · intro w'
            go_simp
            with_reducible rfl
          rotate_left
          · simp only [Act.put, List.setIfInBounds_toArray, List.set_cons_zero, List.set_cons_succ, i64_w, i32_w]
            rfl
          refine take_ (i := 0) (N := some 31) (v := ?_) (a' := ?_) #[true, false, false, true, false, false, false, false, false] rfl rfl (by kernel_rfl) (fun _ _ _ h => h) (Or.inl ⟨by rfl, ?_⟩) hHeld ?_ ?_
          rotate_left
          · rintro w' ⟨s0, s1, s2, s3, s4, s5⟩
            go_simp
            with_reducible rfl
          rotate_left
          · simp only [Act.put, List.setIfInBounds_toArray, List.set_cons_zero, List.set_cons_succ, i64_w, i32_w]
            rfl
          refine take_ (i := 2) (N := some 33) (v := ?_) (a' := ?_) #[true, false, true, true, false, false, false, false, false] rfl rfl (by kernel_rfl) (fun _ _ _ h => h) (Or.inl ⟨by rfl, ?_⟩) hHeld ?_ ?_
          rotate_left
          · rintro w' ⟨s0, s1, s2, s3, s4, s5⟩
            go_simp
            with_reducible rfl
          rotate_left
          · simp only [Act.put, List.setIfInBounds_toArray, List.set_cons_zero, List.set_cons_succ, i64_w, i32_w]
            rfl
          refine take_ (i := 4) (N := some 35) (v := ?_) (a' := ?_) #[true, false, true, true, true, false, false, false, false] rfl rfl (by kernel_rfl) (fun _ _ _ h => h) (Or.inl ⟨by rfl, ?_⟩) hHeld ?_ ?_
          rotate_left
          · rintro w' ⟨s0, s1, s2, s3, s4, s5⟩
            go_simp
            with_reducible rfl
          rotate_left
          · simp only [Act.put, List.setIfInBounds_toArray, List.set_cons_zero, List.set_cons_succ, i64_w, i32_w]
            rfl
          refine one_ (i := 1) (N := some 32) #[true, true, true, true, true, false, false, false, false] rfl rfl (by kernel_rfl) (by decide) (fun K hK => ?_)
          refine goes_ Try.func43 (by kernel_rfl) rfl #[.agg #[.int .i64 cap, .slice A0 l0.length c0]] (by rfl) rfl rfl (by simp only [List.map_toArray, List.map_cons, List.map_nil]; rfl) ?_
          with_reducible refine (own_calls cap A0 c0 l0 w3.drew (Kd.C_below HR0.out (below_drew HBB.out)) hc0 HLL.out HDD.out).mono ?_
          rintro e w4 ⟨v, fs, rfl, hR, hA, hb⟩
          refine ⟨_, rfl, ?_⟩
          obtain ⟨Av, cv, ev⟩ := Kd.R_slice hR
          subst ev
          have HRV := Aside0.mk hR
          have HAV := Aside0.mk hA
          have HB34 := Aside0.mk (below_step (below_drew (Below.refl w3.heap.size w3)) hb)
          have HBW4 := Aside0.mk (below_step HBB.out HB34.out)
          refine hK.out _ _ ⟨pw_cell_below hb hHeld.1, pw_cell_below hb hHeld.2.1, pw_cell_below hb hHeld.2.2.1, pw_cell_below hb hHeld.2.2.2.1, pw_cell_below hb hHeld.2.2.2.2.1, pw_cell_below hb hHeld.2.2.2.2.2⟩ (fun hHeld => ?_)
          clear hK K
          refine norm_ (a' := ?_) ?_ ?_
          rotate_left
          · show Act.put _ (some 32) _ = _
            simp only [Act.put, List.setIfInBounds_toArray, List.set_cons_zero, List.set_cons_succ, i64_w, i32_w]
            rfl
          refine one_ (i := 5) (N := some 36) #[true, true, true, true, true, true, false, false, false] rfl rfl (by kernel_rfl) (by decide) (fun K hK => ?_)
          refine goes_ Try.func35 (by kernel_rfl) rfl #[.slice A0 l0.length c0] (by rfl) rfl rfl (by simp only [List.map_toArray, List.map_cons, List.map_nil]; rfl) ?_
          with_reducible refine (places_calls A0 c0 l0 w4 (Kd.C_below HR0.out HBW4.out) hc0 (fun x hx => HDS.out x hx)).mono ?_
          rintro e w5 ⟨rfl, Dm, hMap, hPl, hb2⟩
          refine ⟨_, rfl, ?_⟩
          have HMAP := Aside0.mk hMap
          have HPL := Aside0.mk hPl
          have HB45 := Aside0.mk hb2
          refine hK.out _ _ ⟨pw_cell_below hb2 hHeld.1, pw_cell_below hb2 hHeld.2.1, pw_cell_below hb2 hHeld.2.2.1, pw_cell_below hb2 hHeld.2.2.2.1, pw_cell_below hb2 hHeld.2.2.2.2.1, pw_cell_below hb2 hHeld.2.2.2.2.2⟩ (fun hHeld => ?_)
          clear hK K
          refine norm_ (a' := ?_) ?_ ?_
          rotate_left
          · show Act.put _ (some 36) _ = _
            simp only [Act.put, List.setIfInBounds_toArray, List.set_cons_zero, List.set_cons_succ, i64_w, i32_w]
            rfl
          refine pure_ (i := 6) (N := some 37) (v := ?_) (a' := ?_) #[true, true, true, true, true, true, true, false, false] rfl rfl (by kernel_rfl) (fun _ _ _ h => h) (Or.inl ⟨by rfl, ?_⟩) ?_ ?_
          rotate_left
          · intro w'
            go_simp
            with_reducible rfl
          rotate_left
          · simp only [Act.put, List.setIfInBounds_toArray, List.set_cons_zero, List.set_cons_succ, i64_w, i32_w]
            rfl
          refine one_ (i := 7) (N := some 38) #[true, true, true, true, true, true, true, true, false] rfl rfl (by kernel_rfl) (by decide) (fun K hK => ?_)
          refine value_ (w1 := ?_) (v := ?_) (by rfl) rfl ?_ ?_
          rotate_left 2
          · go_simp
            constructor
            · rfl
            · rfl
          refine hK.out _ _ ⟨pw_cell_below (below_alloc (Below.refl _ _) _) hHeld.1, pw_cell_below (below_alloc (Below.refl _ _) _) hHeld.2.1, pw_cell_below (below_alloc (Below.refl _ _) _) hHeld.2.2.1, pw_cell_below (below_alloc (Below.refl _ _) _) hHeld.2.2.2.1, pw_cell_below (below_alloc (Below.refl _ _) _) hHeld.2.2.2.2.1, pw_cell_below (below_alloc (Below.refl _ _) _) hHeld.2.2.2.2.2⟩ (fun hHeld => ?_)
          clear hK K
          refine norm_ (a' := ?_) ?_ ?_
          rotate_left
          · show Act.put _ (some 38) _ = _
            simp only [Act.put, List.setIfInBounds_toArray, List.set_cons_zero, List.set_cons_succ, i64_w, i32_w]
            rfl
          refine pure_ (i := 8) (N := some 7) (v := ?_) (a' := ?_) #[true, true, true, true, true, true, true, true, true] rfl rfl (by kernel_rfl) (fun _ _ _ h => h) (Or.inl ⟨by rfl, ?_⟩) ?_ ?_
          rotate_left
          · intro w'
            go_simp
            with_reducible rfl
          rotate_left
          · simp only [Act.put, List.setIfInBounds_toArray, List.set_cons_zero, List.set_cons_succ, i64_w, i32_w]
            rfl
          refine done_ (by kernel_rfl) ?_
          have HD6 := Aside0.mk (show (w5.alloc (.cells #[.int .i64 cap, .slice Av fs.length cv, .int .i64 kind, .string a, .string b, .slice A1 l1.length c1, .map (some w4.heap.size)] 67)).heap[w5.heap.size]? = some (wk cap (.slice Av fs.length cv) kind a b (.slice A1 l1.length c1) (.map (some w4.heap.size))) from blk_new w5 _)
          have hb := below_alloc (below_step HB34.out HB45.out) (.cells #[.int .i64 cap, .slice Av fs.length cv, .int .i64 kind, .string a, .string b, .slice A1 l1.length c1, .map (some w4.heap.size)] 67)
          have h56 := below_alloc (Below.refl w5.heap.size w5) (.cells #[.int .i64 cap, .slice Av fs.length cv, .int .i64 kind, .string a, .string b, .slice A1 l1.length c1, .map (some w4.heap.size)] 67)
          generalize (w5.alloc (.cells #[.int .i64 cap, .slice Av fs.length cv, .int .i64 kind, .string a, .string b, .slice A1 l1.length c1, .map (some w4.heap.size)] 67)) = w6 at *
          have HWS := Aside0.mk (show WS w6 w5.heap.size w3.heap.size (fun k => (w3.heap.size ≤ k ∧ some k ≠ (Value.slice Av fs.length cv).ownBlock) ∧ k < w4.heap.size) (.slice Av fs.length cv) fs l0 from by
            have h2 := below_step HB45.out h56
            refine ⟨Kd.R_below HRV.out h2, HAV.out.bound.step (fun k _ hk => h2.block k hk), fun k hk => ⟨hk.1.1, Nat.lt_of_lt_of_le hk.2 h2.size, fun e => ?_, hk.1.2⟩⟩
            have h3 := HB45.out.size
            have h4 := hk.2
            omega)
          obtain ⟨i, hma, hmi⟩ := mapAns_of HMAP.out HPL.out HAS.out HND.out
          have HMA := Aside0.mk (show MapAns w6 w4.heap.size a i (isX a l0) from fun W' hW => hma W' (hW.trans (h56.block _ (owns_lt HMAP.out))))
          have HMI := Aside0.mk hmi
          have HDW := Aside0.mk (show w3.heap.size ≤ w5.heap.size from Nat.le_trans HB34.out.size HB45.out.size)
          have HL6 := Aside0.mk (Kd.C_below HR1.out (below_step HBB.out hb))
          have HWAY := Aside0.mk (show ∀ F, (kind = 0 ∧ F = 39 ∨ kind = 1 ∧ F = 40 ∨ kind = 2 ∧ F = 41 ∨ kind = 3 ∧ F = 42) → Calls Try.prog F #[.pointer (some ⟨w5.heap.size, 0, none⟩)] w6 (fun e w' => e = .returned (.int .i64 r3) ∧ Below w3.heap.size w6 w' ∧ Aside0 (r3 = 0 → ∃ v' ok' fs' kind a b dat mp, w'.heap[w5.heap.size]? = some (wk cap v' kind a b dat mp) ∧ WS w' w5.heap.size w3.heap.size ok' v' fs' r2)) from by
            have key : ∀ F, Calls Try.prog F #[.pointer (some ⟨w5.heap.size, 0, none⟩)] w6 (WayP w3.heap.size w5.heap.size w6 cap (doP cap l0 kind a b l1 u bn)) → Calls Try.prog F #[.pointer (some ⟨w5.heap.size, 0, none⟩)] w6 (fun e w' => e = .returned (.int .i64 r3) ∧ Below w3.heap.size w6 w' ∧ Aside0 (r3 = 0 → ∃ v' ok' fs' kind a b dat mp, w'.heap[w5.heap.size]? = some (wk cap v' kind a b dat mp) ∧ WS w' w5.heap.size w3.heap.size ok' v' fs' r2)) := by
              intro F hF
              refine hF.mono ?_
              rintro e w' ⟨h1, h2, h3⟩
              rw [HR3.out] at h1 h3
              rw [HR2.out] at h3
              exact ⟨h1, h2, ⟨h3⟩⟩
            rintro F (⟨rfl, rfl⟩ | ⟨rfl, rfl⟩ | ⟨rfl, rfl⟩ | ⟨rfl, rfl⟩)
            · exact key 39 (way_write w6 _ _ _ cap Av cv _ a b A1 c1 l1 _ i k fs l0 u bn HD6.out HDW.out HMA.out HWS.out HOK.out HU.out HL6.out hc1)
            · exact key 40 (way_sync w6 _ _ _ cap Av cv _ a b A1 c1 l1 _ i fs l0 u bn HD6.out HDW.out HMA.out HMI.out HWS.out)
            · exact key 41 (way_rename w6 _ _ _ cap Av cv _ a b A1 c1 l1 _ i k fs l0 u bn HD6.out HDW.out HMA.out HMI.out HWS.out HOK.out HBN.out)
            · exact key 42 (way_remove w6 _ _ _ cap Av cv _ a b A1 c1 l1 _ i fs l0 u bn HD6.out HDW.out HMA.out HWS.out HOK.out))
          have HSAME := Aside0.mk (show r3 ≠ 0 → r2 = l0 from fun h => by rw [← HR2.out]; exact doP_same _ _ _ _ _ _ _ _ (by rw [HR3.out]; exact h))
          have n2_ := Aside0.mk (blk_below BK2.out hb)
          replace c00 := pw_cell_below hb c00
          replace c01 := pw_cell_below hb c01
          replace d00 := pw_cell_below hb d00
          replace d01 := pw_cell_below hb d01
          replace d02 := pw_cell_below hb d02
          replace d03 := pw_cell_below hb d03
          replace g00 := pw_cell_below hb g00
          replace g01 := pw_cell_below hb g01
          replace g02 := pw_cell_below hb g02
          replace g03 := pw_cell_below hb g03
          replace e00 := pw_cell_below hb e00
          replace e01 := pw_cell_below hb e01
          have n0_ := Aside0.mk (below_step HBB.out hb)
          have HSZ3 := Aside0.mk (below_size HBB.out)
          clear HBB BK2 f00 f01 hb h56 hma hmi HMAP HPL HB34 HB45 HBW4 HRV HAV HWS HD6 HMA HMI HL6 HR2 HR3 HND HAS HOK HU HBN HM HN
          have HBB := n0_
          have BK2 := n2_
          clear n0_ n2_
          generalize w5.heap.size = DD at *
          rcases HK.out with rfl | rfl | rfl | rfl
          · have HW := Aside0.mk (HWAY.out 39 (.inl ⟨rfl, rfl⟩))
            clear HWAY HK
            go_upto_region 6 with (first | (go_at_call 39; (refine HW.out.mono ?_); rintro e w7 ⟨rfl, hb7, HZ⟩; have B27 := Aside0.mk ((hb7.block B2 HW3.out).trans BK2.out); have HB7 := Aside0.mk (below_weaken HBB.out HSZ3.out hb7); have c00' := (hb7.cell (p := ⟨w.heap.size, 0, none⟩) (Nat.lt_of_le_of_lt HB2.out HW3.out)).trans c00; have c01' := (hb7.cell (p := ⟨w.heap.size, 1, none⟩) (Nat.lt_of_le_of_lt HB2.out HW3.out)).trans c01; have e00' := (hb7.cell (p := ⟨B2, 0, none⟩) HW3.out).trans e00; have e01' := (hb7.cell (p := ⟨B2, 1, none⟩) HW3.out).trans e01; have f00' := blk_frozen B27.out 0; have f01' := blk_frozen B27.out 1; clear hb7 c00 c01 e00 e01 g00 g01 g02 g03 d00 d01 d02 d03))
            by_cases hz : r3 = 0
            · subst hz
              obtain ⟨v', ok', fs', kd', a', b', dat', mp', hD7, hS7⟩ := HZ.out rfl
              obtain ⟨Av', cv', ev'⟩ := Kd.R_slice hS7.row
              subst ev'
              have HS7 := Aside0.mk hS7
              unfold wk at hD7
              have m0 : w7.cell? ⟨DD, 0, none⟩ = some (.int .i64 cap) := (blk_cell hD7 0).trans rfl
              have m1 : w7.cell? ⟨DD, 1, none⟩ = some (.slice Av' fs'.length cv') := (blk_cell hD7 1).trans rfl
              clear hS7 hD7
              go_wp2
              have hG := blk_set (blk_set B27.out 0 (.int .i64 cap)) 1 (.slice Av' fs'.length cv')
              refine bodyPost_ret (results_ct rfl _ _ B2 24 #[.int .i64 cap, .slice Av' fs'.length cv'] (0, 0) _ rfl hG Try.underlying24 rfl (by kernel_rfl)) rfl ?_
              exact ⟨_, rfl, fin_V B27.out HS7.out.row HSZ3.out HS7.out.all (fun k hk => ⟨Nat.le_trans HSZ3.out (HS7.out.far k hk).1, fun e => by have h1 := HW3.out; have h2 := (HS7.out.far k hk).1; omega⟩) _ _, below_set (below_set HB7.out HB2.out) HB2.out⟩
            · have er := HSAME.out hz
              subst er
              have hz1 : (r3 == 0) = false := beq_eq_false_iff_ne.2 hz
              have hz2 : (r3 != 0) = true := by rw [bne, hz1]; rfl
              have hz3 : decide (r3 = 0) = false := decide_eq_false hz
              clear hz
              go_wp2_with (first | (go_at_call 43; (refine (own_calls cap A0 c0 r2 _ (Kd.C_below HR0.out HB7.out) hc0 HLL.out HDD.out).mono ?_); rintro e w9 ⟨v, fs, rfl, hR, hA, hb⟩; obtain ⟨Av9, cv9, ev⟩ := Kd.R_slice hR; subst ev; have HRV := Aside0.mk hR; have HAV := Aside0.mk hA; have HB2m := Aside0.mk (blk_lt B27.out); have HSZ := Aside0.mk (below_size HB7.out); have B29 := Aside0.mk (blk_below B27.out hb); have HB9 := Aside0.mk (below_step HB7.out hb); replace e00' := pw_cell_below hb e00'; replace e01' := pw_cell_below hb e01'; replace f00' := blk_frozen B29.out 0; replace f01' := blk_frozen B29.out 1; clear hR hA hb))
              have hG := blk_set (blk_set B29.out 0 (.int .i64 cap)) 1 (.slice Av9 fs.length cv9)
              refine bodyPost_ret (results_ct rfl _ _ B2 24 #[.int .i64 cap, .slice Av9 fs.length cv9] (0, 0) _ rfl hG Try.underlying24 rfl (by kernel_rfl)) rfl ?_
              exact ⟨_, rfl, fin_V B29.out HRV.out HSZ.out HAV.out (fun k hk => ⟨Nat.le_trans HSZ.out hk.1, fun e => by have h1 := HB2m.out; have h2 := hk.1; omega⟩) _ _, below_set (below_set HB9.out HB2.out) HB2.out⟩
          · have HW := Aside0.mk (HWAY.out 40 (.inr (.inl ⟨rfl, rfl⟩)))
            clear HWAY HK
            go_upto_region 6 with (first | (go_at_call 40; (refine HW.out.mono ?_); rintro e w7 ⟨rfl, hb7, HZ⟩; have B27 := Aside0.mk ((hb7.block B2 HW3.out).trans BK2.out); have HB7 := Aside0.mk (below_weaken HBB.out HSZ3.out hb7); have c00' := (hb7.cell (p := ⟨w.heap.size, 0, none⟩) (Nat.lt_of_le_of_lt HB2.out HW3.out)).trans c00; have c01' := (hb7.cell (p := ⟨w.heap.size, 1, none⟩) (Nat.lt_of_le_of_lt HB2.out HW3.out)).trans c01; have e00' := (hb7.cell (p := ⟨B2, 0, none⟩) HW3.out).trans e00; have e01' := (hb7.cell (p := ⟨B2, 1, none⟩) HW3.out).trans e01; have f00' := blk_frozen B27.out 0; have f01' := blk_frozen B27.out 1; clear hb7 c00 c01 e00 e01 g00 g01 g02 g03 d00 d01 d02 d03))
            by_cases hz : r3 = 0
            · subst hz
              obtain ⟨v', ok', fs', kd', a', b', dat', mp', hD7, hS7⟩ := HZ.out rfl
              obtain ⟨Av', cv', ev'⟩ := Kd.R_slice hS7.row
              subst ev'
              have HS7 := Aside0.mk hS7
              unfold wk at hD7
              have m0 : w7.cell? ⟨DD, 0, none⟩ = some (.int .i64 cap) := (blk_cell hD7 0).trans rfl
              have m1 : w7.cell? ⟨DD, 1, none⟩ = some (.slice Av' fs'.length cv') := (blk_cell hD7 1).trans rfl
              clear hS7 hD7
              go_wp2
              have hG := blk_set (blk_set B27.out 0 (.int .i64 cap)) 1 (.slice Av' fs'.length cv')
              refine bodyPost_ret (results_ct rfl _ _ B2 24 #[.int .i64 cap, .slice Av' fs'.length cv'] (0, 0) _ rfl hG Try.underlying24 rfl (by kernel_rfl)) rfl ?_
              exact ⟨_, rfl, fin_V B27.out HS7.out.row HSZ3.out HS7.out.all (fun k hk => ⟨Nat.le_trans HSZ3.out (HS7.out.far k hk).1, fun e => by have h1 := HW3.out; have h2 := (HS7.out.far k hk).1; omega⟩) _ _, below_set (below_set HB7.out HB2.out) HB2.out⟩
            · have er := HSAME.out hz
              subst er
              have hz1 : (r3 == 0) = false := beq_eq_false_iff_ne.2 hz
              have hz2 : (r3 != 0) = true := by rw [bne, hz1]; rfl
              have hz3 : decide (r3 = 0) = false := decide_eq_false hz
              clear hz
              go_wp2_with (first | (go_at_call 43; (refine (own_calls cap A0 c0 r2 _ (Kd.C_below HR0.out HB7.out) hc0 HLL.out HDD.out).mono ?_); rintro e w9 ⟨v, fs, rfl, hR, hA, hb⟩; obtain ⟨Av9, cv9, ev⟩ := Kd.R_slice hR; subst ev; have HRV := Aside0.mk hR; have HAV := Aside0.mk hA; have HB2m := Aside0.mk (blk_lt B27.out); have HSZ := Aside0.mk (below_size HB7.out); have B29 := Aside0.mk (blk_below B27.out hb); have HB9 := Aside0.mk (below_step HB7.out hb); replace e00' := pw_cell_below hb e00'; replace e01' := pw_cell_below hb e01'; replace f00' := blk_frozen B29.out 0; replace f01' := blk_frozen B29.out 1; clear hR hA hb))
              have hG := blk_set (blk_set B29.out 0 (.int .i64 cap)) 1 (.slice Av9 fs.length cv9)
              refine bodyPost_ret (results_ct rfl _ _ B2 24 #[.int .i64 cap, .slice Av9 fs.length cv9] (0, 0) _ rfl hG Try.underlying24 rfl (by kernel_rfl)) rfl ?_
              exact ⟨_, rfl, fin_V B29.out HRV.out HSZ.out HAV.out (fun k hk => ⟨Nat.le_trans HSZ.out hk.1, fun e => by have h1 := HB2m.out; have h2 := hk.1; omega⟩) _ _, below_set (below_set HB9.out HB2.out) HB2.out⟩
          · have HW := Aside0.mk (HWAY.out 41 (.inr (.inr (.inl ⟨rfl, rfl⟩))))
            clear HWAY HK
            go_upto_region 6 with (first | (go_at_call 41; (refine HW.out.mono ?_); rintro e w7 ⟨rfl, hb7, HZ⟩; have B27 := Aside0.mk ((hb7.block B2 HW3.out).trans BK2.out); have HB7 := Aside0.mk (below_weaken HBB.out HSZ3.out hb7); have c00' := (hb7.cell (p := ⟨w.heap.size, 0, none⟩) (Nat.lt_of_le_of_lt HB2.out HW3.out)).trans c00; have c01' := (hb7.cell (p := ⟨w.heap.size, 1, none⟩) (Nat.lt_of_le_of_lt HB2.out HW3.out)).trans c01; have e00' := (hb7.cell (p := ⟨B2, 0, none⟩) HW3.out).trans e00; have e01' := (hb7.cell (p := ⟨B2, 1, none⟩) HW3.out).trans e01; have f00' := blk_frozen B27.out 0; have f01' := blk_frozen B27.out 1; clear hb7 c00 c01 e00 e01 g00 g01 g02 g03 d00 d01 d02 d03))
            by_cases hz : r3 = 0
            · subst hz
              obtain ⟨v', ok', fs', kd', a', b', dat', mp', hD7, hS7⟩ := HZ.out rfl
              obtain ⟨Av', cv', ev'⟩ := Kd.R_slice hS7.row
              subst ev'
              have HS7 := Aside0.mk hS7
              unfold wk at hD7
              have m0 : w7.cell? ⟨DD, 0, none⟩ = some (.int .i64 cap) := (blk_cell hD7 0).trans rfl
              have m1 : w7.cell? ⟨DD, 1, none⟩ = some (.slice Av' fs'.length cv') := (blk_cell hD7 1).trans rfl
              clear hS7 hD7
              go_wp2
              have hG := blk_set (blk_set B27.out 0 (.int .i64 cap)) 1 (.slice Av' fs'.length cv')
              refine bodyPost_ret (results_ct rfl _ _ B2 24 #[.int .i64 cap, .slice Av' fs'.length cv'] (0, 0) _ rfl hG Try.underlying24 rfl (by kernel_rfl)) rfl ?_
              exact ⟨_, rfl, fin_V B27.out HS7.out.row HSZ3.out HS7.out.all (fun k hk => ⟨Nat.le_trans HSZ3.out (HS7.out.far k hk).1, fun e => by have h1 := HW3.out; have h2 := (HS7.out.far k hk).1; omega⟩) _ _, below_set (below_set HB7.out HB2.out) HB2.out⟩
            · have er := HSAME.out hz
              subst er
              have hz1 : (r3 == 0) = false := beq_eq_false_iff_ne.2 hz
              have hz2 : (r3 != 0) = true := by rw [bne, hz1]; rfl
              have hz3 : decide (r3 = 0) = false := decide_eq_false hz
              clear hz
              go_wp2_with (first | (go_at_call 43; (refine (own_calls cap A0 c0 r2 _ (Kd.C_below HR0.out HB7.out) hc0 HLL.out HDD.out).mono ?_); rintro e w9 ⟨v, fs, rfl, hR, hA, hb⟩; obtain ⟨Av9, cv9, ev⟩ := Kd.R_slice hR; subst ev; have HRV := Aside0.mk hR; have HAV := Aside0.mk hA; have HB2m := Aside0.mk (blk_lt B27.out); have HSZ := Aside0.mk (below_size HB7.out); have B29 := Aside0.mk (blk_below B27.out hb); have HB9 := Aside0.mk (below_step HB7.out hb); replace e00' := pw_cell_below hb e00'; replace e01' := pw_cell_below hb e01'; replace f00' := blk_frozen B29.out 0; replace f01' := blk_frozen B29.out 1; clear hR hA hb))
              have hG := blk_set (blk_set B29.out 0 (.int .i64 cap)) 1 (.slice Av9 fs.length cv9)
              refine bodyPost_ret (results_ct rfl _ _ B2 24 #[.int .i64 cap, .slice Av9 fs.length cv9] (0, 0) _ rfl hG Try.underlying24 rfl (by kernel_rfl)) rfl ?_
              exact ⟨_, rfl, fin_V B29.out HRV.out HSZ.out HAV.out (fun k hk => ⟨Nat.le_trans HSZ.out hk.1, fun e => by have h1 := HB2m.out; have h2 := hk.1; omega⟩) _ _, below_set (below_set HB9.out HB2.out) HB2.out⟩
          · have HW := Aside0.mk (HWAY.out 42 (.inr (.inr (.inr ⟨rfl, rfl⟩))))
            clear HWAY HK
            go_upto_region 6 with (first | (go_at_call 42; (refine HW.out.mono ?_); rintro e w7 ⟨rfl, hb7, HZ⟩; have B27 := Aside0.mk ((hb7.block B2 HW3.out).trans BK2.out); have HB7 := Aside0.mk (below_weaken HBB.out HSZ3.out hb7); have c00' := (hb7.cell (p := ⟨w.heap.size, 0, none⟩) (Nat.lt_of_le_of_lt HB2.out HW3.out)).trans c00; have c01' := (hb7.cell (p := ⟨w.heap.size, 1, none⟩) (Nat.lt_of_le_of_lt HB2.out HW3.out)).trans c01; have e00' := (hb7.cell (p := ⟨B2, 0, none⟩) HW3.out).trans e00; have e01' := (hb7.cell (p := ⟨B2, 1, none⟩) HW3.out).trans e01; have f00' := blk_frozen B27.out 0; have f01' := blk_frozen B27.out 1; clear hb7 c00 c01 e00 e01 g00 g01 g02 g03 d00 d01 d02 d03))
            by_cases hz : r3 = 0
            · subst hz
              obtain ⟨v', ok', fs', kd', a', b', dat', mp', hD7, hS7⟩ := HZ.out rfl
              obtain ⟨Av', cv', ev'⟩ := Kd.R_slice hS7.row
              subst ev'
              have HS7 := Aside0.mk hS7
              unfold wk at hD7
              have m0 : w7.cell? ⟨DD, 0, none⟩ = some (.int .i64 cap) := (blk_cell hD7 0).trans rfl
              have m1 : w7.cell? ⟨DD, 1, none⟩ = some (.slice Av' fs'.length cv') := (blk_cell hD7 1).trans rfl
              clear hS7 hD7
              go_wp2
              have hG := blk_set (blk_set B27.out 0 (.int .i64 cap)) 1 (.slice Av' fs'.length cv')
              refine bodyPost_ret (results_ct rfl _ _ B2 24 #[.int .i64 cap, .slice Av' fs'.length cv'] (0, 0) _ rfl hG Try.underlying24 rfl (by kernel_rfl)) rfl ?_
              exact ⟨_, rfl, fin_V B27.out HS7.out.row HSZ3.out HS7.out.all (fun k hk => ⟨Nat.le_trans HSZ3.out (HS7.out.far k hk).1, fun e => by have h1 := HW3.out; have h2 := (HS7.out.far k hk).1; omega⟩) _ _, below_set (below_set HB7.out HB2.out) HB2.out⟩
            · have er := HSAME.out hz
              subst er
              have hz1 : (r3 == 0) = false := beq_eq_false_iff_ne.2 hz
              have hz2 : (r3 != 0) = true := by rw [bne, hz1]; rfl
              have hz3 : decide (r3 = 0) = false := decide_eq_false hz
              clear hz
              go_wp2_with (first | (go_at_call 43; (refine (own_calls cap A0 c0 r2 _ (Kd.C_below HR0.out HB7.out) hc0 HLL.out HDD.out).mono ?_); rintro e w9 ⟨v, fs, rfl, hR, hA, hb⟩; obtain ⟨Av9, cv9, ev⟩ := Kd.R_slice hR; subst ev; have HRV := Aside0.mk hR; have HAV := Aside0.mk hA; have HB2m := Aside0.mk (blk_lt B27.out); have HSZ := Aside0.mk (below_size HB7.out); have B29 := Aside0.mk (blk_below B27.out hb); have HB9 := Aside0.mk (below_step HB7.out hb); replace e00' := pw_cell_below hb e00'; replace e01' := pw_cell_below hb e01'; replace f00' := blk_frozen B29.out 0; replace f01' := blk_frozen B29.out 1; clear hR hA hb))
              have hG := blk_set (blk_set B29.out 0 (.int .i64 cap)) 1 (.slice Av9 fs.length cv9)
              refine bodyPost_ret (results_ct rfl _ _ B2 24 #[.int .i64 cap, .slice Av9 fs.length cv9] (0, 0) _ rfl hG Try.underlying24 rfl (by kernel_rfl)) rfl ?_
              exact ⟨_, rfl, fin_V B29.out HRV.out HSZ.out HAV.out (fun k hk => ⟨Nat.le_trans HSZ.out hk.1, fun e => by have h1 := HB2m.out; have h2 := hk.1; omega⟩) _ _, below_set (below_set HB9.out HB2.out) HB2.out⟩
        · rw [if_neg hg] at h
          exact absurd h (by simp)
  · rw [if_neg ho] at h
    exact absurd h (by simp)
/-! ### disk.Crash (function 27), by hand -/
def crashL : List S48 → List Int → List S48
  | [], _ => []
  | x :: l, p => if x.f2 = true then x :: crashL l p else match p with
    | [] => crashL l []
    | n :: q => if n < 0 then crashL l q else ⟨x.f0, x.f1.take n.toNat, true⟩ :: crashL l q
def disk_Crash.f (k : Nat) (cap : Int) (l : List S48) (p : List Int) : Option (Int × List S48) := if ownOk l = true then ((disk_May.f k cap l).bind fun m => if m = true then some (cap, crashL l p) else some (cap, l)) else none
theorem disk_Crash.mono : ∀ cap l p k, LeO (disk_Crash.f k cap l p) (disk_Crash.f (k + 1) cap l p) := by
  intro cap l p k
  unfold disk_Crash.f
  exact LeO.ite (LeO.bind (disk_May.mono _ _ _) (fun m => LeO.refl _)) (LeO.refl _)
theorem two_blocks (w : World) (o1 o2 : Obj) : ((w.alloc o1).alloc o2).heap[w.heap.size]? = some o1 ∧ ((w.alloc o1).alloc o2).heap[w.heap.size + 1]? = some o2 ∧ Below w.heap.size w ((w.alloc o1).alloc o2) := by
  have s1 := size_alloc_ w o1
  have h2 := blk_new (w.alloc o1) o2
  rw [s1] at h2
  exact ⟨blk_alloc (blk_new w o1) _, h2, below_alloc (below_alloc (Below.refl _ _) _) _⟩
theorem run_field_files (W : World) (a : Value) (A : Option Addr) (n c : Nat) : (Instr.field 24 (.agg #[a, .slice A n c]) 1).run Try.prog W = .ok (.slice A n c) W := by
  simp [Instr.field, run_underlying Try.underlying24, part, asAgg, go_sem]
theorem crash_more {w w3 wo wx w4 : World} {O : Nat} {cap : Int} {v v1 : Value} {gs : List SF} {ys : List S48} {sf : SF} {y : S48} {ok2 : Nat → Prop} (hO3 : O < w3.heap.size) (hOw : w.heap.size ≤ O) (hok : ∀ k, ok2 k → k < w3.heap.size ∧ k ≠ O) (HROW : Kd.R kF 48 wo w3.heap.size (fun _ => True) v gs) (HALL : AllV wo ok2 gs ys) (HY : BearsV wo ok2 sf y) (HKO : Kept w3 wo (fun k => k = O)) (HB : Below w.heap.size w wo) (HBX : Below wo.heap.size wo wx)
    (BOx : wx.heap[O]? = some (.cells #[.int .i64 cap, v] 24 (0, 0))) (hr1 : Kd.R kF 48 w4 w3.heap.size (fun _ => True) v1 (gs ++ [sf])) (hg1 : wx.grownBy w4 v.ownBlock) (hne : some O ≠ v.ownBlock) :
    (w4.setCell ⟨O, 1, none⟩ v1).heap[O]? = some (.cells #[.int .i64 cap, v1] 24 (0, 0)) ∧ Kd.R kF 48 (w4.setCell ⟨O, 1, none⟩ v1) w3.heap.size (fun _ => True) v1 (gs ++ [sf]) ∧ AllV (w4.setCell ⟨O, 1, none⟩ v1) ok2 (gs ++ [sf]) (ys ++ [y]) ∧ Kept w3 (w4.setCell ⟨O, 1, none⟩ v1) (fun k => k = O) ∧ Below w.heap.size w (w4.setCell ⟨O, 1, none⟩ v1) := by
  have h4 := blk_grown BOx hg1 hne
  have hsz := HBX.size
  have hko := HKO.1
  have hbase : ∀ k, v.ownBlock = some k → w3.heap.size ≤ k := Kd.R_base HROW
  have hk2 : Kept w3 w4 (fun k => k = O) := Kept.of_grown hg1 (HKO.below HBX) (fun k hk => .inr (hbase k hk))
  refine ⟨blk_set h4 1 v1, Kd.R_set hr1 h4 (fun q hq => by rw [kF_E hq]; decide) 1 v1, (HALL.snoc HY).step (fun k hk hl => ?_), hk2.setCell (.inl rfl) v1, ?_⟩
  · obtain ⟨h1, h2⟩ := hok k hk
    refine (Below.heap_setCell w4 ⟨O, 1, none⟩ v1 k h2).trans ((hg1.block k (by omega) (fun e => ?_)).trans (HBX.block k hl))
    have := hbase k e.symm
    omega
  · have h1 := below_step HB HBX
    exact below_set (h1.grown hg1 h1.size (fun k hk => by have := hbase k hk; omega)) hOw
theorem addr_add0 (a : Addr) : a.add 0 = a := by unfold Addr.add; rw [if_pos rfl]
theorem crash_step {l : List S48} {i : Nat} {x : S48} (hx : l[i]? = some x) : l.drop i = x :: l.drop (i + 1) := by
  obtain ⟨h, rfl⟩ := List.getElem?_eq_some_iff.1 hx
  exact List.drop_eq_getElem_cons h
set_option maxHeartbeats 8000000 in
set_option maxRecDepth 100000 in
theorem disk_Crash.calls (k : Nat) (cap : Int) (A0 : Option Addr) (c0 : Nat) (l0 : List S48) (A1 : Option Addr) (c1 : Nat) (l1 : List Int) (r1 : Int) (r2 : List S48) (w : World) (hr0 : Kd.C k48 w A0 l0.length l0) (hc0 : l0.length ≤ c0) (hr1 : Kd.C (Kd.int .i64) w A1 l1.length l1) (hc1 : l1.length ≤ c1) (h : disk_Crash.f k cap l0 l1 = some (r1, r2)) :
    Calls Try.prog 27 #[.agg #[.int .i64 cap, .slice A0 l0.length c0], .slice A1 l1.length c1] w fun e w' => ∃ v1_ : Value, e = .returned (.agg #[.int .i64 r1, v1_]) ∧ Kd.V k48 48 w' w.heap.size (fun k_ => w.heap.size ≤ k_) v1_ r2 ∧ Below w.heap.size w w' := by
  unfold disk_Crash.f at h
  by_cases ho : ownOk l0 = true
  · rw [if_pos ho] at h
    have hown := ho
    simp only [ownOk, Bool.and_eq_true, decide_eq_true_eq, List.all_eq_true] at hown
    obtain ⟨hL, hD⟩ := hown
    have HLL := Aside0.mk (show l0.length * 48 ≤ 140737488355328 from hL)
    have HDD := Aside0.mk (show ∀ x ∈ l0, x.f1.length ≤ 140737488355328 from fun x hx => (hD x hx).1)
    have HR0 := Aside0.mk hr0
    have HR1 := Aside0.mk hr1
    have HC1 := Aside0.mk hc1
    have hu24 := Try.underlying24
    have hu48 := Try.underlying48
    obtain ⟨m, hm, h⟩ := Option.bind_eq_some_iff.mp h
    have HM := Aside0.mk hm
    clear ho hL hD hr0 hr1 hm hc1
    go_enter Try.func27, Try.ntmps27
    go_upto_region 1 with fail
    obtain ⟨b0, b2, bb⟩ := two_blocks w (.cells #[.int .i64 cap, .slice A0 l0.length c0] 24) (.cells #[.int .i64 0, .slice none 0 0] 24)
    generalize ((w.alloc (.cells #[.int .i64 cap, .slice A0 l0.length c0] 24)).alloc (.cells #[.int .i64 0, .slice none 0 0] 24)) = wb at *
    have HBB := Aside0.mk bb
    have BK0 := Aside0.mk b0
    have BK2 := Aside0.mk b2
    have HB2 := Aside0.mk (show w.heap.size ≤ w.heap.size + 1 by omega)
    generalize w.heap.size + 1 = B2 at *
    have c00 : wb.cell? ⟨w.heap.size, 0, none⟩ = some (.int .i64 cap) := (blk_cell b0 0).trans rfl
    have c01 : wb.cell? ⟨w.heap.size, 1, none⟩ = some (.slice A0 l0.length c0) := (blk_cell b0 1).trans rfl
    clear bb b0 b2
    go_upto_region 2 with (first | (go_at_call 43; (refine (own_calls cap A0 c0 l0 _ (Kd.C_below HR0.out HBB.out) hc0 HLL.out HDD.out).mono ?_); rintro e w1 ⟨v, fs, rfl, hR, hA, hb⟩; obtain ⟨Av, cv, ev⟩ := Kd.R_slice hR; subst ev; have HRV := Aside0.mk hR; have HAV := Aside0.mk hA; have HB01 := Aside0.mk hb; clear hR hA hb c00 c01))
    have hb := below_alloc HB01.out (.cells #[.int .i64 cap, .slice Av fs.length cv] 24)
    have BO := Aside0.mk (blk_new w1 (.cells #[.int .i64 cap, .slice Av fs.length cv] 24))
    have h1O := below_alloc (Below.refl w1.heap.size w1) (.cells #[.int .i64 cap, .slice Av fs.length cv] 24)
    generalize (w1.alloc (.cells #[.int .i64 cap, .slice Av fs.length cv] 24)) = wO at *
    have n1_ := Aside0.mk (Kd.R_below HRV.out h1O)
    have n2_ := Aside0.mk (HAV.out.below h1O)
    have n3_ := Aside0.mk (blk_below BK0.out hb)
    have n4_ := Aside0.mk (blk_below BK2.out hb)
    have n5_ := Aside0.mk (below_step HBB.out hb)
    have HBO := Aside0.mk (show B2 < wb.heap.size from blk_lt BK2.out)
    have HBO1 := Aside0.mk (show wb.heap.size ≤ w1.heap.size from HB01.out.size)
    have HSZ := Aside0.mk (below_size HBB.out)
    clear HRV HAV BK0 BK2 HBB h1O hb
    have HRV := n1_
    have HAV := n2_
    have BK0 := n3_
    have BK2 := n4_
    have HBB := n5_
    clear n1_ n2_ n3_ n4_ n5_
    generalize w1.heap.size = O at *
    have c00 : wO.cell? ⟨w.heap.size, 0, none⟩ = some (.int .i64 cap) := (blk_cell BK0.out 0).trans rfl
    have c01 : wO.cell? ⟨w.heap.size, 1, none⟩ = some (.slice A0 l0.length c0) := (blk_cell BK0.out 1).trans rfl
    cases m with
    | false =>
      rw [if_neg (by simp)] at h
      have h1 := Option.some.inj h
      injection h1 with h1 h2
      subst h1; subst h2
      clear h
      go_wp2_with (first | (go_at_call 18; (refine (disk_May.calls k cap A0 c0 l0 false _ (Kd.C_below HR0.out HBB.out) hc0 HM.out).mono ?_); rintro e w2 ⟨rfl, hb⟩; have BO2 := Aside0.mk (blk_below BO.out hb); have BK22 := Aside0.mk (blk_below BK2.out hb); have o0 : w2.cell? ⟨O, 0, none⟩ = some (.int .i64 cap) := (blk_cell BO2.out 0).trans rfl; have o1 : w2.cell? ⟨O, 1, none⟩ = some (.slice Av fs.length cv) := (blk_cell BO2.out 1).trans rfl; have e0 : w2.cell? ⟨B2, 0, none⟩ = some (.int .i64 0) := (blk_cell BK22.out 0).trans rfl; have e1 : w2.cell? ⟨B2, 1, none⟩ = some (.slice none 0 0) := (blk_cell BK22.out 1).trans rfl; have f0 := blk_frozen BK22.out 0; have f1 := blk_frozen BK22.out 1; have HB12 := Aside0.mk hb; clear hb))
      have hG := blk_set (blk_set BK22.out 0 (.int .i64 cap)) 1 (.slice Av fs.length cv)
      refine bodyPost_ret (results_c1 rfl _ _ B2 24 #[.int .i64 cap, .slice Av fs.length cv] (0, 0) _ rfl hG Try.underlying24 rfl (by kernel_rfl)) rfl ?_
      exact ⟨_, rfl, fin_V BK22.out (Kd.R_below HRV.out HB12.out) HSZ.out (HAV.out.below HB12.out) (fun k hk => ⟨Nat.le_trans HSZ.out hk.1, fun e => by have h1 := HBO.out; have h2 := hk.1; omega⟩) _ _, below_set (below_set (below_step HBB.out HB12.out) HB2.out) HB2.out⟩
    | true =>
      rw [if_pos rfl] at h
      have h1 := Option.some.inj h
      injection h1 with h1 h2
      subst h1; subst h2
      clear h HRV HAV
      go_upto_region 5 with (first | (go_at_call 18; (refine (disk_May.calls k cap A0 c0 l0 true _ (Kd.C_below HR0.out HBB.out) hc0 HM.out).mono ?_); rintro e w2 ⟨rfl, hb⟩; have BO2 := Aside0.mk (blk_below BO.out hb); have o1 : w2.cell? ⟨O, 1, none⟩ = some (.slice Av fs.length cv) := (blk_cell BO2.out 1).trans rfl; have fo1 := blk_frozen BO2.out 1; have HB12 := Aside0.mk hb; clear hb))
      have hO0 : w.heap.size ≠ O := by have h1 := HB2.out; have h2 := HBO.out; have h3 := HBO1.out; omega
      have hO2 : B2 ≠ O := by have h2 := HBO.out; have h3 := HBO1.out; omega
      have BOn := Aside0.mk (show (w2.setCell ⟨O, 1, none⟩ (.slice none 0 0)).heap[O]? = some (.cells #[.int .i64 cap, .slice none 0 0] 24 (0, 0)) from blk_set BO2.out 1 _)
      have BK0n := Aside0.mk (blk_far (blk_below BK0.out HB12.out) (p := ⟨O, 1, none⟩) hO0 (.slice none 0 0))
      have BK2n := Aside0.mk (blk_far (blk_below BK2.out HB12.out) (p := ⟨O, 1, none⟩) hO2 (.slice none 0 0))
      have HBn := Aside0.mk (below_set (j := 1) (v := .slice none 0 0) (below_step HBB.out HB12.out) (show w.heap.size ≤ O by have h1 := HB2.out; have h2 := HBO.out; have h3 := HBO1.out; omega))
      generalize (w2.setCell ⟨O, 1, none⟩ (.slice none 0 0)) = wn at *
      clear BO BO2 BK0 BK2 HBB HB12 o1 fo1 c00 c01
      have c00 : wn.cell? ⟨w.heap.size, 0, none⟩ = some (.int .i64 cap) := (blk_cell BK0n.out 0).trans rfl
      have c01 : wn.cell? ⟨w.heap.size, 1, none⟩ = some (.slice A0 l0.length c0) := (blk_cell BK0n.out 1).trans rfl
      have HO2 := Aside0.mk hO2
      clear hO0 hO2
      have hfld := fun (W : World) (A : Option Addr) (n c : Nat) => run_field_files W (.int .i64 cap) A n c
      go_upto_block 0 with (first | (go_at_call 43; (refine (own_calls cap A0 c0 l0 _ (Kd.C_below HR0.out HBn.out) hc0 HLL.out HDD.out).mono ?_); rintro e w3 ⟨v2, fs2, rfl, hR, hA, hb⟩; obtain ⟨Av2, cv2, ev⟩ := Kd.R_slice hR; subst ev; have BO3 := Aside0.mk (blk_below BOn.out hb); have BK23 := Aside0.mk (blk_below BK2n.out hb); have HRV := Aside0.mk (Kd.R_types hR BO3.out (fun q hq => by rw [kF_E hq]; decide)); have HAV := Aside0.mk hA.bound; have HB3 := Aside0.mk (below_step HBn.out hb); have HOn := Aside0.mk (show O < wn.heap.size from blk_lt BOn.out); have HN3 := Aside0.mk hb.size; have HWN := Aside0.mk (below_size HBn.out); clear hR hA hb c00 c01))
      have hfl : fs2.length = l0.length := HAV.out.1
      have HFL := Aside0.mk hfl
      have hl1 : l1.length ≤ 9223372036854775807 := HR1.out.2.1
      have hf2 : fs2.length ≤ 9223372036854775807 := by have := HLL.out; omega
      clear hfl
      have HF2 := Aside0.mk hf2
      go_wp2
      go_loopg [1, 20] fs2.length (fun kq v1 v20 w' => ∃ (i : Nat) (gs : List SF) (ys : List S48) (v : Value) (p : List Int) (Ap : Option Addr) (cp : Nat), v20 = .int .i64 (i : Int) ∧ v1 = .slice Ap p.length cp ∧ Aside0 (fs2.length ≤ kq + i) ∧ Aside0 (i ≤ fs2.length) ∧ Aside0 (p.length ≤ cp) ∧ Aside0 (Kd.C (Kd.int .i64) w Ap p.length p) ∧ Aside0 (ys ++ crashL (l0.drop i) p = crashL l0 l1) ∧ Aside0 (ys.length ≤ i) ∧ Aside0 (w'.heap[O]? = some (.cells #[.int .i64 cap, v] 24 (0, 0))) ∧ Aside0 (Kd.R kF 48 w' w3.heap.size (fun _ => True) v gs) ∧ Aside0 (AllV w' (fun k => (wn.heap.size ≤ k ∧ some k ≠ (Value.slice Av2 fs2.length cv2).ownBlock) ∧ k < w3.heap.size) gs ys) ∧ Aside0 (Kept w3 w' (fun k => k = O)) ∧ Aside0 (Below w.heap.size w w'))
      case atStart => exact ⟨0, [], [], .slice none 0 0, l1, A1, c1, rfl, rfl, ⟨Nat.le_refl _⟩, ⟨Nat.zero_le _⟩, HC1, HR1, ⟨rfl⟩, ⟨Nat.le_refl _⟩, BO3, ⟨Kd.R_nil _ _ _ _ _⟩, ⟨AllV.nil _ _⟩, ⟨Kept.refl _ _⟩, HB3⟩
      case round =>
        obtain ⟨i, gs, ys, v, p, Ap, cp, rfl, rfl, HK, HI, HCP, HCA, HEQ, HYL, BO, HROW, HALL, HKO, HB⟩ := hrel
        obtain ⟨wo, rfl⟩ : ∃ wo : World, wo = wr := ⟨_, rfl⟩
        obtain ⟨Av, cv, ev⟩ := Kd.R_slice HROW.out
        subst ev
        by_cases hlt : i < fs2.length
        · obtain ⟨kj, rfl⟩ : ∃ m, gk = m + 1 := ⟨gk - 1, by have := HK.out; omega⟩
          have d1 : decide ((i : Int) < (fs2.length : Int)) = true := decide_eq_true (by omega)
          have HR2 := Aside0.mk (Kd.R_step HRV.out (fun k hk hl => HKO.out.2 k hl hk.2))
          obtain ⟨_, _, hCF⟩ := Kd.R_reads' HR2.out
          obtain ⟨ad, e1, g0, g1, g2⟩ := at_TF hCF (i : Int) (by omega) (by omega)
          subst e1
          rw [Int.toNat_natCast] at g0 g1 g2
          obtain ⟨x, hxi⟩ : ∃ x, l0[i]? = some x := ⟨_, List.getElem?_eq_getElem (by have := HFL.out; omega)⟩
          have hbe := HAV.out.2 i (rd_TF fs2 (i : Int)) x (by unfold rd_TF; rw [Int.toNat_natCast, List.getD_eq_getElem?_getD, List.getElem?_eq_getElem hlt]; rfl) hxi
          generalize rd_TF fs2 (i : Int) = s at g0 g1 g2 hbe
          obtain ⟨s0, ⟨B1, n1, m1⟩, s2⟩ := s
          obtain ⟨x0, xd, x2⟩ := x
          obtain ⟨q0, q2, hV⟩ := hbe
          replace q0 : s0 = x0 := q0
          replace q2 : s2 = x2 := q2
          subst q0; subst q2
          obtain ⟨q1, q3, _⟩ := Kd.V_reads' hV
          subst q1
          replace g0 : wo.cell? (ad.add (i * 3)) = some (.string s0) := g0
          replace g1 : wo.cell? ⟨(ad.add (i * 3)).block, (ad.add (i * 3)).off + 1, none⟩ = some (.slice B1 xd.length m1) := g1
          replace g2 : wo.cell? ⟨(ad.add (i * 3)).block, (ad.add (i * 3)).off + 2, none⟩ = some (.bool s2) := g2
          have HVX := Aside0.mk (Kd.V_step (w1 := wo) hV (fun k hk hl => HKO.out.2 k hl (fun e => by have h1 := HOn.out; have h2 := hk.1.1; omega)))
          have HQ3 := Aside0.mk q3
          have HEQ2 := Aside0.mk (show ys ++ crashL (⟨s0, xd, s2⟩ :: l0.drop (i + 1)) p = crashL l0 l1 by rw [← crash_step hxi]; exact HEQ.out)
          clear hxi hCF hV q3
          go_upto_region 8 with fail
          have BF := Aside0.mk (blk_new wo (.cells #[.string s0, .slice B1 xd.length m1, .bool s2] 48))
          have HBF := Aside0.mk (below_alloc (Below.refl wo.heap.size wo) (.cells #[.string s0, .slice B1 xd.length m1, .bool s2] 48))
          have BOf := Aside0.mk (blk_alloc BO.out (.cells #[.string s0, .slice B1 xd.length m1, .bool s2] 48))
          generalize (wo.alloc (.cells #[.string s0, .slice B1 xd.length m1, .bool s2] 48)) = wf at *
          have x0_ : wf.cell? ⟨wo.heap.size, 0, none⟩ = some (.string s0) := (blk_cell BF.out 0).trans rfl
          have x1_ : wf.cell? ⟨wo.heap.size, 1, none⟩ = some (.slice B1 xd.length m1) := (blk_cell BF.out 1).trans rfl
          have x2_ : wf.cell? ⟨wo.heap.size, 2, none⟩ = some (.bool s2) := (blk_cell BF.out 2).trans rfl
          have y1_ := blk_frozen BF.out 1
          have y2_ := blk_frozen BF.out 2
          have HFO := Aside0.mk (show O < wo.heap.size from blk_lt BO.out)
          clear g0 g1 g2
          have HNEO := Aside0.mk (Kd.R_ne HROW.out BO.out (by decide))
          have HFW := Aside0.mk (show (gs.length + 1) * 48 ≤ 140737488355328 by have h1 := HALL.out.1; have h2 := HYL.out; have h3 := HLL.out; have h4 := HFL.out; omega)
          have HBFW := Aside0.mk (show w3.heap.size ≤ wf.heap.size from Nat.le_trans HKO.out.1 HBF.out.size)
          cases s2 with
          | true =>
            have HE3 := Aside0.mk (show (ys ++ [⟨s0, xd, true⟩]) ++ crashL (l0.drop (i + 1)) p = crashL l0 l1 by rw [List.append_assoc]; exact HEQ2.out)
            have HRX := Aside0.mk (Kd.R_below HROW.out HBF.out)
            have o1 : wf.cell? ⟨O, 1, none⟩ = some (.slice Av gs.length cv) := (blk_cell BOf.out 1).trans rfl
            go_wp2_with (first | ((with_reducible refine gate_builtin (b := .append) (xs := #[.tmp 51, .tmp 53]) rfl ?_); at_builtin; refine Kd.R_append kF (w0 := wf) (W := wf) w3.heap.size rfl (.tmp 51) (.tmp 53) 22 48 (.agg #[.string ⟨#[]⟩, .slice none 0 0, .bool false]) 48 rfl Try.underlying22 infoF rfl (by decide) (by decide) (.slice Av gs.length cv) gs (⟨s0, (B1, xd.length, m1), true⟩ : SF) [.string s0, .slice B1 xd.length m1, .bool true] (fun _ => True) (fun _ => False) rfl rfl (kF_mkM _ _ _ (⟨s0, (B1, xd.length, m1), true⟩ : SF)) (fun _ h => h.elim) (fun _ _ => trivial) HRX.out (Below.refl _ _) HBFW.out HFW.out ?_; intro v1 w4 hr1 hb1 hg1 hat1; obtain ⟨b1, cap1, ev1, _, _, _⟩ := Kd.R_form hr1 (by simp); rw [List.length_append, List.length_singleton] at ev1; subst ev1; have HR4 := Aside0.mk hr1; have HG4 := Aside0.mk hg1; have HO4 := Aside0.mk (blk_grown BOf.out hg1 HNEO.out); have o1' : w4.cell? ⟨O, 1, none⟩ = some (.slice Av gs.length cv) := (blk_cell HO4.out 1).trans rfl; have fo1 := blk_frozen HO4.out 1; clear hr1 hb1 hg1 hat1 o1))
            obtain ⟨z1, z2, z3, z4, z5⟩ := crash_more (y := (⟨s0, xd, true⟩ : S48)) (w := w) (w3 := w3) (Nat.lt_of_lt_of_le HOn.out HN3.out) (show w.heap.size ≤ O by have h1 := HB2.out; have h2 := HBO.out; have h3 := HBO1.out; omega) (fun k hk => ⟨hk.2, fun e => by have h1 := HOn.out; have h2 := hk.1.1; omega⟩) HROW.out HALL.out (show BearsV wo _ (⟨s0, (B1, xd.length, m1), true⟩ : SF) (⟨s0, xd, true⟩ : S48) from ⟨rfl, rfl, HVX.out⟩) HKO.out HB.out HBF.out BOf.out HR4.out HG4.out HNEO.out
            have Z1 := Aside0.mk z1
            have Z2 := Aside0.mk z2
            have Z3 := Aside0.mk z3
            have Z4 := Aside0.mk z4
            have Z5 := Aside0.mk z5
            clear z1 z2 z3 z4 z5
            go_roundg kj
            case measure => omega
            case rel => exact ⟨i + 1, _, _, _, p, Ap, cp, congrArg (Value.int .i64) (by omega), rfl, ⟨by have := HK.out; omega⟩, ⟨by omega⟩, HCP, HCA, HE3, ⟨by rw [List.length_append, List.length_singleton]; have := HYL.out; omega⟩, Z1, Z2, Z3, Z4, Z5⟩
          | false =>
            cases p with
            | nil =>
              have HE3 := Aside0.mk (show ys ++ crashL (l0.drop (i + 1)) [] = crashL l0 l1 from HEQ2.out)
              go_wp2
              go_roundg kj
              case measure => omega
              case rel => exact ⟨i + 1, gs, ys, _, [], Ap, cp, congrArg (Value.int .i64) (by omega), rfl, ⟨by have := HK.out; omega⟩, ⟨by omega⟩, HCP, HCA, HE3, ⟨by have := HYL.out; omega⟩, BOf, ⟨Kd.R_below HROW.out HBF.out⟩, ⟨HALL.out.below HBF.out⟩, ⟨HKO.out.below HBF.out⟩, ⟨below_step HB.out HBF.out⟩⟩
            | cons n q =>
              obtain ⟨ad2, e2, _⟩ := HCA.out.2.2 (by simp)
              subst e2
              have hqc : q.length + 1 ≤ cp := HCP.out
              have hfi : w.cell? (ad2.add 0) = some (.int .i64 n) := Kd.foot_int HCA.out 0 (by decide) (by rw [List.length_cons]; omega)
              have ha0 : ad2.add 0 = ad2 := addr_add0 ad2
              have h1q : (1 : Int) ≤ (q.length : Int) + 1 := by omega
              have pk : wf.drew.cell? ad2 = some (.int .i64 n) := pw_cell_below (below_step HB.out HBF.out) (by rw [← ha0]; exact hfi)
              have dq : decide (0 < ((n :: q).length : Int)) = true := decide_eq_true (by rw [List.length_cons]; omega)
              have hdr := Kd.C_drop (m := 1) HCA.out (by rw [List.length_cons]; omega) HCP.out
              have HQC := Aside0.mk hqc
              clear hfi ha0
              by_cases hcp : cp = 1
              · have HCAq := Aside0.mk (show Kd.C (Kd.int .i64) w (some ad2) q.length q from by rw [if_pos hcp] at hdr; exact hdr)
                subst hcp
                obtain rfl : q = [] := List.eq_nil_of_length_eq_zero (by omega)
                have HCPq := Aside0.mk (show ([] : List Int).length ≤ 0 by first | omega | exact Nat.le_refl _)
                clear hdr
                go_wp2
                refine start_ (n := 7) (S := fun w' => w'.cell? ad2 = some (.int .i64 n)) (ds := []) #[false, false, false, false, false, false, false] (by kernel_rfl) rfl rfl (pk) (fun hHeld => ?_)
                refine pure_ (i := 0) (N := some 30) (v := ?_) (a' := ?_) #[true, false, false, false, false, false, false] rfl rfl (by kernel_rfl) (fun _ _ _ h => h) (Or.inl ⟨by rfl, ?_⟩) ?_ ?_
                rotate_left
                · intro w'
                  go_simp
                  with_reducible rfl
                rotate_left
                · simp only [Act.put, List.setIfInBounds_toArray, List.set_cons_zero, List.set_cons_succ, i64_w, i32_w]
                  rfl
                refine pure_ (i := 1) (N := some 31) (v := ?_) (a' := ?_) #[true, true, false, false, false, false, false] rfl rfl (by kernel_rfl) (fun _ _ _ h => h) (Or.inl ⟨by rfl, ?_⟩) ?_ ?_
                rotate_left
                · intro w'
                  go_simp
                  with_reducible rfl
                rotate_left
                · simp only [Act.put, List.setIfInBounds_toArray, List.set_cons_zero, List.set_cons_succ, i64_w, i32_w]
                  rfl
                refine pure_ (i := 3) (N := some 33) (v := ?_) (a' := ?_) #[true, true, false, true, false, false, false] rfl rfl (by kernel_rfl) (fun _ _ _ h => h) (Or.inl ⟨by rfl, ?_⟩) ?_ ?_
                rotate_left
                · intro w'
                  go_simp
                  with_reducible rfl
                rotate_left
                · simp only [Act.put, List.setIfInBounds_toArray, List.set_cons_zero, List.set_cons_succ, i64_w, i32_w]
                  rfl
                refine pure_ (i := 4) (N := some 34) (v := ?_) (a' := ?_) #[true, true, false, true, true, false, false] rfl rfl (by kernel_rfl) (fun _ _ _ h => h) (Or.inl ⟨by rfl, ?_⟩) ?_ ?_
                rotate_left
                · intro w'
                  go_simp
                  with_reducible rfl
                rotate_left
                · simp only [Act.put, List.setIfInBounds_toArray, List.set_cons_zero, List.set_cons_succ, i64_w, i32_w]
                  rfl
                refine take_ (i := 2) (N := some 32) (v := ?_) (a' := ?_) #[true, true, true, true, true, false, false] rfl rfl (by kernel_rfl) (fun _ _ _ h => h) (Or.inl ⟨by rfl, ?_⟩) hHeld ?_ ?_
                rotate_left
                · intro w' s0
                  go_simp
                  with_reducible rfl
                rotate_left
                · simp only [Act.put, List.setIfInBounds_toArray, List.set_cons_zero, List.set_cons_succ, i64_w, i32_w]
                  rfl
                refine pure_ (i := 5) (N := some 8) (v := ?_) (a' := ?_) #[true, true, true, true, true, true, false] rfl rfl (by kernel_rfl) (fun _ _ _ h => h) (Or.inl ⟨by rfl, ?_⟩) ?_ ?_
                rotate_left
                · intro w'
                  go_simp
                  with_reducible rfl
                rotate_left
                · simp only [Act.put, List.setIfInBounds_toArray, List.set_cons_zero, List.set_cons_succ, i64_w, i32_w]
                  rfl
                refine pure_ (i := 6) (N := some 1) (v := ?_) (a' := ?_) #[true, true, true, true, true, true, true] rfl rfl (by kernel_rfl) (fun _ _ _ h => h) (Or.inl ⟨by rfl, ?_⟩) ?_ ?_
                rotate_left
                · intro w'
                  go_simp
                  with_reducible rfl
                rotate_left
                · simp only [Act.put, List.setIfInBounds_toArray, List.set_cons_zero, List.set_cons_succ, i64_w, i32_w]
                  rfl
                refine done_ (by kernel_rfl) ?_
                clear pk
                have HBF2 := Aside0.mk (below_drew HBF.out)
                by_cases hn0 : n < 0
                · have dn : decide (n < 0) = true := decide_eq_true hn0
                  have HE3 := Aside0.mk (show ys ++ crashL (l0.drop (i + 1)) ([] : List Int) = crashL l0 l1 by have h1 := HEQ2.out; rw [crashL, if_neg (by simp)] at h1; rw [if_pos hn0] at h1; exact h1)
                  go_wp2
                  go_roundg kj
                  case measure => omega
                  case rel => exact ⟨i + 1, gs, ys, _, _, (some ad2), 0, congrArg (Value.int .i64) (by omega), rfl, ⟨by have := HK.out; omega⟩, ⟨by omega⟩, HCPq, HCAq, HE3, ⟨by have := HYL.out; omega⟩, ⟨blk_drew BOf.out⟩, ⟨Kd.R_below HROW.out HBF2.out⟩, ⟨HALL.out.below HBF2.out⟩, ⟨HKO.out.below HBF2.out⟩, ⟨below_step HB.out HBF2.out⟩⟩
                · have dn : decide (n < 0) = false := decide_eq_false hn0
                  have hE := HEQ2.out
                  rw [crashL, if_neg (by simp)] at hE
                  simp only [if_neg hn0] at hE
                  obtain ⟨nq, rfl⟩ := Int.eq_ofNat_of_zero_le (show 0 ≤ n by omega)
                  rw [Int.toNat_natCast] at hE
                  by_cases hbig : xd.length < nq
                  · have hb2 : (xd.length : Int) < (nq : Int) := by omega
                    rw [List.take_of_length_le (by omega)] at hE
                    have HE3 := Aside0.mk (show (ys ++ [⟨s0, xd, true⟩]) ++ crashL (l0.drop (i + 1)) ([] : List Int) = crashL l0 l1 by rw [List.append_assoc]; exact hE)
                    have HVY := Aside0.mk (show Kd.V (Kd.int .u8) 5 wo 0 _ (.slice B1 xd.length xd.length) xd from Kd.V_mk (Nat.le_refl _) (Kd.V_at HVX.out).2.2)
                    clear hE hbig
                    have hxm : xd.length ≤ m1 := HQ3.out
                    go_upto_region 14 with fail
                    have BFx := Aside0.mk (show ((wf.setCell ⟨wo.heap.size, 1, none⟩ (.slice B1 xd.length xd.length)).setCell ⟨wo.heap.size, 2, none⟩ (.bool true)).drew.heap[wo.heap.size]? = some (.cells #[.string s0, .slice B1 xd.length xd.length, .bool true] 48 (0, 0)) from blk_set (blk_set BF.out 1 _) 2 _)
                    have BOx := Aside0.mk (show ((wf.setCell ⟨wo.heap.size, 1, none⟩ (.slice B1 xd.length xd.length)).setCell ⟨wo.heap.size, 2, none⟩ (.bool true)).drew.heap[O]? = some (.cells #[.int .i64 cap, .slice Av gs.length cv] 24 (0, 0)) from blk_far (blk_far BOf.out (p := ⟨wo.heap.size, 1, none⟩) (Nat.ne_of_lt HFO.out) _) (p := ⟨wo.heap.size, 2, none⟩) (Nat.ne_of_lt HFO.out) _)
                    have HBX := Aside0.mk (show Below wo.heap.size wo ((wf.setCell ⟨wo.heap.size, 1, none⟩ (.slice B1 xd.length xd.length)).setCell ⟨wo.heap.size, 2, none⟩ (.bool true)).drew from below_drew (below_set (below_set HBF.out (Nat.le_refl _)) (Nat.le_refl _)))
                    generalize ((wf.setCell ⟨wo.heap.size, 1, none⟩ (.slice B1 xd.length xd.length)).setCell ⟨wo.heap.size, 2, none⟩ (.bool true)).drew = wx at *
                    have HRX := Aside0.mk (Kd.R_below HROW.out HBX.out)
                    have HBXW := Aside0.mk (show w3.heap.size ≤ wx.heap.size from Nat.le_trans HKO.out.1 HBX.out.size)
                    have o1 : wx.cell? ⟨O, 1, none⟩ = some (.slice Av gs.length cv) := (blk_cell BOx.out 1).trans rfl
                    have z0_ : wx.cell? ⟨wo.heap.size, 0, none⟩ = some (.string s0) := (blk_cell BFx.out 0).trans rfl
                    have z1_ : wx.cell? ⟨wo.heap.size, 1, none⟩ = some (.slice B1 xd.length xd.length) := (blk_cell BFx.out 1).trans rfl
                    have z2_ : wx.cell? ⟨wo.heap.size, 2, none⟩ = some (.bool true) := (blk_cell BFx.out 2).trans rfl
                    clear x0_ x1_ x2_ y1_ y2_
                    go_wp2_with (first | ((with_reducible refine gate_builtin (b := .append) (xs := #[.tmp 51, .tmp 53]) rfl ?_); at_builtin; refine Kd.R_append kF (w0 := wx) (W := wx) w3.heap.size rfl (.tmp 51) (.tmp 53) 22 48 (.agg #[.string ⟨#[]⟩, .slice none 0 0, .bool false]) 48 rfl Try.underlying22 infoF rfl (by decide) (by decide) (.slice Av gs.length cv) gs (⟨s0, (B1, xd.length, xd.length), true⟩ : SF) [.string s0, .slice B1 xd.length xd.length, .bool true] (fun _ => True) (fun _ => False) rfl rfl (kF_mkM _ _ _ (⟨s0, (B1, xd.length, xd.length), true⟩ : SF)) (fun _ h => h.elim) (fun _ _ => trivial) HRX.out (Below.refl _ _) HBXW.out HFW.out ?_; intro v1 w4 hr1 hb1 hg1 hat1; obtain ⟨b1, cap1, ev1, _, _, _⟩ := Kd.R_form hr1 (by simp); rw [List.length_append, List.length_singleton] at ev1; subst ev1; have HR4 := Aside0.mk hr1; have HG4 := Aside0.mk hg1; have HO4 := Aside0.mk (blk_grown BOx.out hg1 HNEO.out); have o1' : w4.cell? ⟨O, 1, none⟩ = some (.slice Av gs.length cv) := (blk_cell HO4.out 1).trans rfl; have fo1 := blk_frozen HO4.out 1; clear hr1 hb1 hg1 hat1 o1))
                    obtain ⟨z1, z2, z3, z4, z5⟩ := crash_more (y := (⟨s0, xd, true⟩ : S48)) (w := w) (w3 := w3) (Nat.lt_of_lt_of_le HOn.out HN3.out) (show w.heap.size ≤ O by have h1 := HB2.out; have h2 := HBO.out; have h3 := HBO1.out; omega) (fun k hk => ⟨hk.2, fun e => by have h1 := HOn.out; have h2 := hk.1.1; omega⟩) HROW.out HALL.out (show BearsV wo _ (⟨s0, (B1, xd.length, xd.length), true⟩ : SF) (⟨s0, xd, true⟩ : S48) from ⟨rfl, rfl, HVY.out⟩) HKO.out HB.out HBX.out BOx.out HR4.out HG4.out HNEO.out
                    have Z1 := Aside0.mk z1
                    have Z2 := Aside0.mk z2
                    have Z3 := Aside0.mk z3
                    have Z4 := Aside0.mk z4
                    have Z5 := Aside0.mk z5
                    clear z1 z2 z3 z4 z5
                    go_roundg kj
                    case measure => omega
                    case rel => exact ⟨i + 1, _, _, _, [], (some ad2), 0, congrArg (Value.int .i64) (by omega), rfl, ⟨by have := HK.out; omega⟩, ⟨by omega⟩, HCPq, HCAq, HE3, ⟨by rw [List.length_append, List.length_singleton]; have := HYL.out; omega⟩, Z1, Z2, Z3, Z4, Z5⟩
                  · have hb2 : ¬ (xd.length : Int) < (nq : Int) := by omega
                    have HE3 := Aside0.mk (show (ys ++ [⟨s0, (xd.take nq), true⟩]) ++ crashL (l0.drop (i + 1)) ([] : List Int) = crashL l0 l1 by rw [List.append_assoc]; exact hE)
                    have hnle : nq ≤ xd.length := by omega
                    have HVY := Aside0.mk (show Kd.V (Kd.int .u8) 5 wo 0 _ (.slice B1 nq xd.length) (xd.take nq) from by have h1 := Kd.V_mk (e := 5) (base := 0) (c := xd.length) (by rw [List.length_take]; omega) (Kd.F_take (Kd.V_at HVX.out).2.2 hnle); rw [List.length_take, Nat.min_eq_left hnle] at h1; exact h1)
                    clear hE hbig
                    have hxm : xd.length ≤ m1 := HQ3.out
                    go_upto_region 14 with fail
                    have BFx := Aside0.mk (show ((wf.setCell ⟨wo.heap.size, 1, none⟩ (.slice B1 nq xd.length)).setCell ⟨wo.heap.size, 2, none⟩ (.bool true)).drew.heap[wo.heap.size]? = some (.cells #[.string s0, .slice B1 nq xd.length, .bool true] 48 (0, 0)) from blk_set (blk_set BF.out 1 _) 2 _)
                    have BOx := Aside0.mk (show ((wf.setCell ⟨wo.heap.size, 1, none⟩ (.slice B1 nq xd.length)).setCell ⟨wo.heap.size, 2, none⟩ (.bool true)).drew.heap[O]? = some (.cells #[.int .i64 cap, .slice Av gs.length cv] 24 (0, 0)) from blk_far (blk_far BOf.out (p := ⟨wo.heap.size, 1, none⟩) (Nat.ne_of_lt HFO.out) _) (p := ⟨wo.heap.size, 2, none⟩) (Nat.ne_of_lt HFO.out) _)
                    have HBX := Aside0.mk (show Below wo.heap.size wo ((wf.setCell ⟨wo.heap.size, 1, none⟩ (.slice B1 nq xd.length)).setCell ⟨wo.heap.size, 2, none⟩ (.bool true)).drew from below_drew (below_set (below_set HBF.out (Nat.le_refl _)) (Nat.le_refl _)))
                    generalize ((wf.setCell ⟨wo.heap.size, 1, none⟩ (.slice B1 nq xd.length)).setCell ⟨wo.heap.size, 2, none⟩ (.bool true)).drew = wx at *
                    have HRX := Aside0.mk (Kd.R_below HROW.out HBX.out)
                    have HBXW := Aside0.mk (show w3.heap.size ≤ wx.heap.size from Nat.le_trans HKO.out.1 HBX.out.size)
                    have o1 : wx.cell? ⟨O, 1, none⟩ = some (.slice Av gs.length cv) := (blk_cell BOx.out 1).trans rfl
                    have z0_ : wx.cell? ⟨wo.heap.size, 0, none⟩ = some (.string s0) := (blk_cell BFx.out 0).trans rfl
                    have z1_ : wx.cell? ⟨wo.heap.size, 1, none⟩ = some (.slice B1 nq xd.length) := (blk_cell BFx.out 1).trans rfl
                    have z2_ : wx.cell? ⟨wo.heap.size, 2, none⟩ = some (.bool true) := (blk_cell BFx.out 2).trans rfl
                    clear x0_ x1_ x2_ y1_ y2_
                    go_wp2_with (first | ((with_reducible refine gate_builtin (b := .append) (xs := #[.tmp 51, .tmp 53]) rfl ?_); at_builtin; refine Kd.R_append kF (w0 := wx) (W := wx) w3.heap.size rfl (.tmp 51) (.tmp 53) 22 48 (.agg #[.string ⟨#[]⟩, .slice none 0 0, .bool false]) 48 rfl Try.underlying22 infoF rfl (by decide) (by decide) (.slice Av gs.length cv) gs (⟨s0, (B1, nq, xd.length), true⟩ : SF) [.string s0, .slice B1 nq xd.length, .bool true] (fun _ => True) (fun _ => False) rfl rfl (kF_mkM _ _ _ (⟨s0, (B1, nq, xd.length), true⟩ : SF)) (fun _ h => h.elim) (fun _ _ => trivial) HRX.out (Below.refl _ _) HBXW.out HFW.out ?_; intro v1 w4 hr1 hb1 hg1 hat1; obtain ⟨b1, cap1, ev1, _, _, _⟩ := Kd.R_form hr1 (by simp); rw [List.length_append, List.length_singleton] at ev1; subst ev1; have HR4 := Aside0.mk hr1; have HG4 := Aside0.mk hg1; have HO4 := Aside0.mk (blk_grown BOx.out hg1 HNEO.out); have o1' : w4.cell? ⟨O, 1, none⟩ = some (.slice Av gs.length cv) := (blk_cell HO4.out 1).trans rfl; have fo1 := blk_frozen HO4.out 1; clear hr1 hb1 hg1 hat1 o1))
                    obtain ⟨z1, z2, z3, z4, z5⟩ := crash_more (y := (⟨s0, (xd.take nq), true⟩ : S48)) (w := w) (w3 := w3) (Nat.lt_of_lt_of_le HOn.out HN3.out) (show w.heap.size ≤ O by have h1 := HB2.out; have h2 := HBO.out; have h3 := HBO1.out; omega) (fun k hk => ⟨hk.2, fun e => by have h1 := HOn.out; have h2 := hk.1.1; omega⟩) HROW.out HALL.out (show BearsV wo _ (⟨s0, (B1, nq, xd.length), true⟩ : SF) (⟨s0, (xd.take nq), true⟩ : S48) from ⟨rfl, rfl, HVY.out⟩) HKO.out HB.out HBX.out BOx.out HR4.out HG4.out HNEO.out
                    have Z1 := Aside0.mk z1
                    have Z2 := Aside0.mk z2
                    have Z3 := Aside0.mk z3
                    have Z4 := Aside0.mk z4
                    have Z5 := Aside0.mk z5
                    clear z1 z2 z3 z4 z5
                    go_roundg kj
                    case measure => omega
                    case rel => exact ⟨i + 1, _, _, _, [], (some ad2), 0, congrArg (Value.int .i64) (by omega), rfl, ⟨by have := HK.out; omega⟩, ⟨by omega⟩, HCPq, HCAq, HE3, ⟨by rw [List.length_append, List.length_singleton]; have := HYL.out; omega⟩, Z1, Z2, Z3, Z4, Z5⟩
              · have HCAq := Aside0.mk (show Kd.C (Kd.int .i64) w (some ⟨ad2.block, ad2.off + 1, none⟩) q.length q from by rw [if_neg hcp] at hdr; exact hdr)
                have HCPq := Aside0.mk (show q.length ≤ (cp - 1) by first | omega | exact Nat.le_refl _)
                clear hdr
                go_wp2
                refine start_ (n := 7) (S := fun w' => w'.cell? ad2 = some (.int .i64 n)) (ds := []) #[false, false, false, false, false, false, false] (by kernel_rfl) rfl rfl (pk) (fun hHeld => ?_)
                refine pure_ (i := 0) (N := some 30) (v := ?_) (a' := ?_) #[true, false, false, false, false, false, false] rfl rfl (by kernel_rfl) (fun _ _ _ h => h) (Or.inl ⟨by rfl, ?_⟩) ?_ ?_
                rotate_left
                · intro w'
                  go_simp
                  with_reducible rfl
                rotate_left
                · simp only [Act.put, List.setIfInBounds_toArray, List.set_cons_zero, List.set_cons_succ, i64_w, i32_w]
                  rfl
                refine pure_ (i := 1) (N := some 31) (v := ?_) (a' := ?_) #[true, true, false, false, false, false, false] rfl rfl (by kernel_rfl) (fun _ _ _ h => h) (Or.inl ⟨by rfl, ?_⟩) ?_ ?_
                rotate_left
                · intro w'
                  go_simp
                  with_reducible rfl
                rotate_left
                · simp only [Act.put, List.setIfInBounds_toArray, List.set_cons_zero, List.set_cons_succ, i64_w, i32_w]
                  rfl
                refine pure_ (i := 3) (N := some 33) (v := ?_) (a' := ?_) #[true, true, false, true, false, false, false] rfl rfl (by kernel_rfl) (fun _ _ _ h => h) (Or.inl ⟨by rfl, ?_⟩) ?_ ?_
                rotate_left
                · intro w'
                  go_simp
                  with_reducible rfl
                rotate_left
                · simp only [Act.put, List.setIfInBounds_toArray, List.set_cons_zero, List.set_cons_succ, i64_w, i32_w]
                  rfl
                refine pure_ (i := 4) (N := some 34) (v := ?_) (a' := ?_) #[true, true, false, true, true, false, false] rfl rfl (by kernel_rfl) (fun _ _ _ h => h) (Or.inl ⟨by rfl, ?_⟩) ?_ ?_
                rotate_left
                · intro w'
                  go_simp
                  with_reducible rfl
                rotate_left
                · simp only [Act.put, List.setIfInBounds_toArray, List.set_cons_zero, List.set_cons_succ, i64_w, i32_w]
                  rfl
                refine take_ (i := 2) (N := some 32) (v := ?_) (a' := ?_) #[true, true, true, true, true, false, false] rfl rfl (by kernel_rfl) (fun _ _ _ h => h) (Or.inl ⟨by rfl, ?_⟩) hHeld ?_ ?_
                rotate_left
                · intro w' s0
                  go_simp
                  with_reducible rfl
                rotate_left
                · simp only [Act.put, List.setIfInBounds_toArray, List.set_cons_zero, List.set_cons_succ, i64_w, i32_w]
                  rfl
                refine pure_ (i := 5) (N := some 8) (v := ?_) (a' := ?_) #[true, true, true, true, true, true, false] rfl rfl (by kernel_rfl) (fun _ _ _ h => h) (Or.inl ⟨by rfl, ?_⟩) ?_ ?_
                rotate_left
                · intro w'
                  go_simp
                  with_reducible rfl
                rotate_left
                · simp only [Act.put, List.setIfInBounds_toArray, List.set_cons_zero, List.set_cons_succ, i64_w, i32_w]
                  rfl
                refine pure_ (i := 6) (N := some 1) (v := ?_) (a' := ?_) #[true, true, true, true, true, true, true] rfl rfl (by kernel_rfl) (fun _ _ _ h => h) (Or.inl ⟨by rfl, ?_⟩) ?_ ?_
                rotate_left
                · intro w'
                  go_simp
                  with_reducible rfl
                rotate_left
                · simp only [Act.put, List.setIfInBounds_toArray, List.set_cons_zero, List.set_cons_succ, i64_w, i32_w]
                  rfl
                refine done_ (by kernel_rfl) ?_
                clear pk
                have HBF2 := Aside0.mk (below_drew HBF.out)
                by_cases hn0 : n < 0
                · have dn : decide (n < 0) = true := decide_eq_true hn0
                  have HE3 := Aside0.mk (show ys ++ crashL (l0.drop (i + 1)) q = crashL l0 l1 by have h1 := HEQ2.out; rw [crashL, if_neg (by simp)] at h1; rw [if_pos hn0] at h1; exact h1)
                  go_wp2
                  go_roundg kj
                  case measure => omega
                  case rel => exact ⟨i + 1, gs, ys, _, _, (some ⟨ad2.block, ad2.off + 1, none⟩), (cp - 1), congrArg (Value.int .i64) (by omega), rfl, ⟨by have := HK.out; omega⟩, ⟨by omega⟩, HCPq, HCAq, HE3, ⟨by have := HYL.out; omega⟩, ⟨blk_drew BOf.out⟩, ⟨Kd.R_below HROW.out HBF2.out⟩, ⟨HALL.out.below HBF2.out⟩, ⟨HKO.out.below HBF2.out⟩, ⟨below_step HB.out HBF2.out⟩⟩
                · have dn : decide (n < 0) = false := decide_eq_false hn0
                  have hE := HEQ2.out
                  rw [crashL, if_neg (by simp)] at hE
                  simp only [if_neg hn0] at hE
                  obtain ⟨nq, rfl⟩ := Int.eq_ofNat_of_zero_le (show 0 ≤ n by omega)
                  rw [Int.toNat_natCast] at hE
                  by_cases hbig : xd.length < nq
                  · have hb2 : (xd.length : Int) < (nq : Int) := by omega
                    rw [List.take_of_length_le (by omega)] at hE
                    have HE3 := Aside0.mk (show (ys ++ [⟨s0, xd, true⟩]) ++ crashL (l0.drop (i + 1)) q = crashL l0 l1 by rw [List.append_assoc]; exact hE)
                    have HVY := Aside0.mk (show Kd.V (Kd.int .u8) 5 wo 0 _ (.slice B1 xd.length xd.length) xd from Kd.V_mk (Nat.le_refl _) (Kd.V_at HVX.out).2.2)
                    clear hE hbig
                    have hxm : xd.length ≤ m1 := HQ3.out
                    go_upto_region 14 with fail
                    have BFx := Aside0.mk (show ((wf.setCell ⟨wo.heap.size, 1, none⟩ (.slice B1 xd.length xd.length)).setCell ⟨wo.heap.size, 2, none⟩ (.bool true)).drew.heap[wo.heap.size]? = some (.cells #[.string s0, .slice B1 xd.length xd.length, .bool true] 48 (0, 0)) from blk_set (blk_set BF.out 1 _) 2 _)
                    have BOx := Aside0.mk (show ((wf.setCell ⟨wo.heap.size, 1, none⟩ (.slice B1 xd.length xd.length)).setCell ⟨wo.heap.size, 2, none⟩ (.bool true)).drew.heap[O]? = some (.cells #[.int .i64 cap, .slice Av gs.length cv] 24 (0, 0)) from blk_far (blk_far BOf.out (p := ⟨wo.heap.size, 1, none⟩) (Nat.ne_of_lt HFO.out) _) (p := ⟨wo.heap.size, 2, none⟩) (Nat.ne_of_lt HFO.out) _)
                    have HBX := Aside0.mk (show Below wo.heap.size wo ((wf.setCell ⟨wo.heap.size, 1, none⟩ (.slice B1 xd.length xd.length)).setCell ⟨wo.heap.size, 2, none⟩ (.bool true)).drew from below_drew (below_set (below_set HBF.out (Nat.le_refl _)) (Nat.le_refl _)))
                    generalize ((wf.setCell ⟨wo.heap.size, 1, none⟩ (.slice B1 xd.length xd.length)).setCell ⟨wo.heap.size, 2, none⟩ (.bool true)).drew = wx at *
                    have HRX := Aside0.mk (Kd.R_below HROW.out HBX.out)
                    have HBXW := Aside0.mk (show w3.heap.size ≤ wx.heap.size from Nat.le_trans HKO.out.1 HBX.out.size)
                    have o1 : wx.cell? ⟨O, 1, none⟩ = some (.slice Av gs.length cv) := (blk_cell BOx.out 1).trans rfl
                    have z0_ : wx.cell? ⟨wo.heap.size, 0, none⟩ = some (.string s0) := (blk_cell BFx.out 0).trans rfl
                    have z1_ : wx.cell? ⟨wo.heap.size, 1, none⟩ = some (.slice B1 xd.length xd.length) := (blk_cell BFx.out 1).trans rfl
                    have z2_ : wx.cell? ⟨wo.heap.size, 2, none⟩ = some (.bool true) := (blk_cell BFx.out 2).trans rfl
                    clear x0_ x1_ x2_ y1_ y2_
                    go_wp2_with (first | ((with_reducible refine gate_builtin (b := .append) (xs := #[.tmp 51, .tmp 53]) rfl ?_); at_builtin; refine Kd.R_append kF (w0 := wx) (W := wx) w3.heap.size rfl (.tmp 51) (.tmp 53) 22 48 (.agg #[.string ⟨#[]⟩, .slice none 0 0, .bool false]) 48 rfl Try.underlying22 infoF rfl (by decide) (by decide) (.slice Av gs.length cv) gs (⟨s0, (B1, xd.length, xd.length), true⟩ : SF) [.string s0, .slice B1 xd.length xd.length, .bool true] (fun _ => True) (fun _ => False) rfl rfl (kF_mkM _ _ _ (⟨s0, (B1, xd.length, xd.length), true⟩ : SF)) (fun _ h => h.elim) (fun _ _ => trivial) HRX.out (Below.refl _ _) HBXW.out HFW.out ?_; intro v1 w4 hr1 hb1 hg1 hat1; obtain ⟨b1, cap1, ev1, _, _, _⟩ := Kd.R_form hr1 (by simp); rw [List.length_append, List.length_singleton] at ev1; subst ev1; have HR4 := Aside0.mk hr1; have HG4 := Aside0.mk hg1; have HO4 := Aside0.mk (blk_grown BOx.out hg1 HNEO.out); have o1' : w4.cell? ⟨O, 1, none⟩ = some (.slice Av gs.length cv) := (blk_cell HO4.out 1).trans rfl; have fo1 := blk_frozen HO4.out 1; clear hr1 hb1 hg1 hat1 o1))
                    obtain ⟨z1, z2, z3, z4, z5⟩ := crash_more (y := (⟨s0, xd, true⟩ : S48)) (w := w) (w3 := w3) (Nat.lt_of_lt_of_le HOn.out HN3.out) (show w.heap.size ≤ O by have h1 := HB2.out; have h2 := HBO.out; have h3 := HBO1.out; omega) (fun k hk => ⟨hk.2, fun e => by have h1 := HOn.out; have h2 := hk.1.1; omega⟩) HROW.out HALL.out (show BearsV wo _ (⟨s0, (B1, xd.length, xd.length), true⟩ : SF) (⟨s0, xd, true⟩ : S48) from ⟨rfl, rfl, HVY.out⟩) HKO.out HB.out HBX.out BOx.out HR4.out HG4.out HNEO.out
                    have Z1 := Aside0.mk z1
                    have Z2 := Aside0.mk z2
                    have Z3 := Aside0.mk z3
                    have Z4 := Aside0.mk z4
                    have Z5 := Aside0.mk z5
                    clear z1 z2 z3 z4 z5
                    go_roundg kj
                    case measure => omega
                    case rel => exact ⟨i + 1, _, _, _, q, (some ⟨ad2.block, ad2.off + 1, none⟩), (cp - 1), congrArg (Value.int .i64) (by omega), rfl, ⟨by have := HK.out; omega⟩, ⟨by omega⟩, HCPq, HCAq, HE3, ⟨by rw [List.length_append, List.length_singleton]; have := HYL.out; omega⟩, Z1, Z2, Z3, Z4, Z5⟩
                  · have hb2 : ¬ (xd.length : Int) < (nq : Int) := by omega
                    have HE3 := Aside0.mk (show (ys ++ [⟨s0, (xd.take nq), true⟩]) ++ crashL (l0.drop (i + 1)) q = crashL l0 l1 by rw [List.append_assoc]; exact hE)
                    have hnle : nq ≤ xd.length := by omega
                    have HVY := Aside0.mk (show Kd.V (Kd.int .u8) 5 wo 0 _ (.slice B1 nq xd.length) (xd.take nq) from by have h1 := Kd.V_mk (e := 5) (base := 0) (c := xd.length) (by rw [List.length_take]; omega) (Kd.F_take (Kd.V_at HVX.out).2.2 hnle); rw [List.length_take, Nat.min_eq_left hnle] at h1; exact h1)
                    clear hE hbig
                    have hxm : xd.length ≤ m1 := HQ3.out
                    go_upto_region 14 with fail
                    have BFx := Aside0.mk (show ((wf.setCell ⟨wo.heap.size, 1, none⟩ (.slice B1 nq xd.length)).setCell ⟨wo.heap.size, 2, none⟩ (.bool true)).drew.heap[wo.heap.size]? = some (.cells #[.string s0, .slice B1 nq xd.length, .bool true] 48 (0, 0)) from blk_set (blk_set BF.out 1 _) 2 _)
                    have BOx := Aside0.mk (show ((wf.setCell ⟨wo.heap.size, 1, none⟩ (.slice B1 nq xd.length)).setCell ⟨wo.heap.size, 2, none⟩ (.bool true)).drew.heap[O]? = some (.cells #[.int .i64 cap, .slice Av gs.length cv] 24 (0, 0)) from blk_far (blk_far BOf.out (p := ⟨wo.heap.size, 1, none⟩) (Nat.ne_of_lt HFO.out) _) (p := ⟨wo.heap.size, 2, none⟩) (Nat.ne_of_lt HFO.out) _)
                    have HBX := Aside0.mk (show Below wo.heap.size wo ((wf.setCell ⟨wo.heap.size, 1, none⟩ (.slice B1 nq xd.length)).setCell ⟨wo.heap.size, 2, none⟩ (.bool true)).drew from below_drew (below_set (below_set HBF.out (Nat.le_refl _)) (Nat.le_refl _)))
                    generalize ((wf.setCell ⟨wo.heap.size, 1, none⟩ (.slice B1 nq xd.length)).setCell ⟨wo.heap.size, 2, none⟩ (.bool true)).drew = wx at *
                    have HRX := Aside0.mk (Kd.R_below HROW.out HBX.out)
                    have HBXW := Aside0.mk (show w3.heap.size ≤ wx.heap.size from Nat.le_trans HKO.out.1 HBX.out.size)
                    have o1 : wx.cell? ⟨O, 1, none⟩ = some (.slice Av gs.length cv) := (blk_cell BOx.out 1).trans rfl
                    have z0_ : wx.cell? ⟨wo.heap.size, 0, none⟩ = some (.string s0) := (blk_cell BFx.out 0).trans rfl
                    have z1_ : wx.cell? ⟨wo.heap.size, 1, none⟩ = some (.slice B1 nq xd.length) := (blk_cell BFx.out 1).trans rfl
                    have z2_ : wx.cell? ⟨wo.heap.size, 2, none⟩ = some (.bool true) := (blk_cell BFx.out 2).trans rfl
                    clear x0_ x1_ x2_ y1_ y2_
                    go_wp2_with (first | ((with_reducible refine gate_builtin (b := .append) (xs := #[.tmp 51, .tmp 53]) rfl ?_); at_builtin; refine Kd.R_append kF (w0 := wx) (W := wx) w3.heap.size rfl (.tmp 51) (.tmp 53) 22 48 (.agg #[.string ⟨#[]⟩, .slice none 0 0, .bool false]) 48 rfl Try.underlying22 infoF rfl (by decide) (by decide) (.slice Av gs.length cv) gs (⟨s0, (B1, nq, xd.length), true⟩ : SF) [.string s0, .slice B1 nq xd.length, .bool true] (fun _ => True) (fun _ => False) rfl rfl (kF_mkM _ _ _ (⟨s0, (B1, nq, xd.length), true⟩ : SF)) (fun _ h => h.elim) (fun _ _ => trivial) HRX.out (Below.refl _ _) HBXW.out HFW.out ?_; intro v1 w4 hr1 hb1 hg1 hat1; obtain ⟨b1, cap1, ev1, _, _, _⟩ := Kd.R_form hr1 (by simp); rw [List.length_append, List.length_singleton] at ev1; subst ev1; have HR4 := Aside0.mk hr1; have HG4 := Aside0.mk hg1; have HO4 := Aside0.mk (blk_grown BOx.out hg1 HNEO.out); have o1' : w4.cell? ⟨O, 1, none⟩ = some (.slice Av gs.length cv) := (blk_cell HO4.out 1).trans rfl; have fo1 := blk_frozen HO4.out 1; clear hr1 hb1 hg1 hat1 o1))
                    obtain ⟨z1, z2, z3, z4, z5⟩ := crash_more (y := (⟨s0, (xd.take nq), true⟩ : S48)) (w := w) (w3 := w3) (Nat.lt_of_lt_of_le HOn.out HN3.out) (show w.heap.size ≤ O by have h1 := HB2.out; have h2 := HBO.out; have h3 := HBO1.out; omega) (fun k hk => ⟨hk.2, fun e => by have h1 := HOn.out; have h2 := hk.1.1; omega⟩) HROW.out HALL.out (show BearsV wo _ (⟨s0, (B1, nq, xd.length), true⟩ : SF) (⟨s0, (xd.take nq), true⟩ : S48) from ⟨rfl, rfl, HVY.out⟩) HKO.out HB.out HBX.out BOx.out HR4.out HG4.out HNEO.out
                    have Z1 := Aside0.mk z1
                    have Z2 := Aside0.mk z2
                    have Z3 := Aside0.mk z3
                    have Z4 := Aside0.mk z4
                    have Z5 := Aside0.mk z5
                    clear z1 z2 z3 z4 z5
                    go_roundg kj
                    case measure => omega
                    case rel => exact ⟨i + 1, _, _, _, q, (some ⟨ad2.block, ad2.off + 1, none⟩), (cp - 1), congrArg (Value.int .i64) (by omega), rfl, ⟨by have := HK.out; omega⟩, ⟨by omega⟩, HCPq, HCAq, HE3, ⟨by rw [List.length_append, List.length_singleton]; have := HYL.out; omega⟩, Z1, Z2, Z3, Z4, Z5⟩
        · have d1 : decide ((i : Int) < (fs2.length : Int)) = false := decide_eq_false (by omega)
          have HE := Aside0.mk (show ys = crashL l0 l1 by
            have h1 := HEQ.out
            have h2 := HFL.out
            rw [List.drop_eq_nil_of_le (by omega), crashL, List.append_nil] at h1
            exact h1)
          have BK2 := Aside0.mk ((HKO.out.2 B2 (blk_lt BK23.out) HO2.out).trans BK23.out)
          have o0 : wo.cell? ⟨O, 0, none⟩ = some (.int .i64 cap) := (blk_cell BO.out 0).trans rfl
          have o1 : wo.cell? ⟨O, 1, none⟩ = some (.slice Av gs.length cv) := (blk_cell BO.out 1).trans rfl
          have e0 : wo.cell? ⟨B2, 0, none⟩ = some (.int .i64 0) := (blk_cell BK2.out 0).trans rfl
          have e1 : wo.cell? ⟨B2, 1, none⟩ = some (.slice none 0 0) := (blk_cell BK2.out 1).trans rfl
          have f0 := blk_frozen BK2.out 0
          have f1 := blk_frozen BK2.out 1
          go_wp2
          have hG := blk_set (blk_set BK2.out 0 (.int .i64 cap)) 1 (.slice Av gs.length cv)
          refine bodyPost_ret (results_c1 rfl _ _ B2 24 #[.int .i64 cap, .slice Av gs.length cv] (0, 0) _ rfl hG Try.underlying24 rfl (by kernel_rfl)) rfl ?_
          have hys := HE.out
          subst hys
          exact ⟨_, rfl, fin_V BK2.out HROW.out (Nat.le_trans HWN.out HN3.out) HALL.out (fun k hk => ⟨Nat.le_trans HWN.out hk.1.1, fun e => by have h1 := HBO.out; have h2 := hk.1.1; have h3 := HBO1.out; have h4 := HOn.out; omega⟩) _ _, below_set (below_set HB.out HB2.out) HB2.out⟩
  · rw [if_neg ho] at h
    exact absurd h (by simp)
end Go.Proofs.Ytaldbabkdoabkaa.T

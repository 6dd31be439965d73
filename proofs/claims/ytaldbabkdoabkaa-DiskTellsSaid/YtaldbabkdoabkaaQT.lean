import Derived.Test.YtaldbabkdoabkaaProg
import Derived.Test.YtaldbabkdoabkaaQV
import Derived.Test.YtaldbabkdoabkaaQA
import Derived.Test.YtaldbabkdoabkaaQB
import Derived.Test.YtaldbabkdoabkaaQF
import Derived.Test.YtaldbabkdoabkaaQG
import Derived.Test.YtaldbabkdoabkaaQH
import Derived.Test.YtaldbabkdoabkaaQJ
import Derived.Test.YtaldbabkdoabkaaQP
import Derived.Test.YtaldbabkdoabkaaQR
import Derived.Test.YtaldbabkdoabkaaQS
namespace Go.Proofs.Ytaldbabkdoabkaa.T
open Go.RowKit Go.Proofs.YtaldbabkdoabkaaW.PrintWords Go.Proofs.YtaldbabkdoabkaaW.PrintLast Go.Proofs.YtaldbabkdoabkaaW.PrintMore
attribute [local go_sem] max2_int min2_int max_two min_two max_three min_three max_four min_four   -- for this text's walks alone
set_option linter.unusedVariables false
set_option linter.unusedSimpArgs false
/-! ### the document's Do (function 26), by hand -/
def refIn (l : List S48) (a b : ByteArray) (dat : List Int) : Bool := ownOk l && decide (l.length ≤ 99999) && decide (a.size ≤ gMax) && decide (b.size ≤ gMax) && decide (dat.length ≤ 1000000)
def refOk (l : List S48) (u i : Int) : Bool := decide (i < (l.length : Int)) && decide (0 ≤ u) && decide (u ≤ 1000000000)
def catchwordref03_Do.f (k : Nat) (cap : Int) (l : List S48) (kind : Int) (a b : ByteArray) (dat : List Int) : Option (Int × List S48 × Int) :=
  if refIn l a b dat = true then ((catchwordref03_May.f k cap l).bind fun m => (catchwordref03_Name.f k a).bind fun n => if m = true then (if n = true then (if kind < 0 ∨ 4 ≤ kind then some (cap, l, 1) else (catchwordref03_Find.f k cap l a).bind fun i => (catchwordref03_used.f k l).bind fun u => (catchwordref03_Name.f k b).bind fun bn => if refOk l u i = true then some (cap, (refP cap l kind a b dat u bn i).1, (refP cap l kind a b dat u bn i).2) else none) else some (cap, l, 1)) else some (cap, l, 1)) else none
theorem catchwordref03_Do.mono : ∀ cap l kind a b dat k, LeO (catchwordref03_Do.f k cap l kind a b dat) (catchwordref03_Do.f (k + 1) cap l kind a b dat) := by
  intro cap l kind a b dat k
  unfold catchwordref03_Do.f
  exact LeO.ite (LeO.bind (catchwordref03_May.mono _ _ _) (fun m => LeO.bind (catchwordref03_Name.mono _ _) (fun n => LeO.ite (LeO.ite (LeO.ite (LeO.refl _) (LeO.bind (catchwordref03_Find.mono _ _ _ _) (fun i => LeO.bind (catchwordref03_used.mono _ _) (fun u => LeO.bind (catchwordref03_Name.mono _ _) (fun bn => LeO.refl _))))) (LeO.refl _)) (LeO.refl _)))) (LeO.refl _)
theorem R_farF {W : World} {base F : Nat} {v : Value} {fs : List SF} (h : Kd.R kF 48 W base (fun _ => True) v fs) (hF : F < base) (j : Nat) (u : Value) : Kd.R kF 48 (W.setCell ⟨F, j, none⟩ u) base (fun _ => True) v fs :=
  Kd.R_mono (Kd.R_far (p := ⟨F, j, none⟩) (Kd.R_bound h) (fun k hk => by have h2 := hk.2.1; show k ≠ F; omega) u) (fun _ _ => trivial)
theorem below_far {w W : World} {F : Nat} (h : Below w.heap.size w W) (hF : w.heap.size ≤ F) (j : Nat) (u : Value) : Below w.heap.size w (W.setCell ⟨F, j, none⟩ u) := below_set h hF
theorem cell_farF {W : World} {a p : Addr} {u v : Value} (h : W.cell? a = some v) (hne : a.block ≠ p.block) : (W.setCell p u).cell? a = some v := by
  have h2 := Below.heap_setCell W p u a.block hne
  unfold World.cell? at *
  rw [h2]
  exact h
theorem delN_mem {nm : ByteArray} {fs : List SF} {y : SF} (h : y ∈ delN nm fs) : y ∈ fs := (List.mem_filter.1 h).1
theorem delN_le (nm : ByteArray) (fs : List SF) : (delN nm fs).length ≤ fs.length := List.length_filter_le _ _
theorem three_blocks (w : World) (o1 o2 o3 : Obj) : (((w.alloc o1).alloc o2).alloc o3).heap[w.heap.size]? = some o1 ∧ (((w.alloc o1).alloc o2).alloc o3).heap[w.heap.size + 1]? = some o2 ∧ (((w.alloc o1).alloc o2).alloc o3).heap[w.heap.size + 1 + 1]? = some o3 ∧ Below w.heap.size w (((w.alloc o1).alloc o2).alloc o3) := by
  have s1 := size_alloc_ w o1
  have s2 := size_alloc_ (w.alloc o1) o2
  have h2 := blk_new (w.alloc o1) o2
  have h3 := blk_new ((w.alloc o1).alloc o2) o3
  rw [s1] at h2
  rw [s2, s1] at h3
  exact ⟨blk_alloc (blk_alloc (blk_new w o1) _) _, blk_alloc h2 _, h3, below_alloc (below_alloc (below_alloc (Below.refl _ _) _) _) _⟩
set_option maxHeartbeats 8000000 in
set_option maxRecDepth 100000 in
theorem catchwordref03_Do.calls (k : Nat) (cap : Int) (P0_1_ : Nat → Prop) (A0 : Option Addr) (c0 : Nat) (l0 : List S48) (kind : Int) (a b : ByteArray) (P1_3_ : Nat → Prop) (A1 : Option Addr) (c1 : Nat) (l1 : List Int) (r1 : Int) (r2 : List S48) (r3 : Int) (w : World) (hs0 : Kd.V k48 48 w w.heap.size (fun k_ => P0_1_ k_) (.slice A0 l0.length c0) l0) (hs1 : Kd.V (Kd.int .u8) 5 w w.heap.size (fun k_ => P1_3_ k_) (.slice A1 l1.length c1) l1) (h : catchwordref03_Do.f k cap l0 kind a b l1 = some (r1, r2, r3)) :
    Calls Try.prog 26 #[.agg #[.int .i64 cap, .slice A0 l0.length c0], .agg #[.int .i64 kind, .string a, .string b, .slice A1 l1.length c1]] w fun e w' => ∃ v1_ : Value, e = .returned (.tuple #[.agg #[.int .i64 r1, v1_], .int .i64 r3]) ∧ Kd.V k48 48 w' w.heap.size (fun k_ => ((P0_1_ k_ ∨ P1_3_ k_) ∨ w.heap.size ≤ k_)) v1_ r2 ∧ Below w.heap.size w w' := by
  unfold catchwordref03_Do.f at h
  by_cases ho : refIn l0 a b l1 = true
  · rw [if_pos ho] at h
    simp only [refIn, ownOk, Bool.and_eq_true, decide_eq_true_eq, List.all_eq_true] at ho
    obtain ⟨⟨⟨⟨⟨hL, hD⟩, hl9⟩, has⟩, hbs⟩, hdl⟩ := ho
    obtain ⟨_, hc0, hr0⟩ := Kd.V_reads' hs0
    obtain ⟨_, hc1, hr1⟩ := Kd.V_reads' hs1
    obtain ⟨fs, hCF, hAV⟩ := AllV_of_V hs0
    have hfl : fs.length = l0.length := hAV.1
    have HCF := Aside0.mk (show Kd.C kF w A0 fs.length fs by rw [hfl]; exact hCF)
    have HAV := Aside0.mk ((hAV.bound).monoV (ok' := fun k => (P0_1_ k ∨ P1_3_ k) ∧ k < w.heap.size) (fun k hk => ⟨.inl hk.1, hk.2⟩))
    have HD1 := Aside0.mk (show BearsV w (fun k => (P0_1_ k ∨ P1_3_ k) ∧ k < w.heap.size) (⟨a, (A1, l1.length, c1), false⟩ : SF) (⟨a, l1, false⟩ : S48) from ⟨rfl, rfl, Kd.V_mono (Kd.V_bound hs1) (fun k hk => ⟨.inr hk.1, hk.2⟩)⟩)
    have HFL := Aside0.mk hfl
    have HS0 := Aside0.mk hs0
    have HR0 := Aside0.mk hr0
    have HL9 := Aside0.mk (show fs.length ≤ 99999 by omega)
    have HAS := Aside0.mk (show a.size ≤ 9223372036854775807 from has)
    have HBS := Aside0.mk (show b.size ≤ 9223372036854775807 from hbs)
    have HFZ := Aside0.mk (show ∀ y ∈ fs, y.f0.size ≤ 9223372036854775807 from fun y hy => by
      have h1 := List.mem_map_of_mem (f := fun x : SF => x.f0) hy
      rw [hAV.names] at h1
      obtain ⟨x, hx, e⟩ := List.mem_map.1 h1
      rw [← e]
      exact (hD x hx).2)
    have HDL := Aside0.mk hdl
    have hl0 : l0.length ≤ 99999 := hl9
    have hu24 := Try.underlying24
    have hu39 := Try.underlying39
    have hu48 := Try.underlying48
    have hc0f : fs.length ≤ c0 := by omega
    have HC0F := Aside0.mk hc0f
    obtain ⟨m, hm, h⟩ := Option.bind_eq_some_iff.mp h
    obtain ⟨n, hn, h⟩ := Option.bind_eq_some_iff.mp h
    have HM := Aside0.mk hm
    have HN := Aside0.mk hn
    have H := Aside0.mk h
    clear hL hD hl9 has hbs hr0 hr1 hCF hAV hfl hs0 hs1 hm hn h hc0f
    go_enter Try.func26, Try.ntmps26
    go_upto_region 1 with fail
    obtain ⟨b0, b1, b2, bb⟩ := three_blocks w (.cells #[.int .i64 cap, .slice A0 l0.length c0] 24) (.cells #[.int .i64 kind, .string a, .string b, .slice A1 l1.length c1] 39) (.cells #[.int .i64 0, .slice none 0 0] 24)
    generalize (((w.alloc (.cells #[.int .i64 cap, .slice A0 l0.length c0] 24)).alloc (.cells #[.int .i64 kind, .string a, .string b, .slice A1 l1.length c1] 39)).alloc (.cells #[.int .i64 0, .slice none 0 0] 24)) = wb at *
    have HBB := Aside0.mk bb
    have BK2 := Aside0.mk b2
    have HB2 := Aside0.mk (show w.heap.size < w.heap.size + 1 + 1 by omega)
    generalize w.heap.size + 1 + 1 = B2 at *
    generalize w.heap.size + 1 = B1 at *
    have c00 : wb.cell? ⟨w.heap.size, 0, none⟩ = some (.int .i64 cap) := (blk_cell b0 0).trans rfl
    have c01 : wb.cell? ⟨w.heap.size, 1, none⟩ = some (.slice A0 l0.length c0) := (blk_cell b0 1).trans rfl
    have d00 : wb.cell? ⟨B1, 0, none⟩ = some (.int .i64 kind) := (blk_cell b1 0).trans rfl
    have d01 : wb.cell? ⟨B1, 1, none⟩ = some (.string a) := (blk_cell b1 1).trans rfl
    have d02 : wb.cell? ⟨B1, 2, none⟩ = some (.string b) := (blk_cell b1 2).trans rfl
    have d03 : wb.cell? ⟨B1, 3, none⟩ = some (.slice A1 l1.length c1) := (blk_cell b1 3).trans rfl
    have e00 : wb.cell? ⟨B2, 0, none⟩ = some (.int .i64 0) := (blk_cell b2 0).trans rfl
    have e01 : wb.cell? ⟨B2, 1, none⟩ = some (.slice none 0 0) := (blk_cell b2 1).trans rfl
    have f00 := blk_frozen b2 0
    have f01 := blk_frozen b2 1
    clear bb b0 b1 b2
    go_upto_region 3 with (first | (go_at_call 16; (refine (catchwordref03_May.calls k cap A0 c0 l0 m _ (Kd.C_below HR0.out HBB.out) hc0 HM.out).mono ?_); rintro e w2 ⟨rfl, hb⟩; have n0_ := Aside0.mk (below_step HBB.out hb); have n2_ := Aside0.mk (blk_below BK2.out hb); replace c00 := pw_cell_below hb c00; replace c01 := pw_cell_below hb c01; replace d00 := pw_cell_below hb d00; replace d01 := pw_cell_below hb d01; replace d02 := pw_cell_below hb d02; replace d03 := pw_cell_below hb d03; replace e00 := pw_cell_below hb e00; replace e01 := pw_cell_below hb e01; clear HBB BK2 f00 f01; have HBB := n0_; have BK2 := n2_; have f00 := blk_frozen BK2.out 0; have f01 := blk_frozen BK2.out 1; clear n0_ n2_ hb) | (go_at_call 30; (refine (catchwordref03_Name.calls k a n _ HN.out).mono ?_); rintro e w3 ⟨rfl, hd⟩; have hb := drawn_below hd; clear hd; have n0_ := Aside0.mk (below_step HBB.out hb); have n2_ := Aside0.mk (blk_below BK2.out hb); replace c00 := pw_cell_below hb c00; replace c01 := pw_cell_below hb c01; replace d00 := pw_cell_below hb d00; replace d01 := pw_cell_below hb d01; replace d02 := pw_cell_below hb d02; replace d03 := pw_cell_below hb d03; replace e00 := pw_cell_below hb e00; replace e01 := pw_cell_below hb e01; clear HBB BK2 f00 f01; have HBB := n0_; have BK2 := n2_; have f00 := blk_frozen BK2.out 0; have f01 := blk_frozen BK2.out 1; clear n0_ n2_ hb))
    have h := H.out
    clear H HM HN
    cases m with
    | false =>
      rw [if_neg (by simp)] at h
      have h1 := Option.some.inj h
      injection h1 with h1 h2
      injection h2 with h2 h3
      subst h1; subst h2; subst h3
      clear h
      go_wp2
      have hG := blk_set (blk_set BK2.out 0 (.int .i64 cap)) 1 (.slice A0 l0.length c0)
      refine bodyPost_ret (results_ct rfl _ _ B2 24 #[.int .i64 cap, .slice A0 l0.length c0] (0, 0) _ rfl hG Try.underlying24 rfl (by kernel_rfl)) rfl ?_
      have hbz := below_set (j := 1) (v := .slice A0 l0.length c0) (below_set (j := 0) (v := .int .i64 cap) HBB.out (Nat.le_of_lt HB2.out)) (Nat.le_of_lt HB2.out)
      exact ⟨_, rfl, Kd.V_mono (Kd.V_below HS0.out hbz) (fun k hk => .inl (.inl hk)), hbz⟩
    | true =>
      rw [if_pos rfl] at h
      cases n with
      | false =>
        rw [if_neg (by simp)] at h
        have h1 := Option.some.inj h
        injection h1 with h1 h2
        injection h2 with h2 h3
        subst h1; subst h2; subst h3
        clear h
        go_wp2
        have hG := blk_set (blk_set BK2.out 0 (.int .i64 cap)) 1 (.slice A0 l0.length c0)
        refine bodyPost_ret (results_ct rfl _ _ B2 24 #[.int .i64 cap, .slice A0 l0.length c0] (0, 0) _ rfl hG Try.underlying24 rfl (by kernel_rfl)) rfl ?_
        have hbz := below_set (j := 1) (v := .slice A0 l0.length c0) (below_set (j := 0) (v := .int .i64 cap) HBB.out (Nat.le_of_lt HB2.out)) (Nat.le_of_lt HB2.out)
        exact ⟨_, rfl, Kd.V_mono (Kd.V_below HS0.out hbz) (fun k hk => .inl (.inl hk)), hbz⟩
      | true =>
        rw [if_pos rfl] at h
        by_cases hk0 : kind < 0
        · rw [if_pos (.inl hk0)] at h
          have dk : decide (kind < 0) = true := decide_eq_true hk0
          clear hk0
          have h1 := Option.some.inj h
          injection h1 with h1 h2
          injection h2 with h2 h3
          subst h1; subst h2; subst h3
          clear h
          go_wp2
          have hG := blk_set (blk_set BK2.out 0 (.int .i64 cap)) 1 (.slice A0 l0.length c0)
          refine bodyPost_ret (results_ct rfl _ _ B2 24 #[.int .i64 cap, .slice A0 l0.length c0] (0, 0) _ rfl hG Try.underlying24 rfl (by kernel_rfl)) rfl ?_
          have hbz := below_set (j := 1) (v := .slice A0 l0.length c0) (below_set (j := 0) (v := .int .i64 cap) HBB.out (Nat.le_of_lt HB2.out)) (Nat.le_of_lt HB2.out)
          exact ⟨_, rfl, Kd.V_mono (Kd.V_below HS0.out hbz) (fun k hk => .inl (.inl hk)), hbz⟩
        by_cases hk4 : 4 ≤ kind
        · rw [if_pos (.inr hk4)] at h
          have dk : decide (kind < 0) = false := decide_eq_false hk0
          have dk4 : decide (4 ≤ kind) = true := decide_eq_true hk4
          clear hk0 hk4
          have h1 := Option.some.inj h
          injection h1 with h1 h2
          injection h2 with h2 h3
          subst h1; subst h2; subst h3
          clear h
          go_wp2
          have hG := blk_set (blk_set BK2.out 0 (.int .i64 cap)) 1 (.slice A0 l0.length c0)
          refine bodyPost_ret (results_ct rfl _ _ B2 24 #[.int .i64 cap, .slice A0 l0.length c0] (0, 0) _ rfl hG Try.underlying24 rfl (by kernel_rfl)) rfl ?_
          have hbz := below_set (j := 1) (v := .slice A0 l0.length c0) (below_set (j := 0) (v := .int .i64 cap) HBB.out (Nat.le_of_lt HB2.out)) (Nat.le_of_lt HB2.out)
          exact ⟨_, rfl, Kd.V_mono (Kd.V_below HS0.out hbz) (fun k hk => .inl (.inl hk)), hbz⟩
        rw [if_neg (by rintro (h | h); (· exact hk0 h); (· exact hk4 h))] at h
        have HK := Aside0.mk (show kind = 0 ∨ kind = 1 ∨ kind = 2 ∨ kind = 3 by omega)
        have dk : decide (kind < 0) = false := decide_eq_false hk0
        have dk4 : decide (4 ≤ kind) = false := decide_eq_false hk4
        clear hk0 hk4
        obtain ⟨i, hi, h⟩ := Option.bind_eq_some_iff.mp h
        obtain ⟨u, hu, h⟩ := Option.bind_eq_some_iff.mp h
        obtain ⟨bn, hbn, h⟩ := Option.bind_eq_some_iff.mp h
        have HIF := Aside0.mk hi
        have HU := Aside0.mk hu
        have HBN := Aside0.mk hbn
        clear hi hu hbn
        by_cases hg : refOk l0 u i = true
        · rw [if_pos hg] at h
          simp only [refOk, Bool.and_eq_true, decide_eq_true_eq] at hg
          have HG := Aside0.mk hg
          have H := Aside0.mk (Option.some.inj h)
          clear hg h
          go_upto_region 6 with (first | (go_at_call 22; (refine (catchwordref03_Find.calls k cap A0 c0 l0 a i _ (Kd.C_below HR0.out HBB.out) hc0 HIF.out).mono ?_); rintro e w4 ⟨rfl, hb⟩; have n0_ := Aside0.mk (below_step HBB.out hb); have n2_ := Aside0.mk (blk_below BK2.out hb); replace c00 := pw_cell_below hb c00; replace c01 := pw_cell_below hb c01; replace d00 := pw_cell_below hb d00; replace d01 := pw_cell_below hb d01; replace d02 := pw_cell_below hb d02; replace d03 := pw_cell_below hb d03; replace e00 := pw_cell_below hb e00; replace e01 := pw_cell_below hb e01; clear HBB BK2 f00 f01; have HBB := n0_; have BK2 := n2_; have f00 := blk_frozen BK2.out 0; have f01 := blk_frozen BK2.out 1; clear n0_ n2_ hb))
          clear dk dk4
          have HWI := Aside0.mk (fun (W : World) (hb : Below w.heap.size w W) => (HFL.out ▸ with_calls A0 c0 fs a A1 l1.length c1 false W (Kd.C_below HCF.out hb) HC0F.out (Nat.le_succ_of_le HL9.out) HFZ.out HAS.out : Calls Try.prog 44 #[.slice A0 l0.length c0, .agg #[.string a, .slice A1 l1.length c1, .bool false]] W fun e w' => ∃ v, e = .returned v ∧ Kd.R kF 48 w' W.heap.size (fun _ => True) v (insF ⟨a, (A1, l1.length, c1), false⟩ fs) ∧ Below W.heap.size W w'))
          have HWO := Aside0.mk (fun (W : World) (hb : Below w.heap.size w W) => (HFL.out ▸ without_calls A0 c0 fs a W (Kd.C_below HCF.out hb) HC0F.out (Nat.le_succ_of_le HL9.out) : Calls Try.prog 45 #[.slice A0 l0.length c0, .string a] W fun e w' => ∃ v, e = .returned v ∧ Kd.R kF 48 w' W.heap.size (fun _ => True) v (delN a fs) ∧ Below W.heap.size W w'))
          rcases HK.out with rfl | rfl | rfl | rfl
          · clear HK HBN HWO
            by_cases hi0 : 0 ≤ i
            · have hr : refP cap l0 0 a b l1 u bn i = (l0, 3) := by unfold refP; rw [if_pos rfl, if_pos hi0]
              have hH := H.out
              injection hH with h1 hH
              injection hH with h2 h3
              rw [hr] at h2 h3
              replace h2 : _ = r2 := h2
              replace h3 : _ = r3 := h3
              subst h1; subst h2; subst h3
              clear H hr
              have di : decide (0 ≤ i) = true := decide_eq_true hi0
              clear hi0
              go_wp2
              have hG := blk_set (blk_set BK2.out 0 (.int .i64 cap)) 1 (.slice A0 l0.length c0)
              refine bodyPost_ret (results_ct rfl _ _ B2 24 #[.int .i64 cap, .slice A0 l0.length c0] (0, 0) _ rfl hG Try.underlying24 rfl (by kernel_rfl)) rfl ?_
              have hbz := below_set (j := 1) (v := .slice A0 l0.length c0) (below_set (j := 0) (v := .int .i64 cap) HBB.out (Nat.le_of_lt HB2.out)) (Nat.le_of_lt HB2.out)
              exact ⟨_, rfl, Kd.V_mono (Kd.V_below HS0.out hbz) (fun k hk => .inl (.inl hk)), hbz⟩
            · have di : decide (0 ≤ i) = false := decide_eq_false hi0
              by_cases h64 : l0.length = 64
              · have hr : refP cap l0 0 a b l1 u bn i = (l0, 4) := by unfold refP; rw [if_pos rfl, if_neg hi0, if_pos (.inl h64)]
                have hH := H.out
                injection hH with h1 hH
                injection hH with h2 h3
                rw [hr] at h2 h3
                replace h2 : _ = r2 := h2
                replace h3 : _ = r3 := h3
                subst h1; subst h2; subst h3
                clear H hr
                have d64 : ((l0.length : Int) == 64) = true := by rw [h64]; rfl
                clear hi0 h64
                go_wp2
                refine start_ (n := 16) (S := fun w' => w'.cell? ⟨w.heap.size, 1, none⟩ = some (.slice A0 l0.length c0)) (ds := []) #[false, false, false, false, false, false, false, false, false, false, false, false, false, false, false, false] (by kernel_rfl) rfl rfl (c01) (fun hHeld => ?_)
                refine pure_ (i := 0) (N := some 44) (v := ?_) (a' := ?_) #[true, false, false, false, false, false, false, false, false, false, false, false, false, false, false, false] rfl rfl (by kernel_rfl) (fun _ _ _ h => h) (Or.inl ⟨by rfl, ?_⟩) ?_ ?_
                rotate_left
                · intro w'
                  go_simp
                  with_reducible rfl
                rotate_left
                · simp only [Act.put, List.setIfInBounds_toArray, List.set_cons_zero, List.set_cons_succ, i64_w, i32_w]
                  rfl
                refine take_ (i := 1) (N := some 45) (v := ?_) (a' := ?_) #[true, true, false, false, false, false, false, false, false, false, false, false, false, false, false, false] rfl rfl (by kernel_rfl) (fun _ _ _ h => h) (Or.inl ⟨by rfl, ?_⟩) hHeld ?_ ?_
                rotate_left
                · intro w' s0
                  go_simp
                  with_reducible rfl
                rotate_left
                · simp only [Act.put, List.setIfInBounds_toArray, List.set_cons_zero, List.set_cons_succ, i64_w, i32_w]
                  rfl
                refine pure_ (i := 2) (N := some 46) (v := ?_) (a' := ?_) #[true, true, true, false, false, false, false, false, false, false, false, false, false, false, false, false] rfl rfl (by kernel_rfl) (fun _ _ _ h => h) (Or.inl ⟨by rfl, ?_⟩) ?_ ?_
                rotate_left
                · intro w'
                  go_simp
                  with_reducible rfl
                rotate_left
                · simp only [Act.put, List.setIfInBounds_toArray, List.set_cons_zero, List.set_cons_succ, i64_w, i32_w]
                  rfl
                refine pure_ (i := 3) (N := some 47) (v := ?_) (a' := ?_) #[true, true, true, true, false, false, false, false, false, false, false, false, false, false, false, false] rfl rfl (by kernel_rfl) (fun _ _ _ h => h) (Or.inl ⟨by rfl, ?_⟩) ?_ ?_
                rotate_left
                · intro w'
                  go_simp
                  with_reducible rfl
                rotate_left
                · simp only [Act.put, List.setIfInBounds_toArray, List.set_cons_zero, List.set_cons_succ, i64_w, i32_w]
                  rfl
                refine pure_ (i := 4) (N := some 48) (v := ?_) (a' := ?_) #[true, true, true, true, true, false, false, false, false, false, false, false, false, false, false, false] rfl rfl (by kernel_rfl) (fun _ _ _ h => h) (Or.inl ⟨by rfl, ?_⟩) ?_ ?_
                rotate_left
                · intro w'
                  go_simp
                  with_reducible rfl
                rotate_left
                · simp only [Act.put, List.setIfInBounds_toArray, List.set_cons_zero, List.set_cons_succ, i64_w, i32_w]
                  rfl
                refine pure_ (i := 5) (N := some 49) (v := undef) (a' := ?_) #[true, true, true, true, true, true, false, false, false, false, false, false, false, false, false, false] rfl rfl (by kernel_rfl) (fun _ _ _ h => h) (Or.inr ⟨by rfl, rfl⟩) ?_ ?_
                rotate_left
                · simp only [Act.put, List.setIfInBounds_toArray, List.set_cons_zero, List.set_cons_succ, i64_w, i32_w]
                  rfl
                refine pure_ (i := 6) (N := some 50) (v := undef) (a' := ?_) #[true, true, true, true, true, true, true, false, false, false, false, false, false, false, false, false] rfl rfl (by kernel_rfl) (fun _ _ _ h => h) (Or.inr ⟨by rfl, rfl⟩) ?_ ?_
                rotate_left
                · simp only [Act.put, List.setIfInBounds_toArray, List.set_cons_zero, List.set_cons_succ, i64_w, i32_w]
                  rfl
                refine pure_ (i := 7) (N := some 51) (v := undef) (a' := ?_) #[true, true, true, true, true, true, true, true, false, false, false, false, false, false, false, false] rfl rfl (by kernel_rfl) (fun _ _ _ h => h) (Or.inr ⟨by rfl, rfl⟩) ?_ ?_
                rotate_left
                · simp only [Act.put, List.setIfInBounds_toArray, List.set_cons_zero, List.set_cons_succ, i64_w, i32_w]
                  rfl
                refine pure_ (i := 8) (N := some 52) (v := undef) (a' := ?_) #[true, true, true, true, true, true, true, true, true, false, false, false, false, false, false, false] rfl rfl (by kernel_rfl) (fun _ _ _ h => h) (Or.inr ⟨by rfl, rfl⟩) ?_ ?_
                rotate_left
                · simp only [Act.put, List.setIfInBounds_toArray, List.set_cons_zero, List.set_cons_succ, i64_w, i32_w]
                  rfl
                refine pure_ (i := 9) (N := some 53) (v := undef) (a' := ?_) #[true, true, true, true, true, true, true, true, true, true, false, false, false, false, false, false] rfl rfl (by kernel_rfl) (fun _ _ _ h => h) (Or.inr ⟨by rfl, rfl⟩) ?_ ?_
                rotate_left
                · simp only [Act.put, List.setIfInBounds_toArray, List.set_cons_zero, List.set_cons_succ, i64_w, i32_w]
                  rfl
                refine pure_ (i := 10) (N := some 54) (v := undef) (a' := ?_) #[true, true, true, true, true, true, true, true, true, true, true, false, false, false, false, false] rfl rfl (by kernel_rfl) (fun _ _ _ h => h) (Or.inr ⟨by rfl, rfl⟩) ?_ ?_
                rotate_left
                · simp only [Act.put, List.setIfInBounds_toArray, List.set_cons_zero, List.set_cons_succ, i64_w, i32_w]
                  rfl
                refine pure_ (i := 11) (N := some 55) (v := undef) (a' := ?_) #[true, true, true, true, true, true, true, true, true, true, true, true, false, false, false, false] rfl rfl (by kernel_rfl) (fun _ _ _ h => h) (Or.inr ⟨by rfl, rfl⟩) ?_ ?_
                rotate_left
                · simp only [Act.put, List.setIfInBounds_toArray, List.set_cons_zero, List.set_cons_succ, i64_w, i32_w]
                  rfl
                refine pure_ (i := 12) (N := some 56) (v := undef) (a' := ?_) #[true, true, true, true, true, true, true, true, true, true, true, true, true, false, false, false] rfl rfl (by kernel_rfl) (fun _ _ _ h => h) (Or.inr ⟨by rfl, rfl⟩) ?_ ?_
                rotate_left
                · simp only [Act.put, List.setIfInBounds_toArray, List.set_cons_zero, List.set_cons_succ, i64_w, i32_w]
                  rfl
                refine pure_ (i := 13) (N := some 57) (v := undef) (a' := ?_) #[true, true, true, true, true, true, true, true, true, true, true, true, true, true, false, false] rfl rfl (by kernel_rfl) (fun _ _ _ h => h) (Or.inr ⟨by rfl, rfl⟩) ?_ ?_
                rotate_left
                · simp only [Act.put, List.setIfInBounds_toArray, List.set_cons_zero, List.set_cons_succ, i64_w, i32_w]
                  rfl
                refine pure_ (i := 14) (N := some 58) (v := undef) (a' := ?_) #[true, true, true, true, true, true, true, true, true, true, true, true, true, true, true, false] rfl rfl (by kernel_rfl) (fun _ _ _ h => h) (Or.inr ⟨by rfl, rfl⟩) ?_ ?_
                rotate_left
                · simp only [Act.put, List.setIfInBounds_toArray, List.set_cons_zero, List.set_cons_succ, i64_w, i32_w]
                  rfl
                refine pure_ (i := 15) (N := some 59) (v := ?_) (a' := ?_) #[true, true, true, true, true, true, true, true, true, true, true, true, true, true, true, true] rfl rfl (by kernel_rfl) (fun _ _ _ h => h) (Or.inl ⟨by rfl, ?_⟩) ?_ ?_
                rotate_left
                · intro w'
                  go_simp
                  with_reducible rfl
                rotate_left
                · simp only [Act.put, List.setIfInBounds_toArray, List.set_cons_zero, List.set_cons_succ, i64_w, i32_w]
                  rfl
                refine done_ (by kernel_rfl) ?_
                have hb := below_drew (Below.refl w4.heap.size w4)
                have n0_ := Aside0.mk (below_step HBB.out hb)
                have n2_ := Aside0.mk (blk_below BK2.out hb)
                replace c00 := pw_cell_below hb c00
                replace c01 := pw_cell_below hb c01
                replace d00 := pw_cell_below hb d00
                replace d01 := pw_cell_below hb d01
                replace d02 := pw_cell_below hb d02
                replace d03 := pw_cell_below hb d03
                replace e00 := pw_cell_below hb e00
                replace e01 := pw_cell_below hb e01
                clear HBB BK2 f00 f01 hb
                have HBB := n0_
                have BK2 := n2_
                have f00 := blk_frozen BK2.out 0
                have f01 := blk_frozen BK2.out 1
                clear n0_ n2_
                generalize w4.drew = w5 at *
                go_wp2
                have hG := blk_set (blk_set BK2.out 0 (.int .i64 cap)) 1 (.slice A0 l0.length c0)
                refine bodyPost_ret (results_ct rfl _ _ B2 24 #[.int .i64 cap, .slice A0 l0.length c0] (0, 0) _ rfl hG Try.underlying24 rfl (by kernel_rfl)) rfl ?_
                have hbz := below_set (j := 1) (v := .slice A0 l0.length c0) (below_set (j := 0) (v := .int .i64 cap) HBB.out (Nat.le_of_lt HB2.out)) (Nat.le_of_lt HB2.out)
                exact ⟨_, rfl, Kd.V_mono (Kd.V_below HS0.out hbz) (fun k hk => .inl (.inl hk)), hbz⟩
              · have d64 : ((l0.length : Int) == 64) = false := beq_eq_false_iff_ne.2 (by omega)
                have hwr : wrap64 (u + (l1.length : Int)) = u + (l1.length : Int) := by have h1 := HG.out; have h2 := HDL.out; unfold wrap64; omega
                by_cases hbig : cap < u + (l1.length : Int)
                · have hr : refP cap l0 0 a b l1 u bn i = (l0, 4) := by unfold refP; rw [if_pos rfl, if_neg hi0, if_pos (.inr hbig)]
                  have hH := H.out
                  injection hH with h1 hH
                  injection hH with h2 h3
                  rw [hr] at h2 h3
                  replace h2 : _ = r2 := h2
                  replace h3 : _ = r3 := h3
                  subst h1; subst h2; subst h3
                  clear H hr
                  have dbig : decide (cap < u + (l1.length : Int)) = true := decide_eq_true hbig
                  clear hi0 h64 hbig
                  go_wp2
                  refine start_ (n := 16) (S := fun w' => w'.cell? ⟨w.heap.size, 1, none⟩ = some (.slice A0 l0.length c0) ∧ w'.cell? ⟨w.heap.size, 0, none⟩ = some (.int .i64 cap) ∧ w'.cell? ⟨B1, 3, none⟩ = some (.slice A1 l1.length c1)) (ds := []) #[false, false, false, false, false, false, false, false, false, false, false, false, false, false, false, false] (by kernel_rfl) rfl rfl ⟨c01, c00, d03⟩ (fun hHeld => ?_)
                  refine pure_ (i := 0) (N := some 44) (v := ?_) (a' := ?_) #[true, false, false, false, false, false, false, false, false, false, false, false, false, false, false, false] rfl rfl (by kernel_rfl) (fun _ _ _ h => h) (Or.inl ⟨by rfl, ?_⟩) ?_ ?_
                  rotate_left
                  · intro w'
                    go_simp
                    with_reducible rfl
                  rotate_left
                  · simp only [Act.put, List.setIfInBounds_toArray, List.set_cons_zero, List.set_cons_succ, i64_w, i32_w]
                    rfl
                  refine take_ (i := 1) (N := some 45) (v := ?_) (a' := ?_) #[true, true, false, false, false, false, false, false, false, false, false, false, false, false, false, false] rfl rfl (by kernel_rfl) (fun _ _ _ h => h) (Or.inl ⟨by rfl, ?_⟩) hHeld ?_ ?_
                  rotate_left
                  · rintro w' ⟨s0, s1, s2⟩
                    go_simp
                    with_reducible rfl
                  rotate_left
                  · simp only [Act.put, List.setIfInBounds_toArray, List.set_cons_zero, List.set_cons_succ, i64_w, i32_w]
                    rfl
                  refine pure_ (i := 2) (N := some 46) (v := ?_) (a' := ?_) #[true, true, true, false, false, false, false, false, false, false, false, false, false, false, false, false] rfl rfl (by kernel_rfl) (fun _ _ _ h => h) (Or.inl ⟨by rfl, ?_⟩) ?_ ?_
                  rotate_left
                  · intro w'
                    go_simp
                    with_reducible rfl
                  rotate_left
                  · simp only [Act.put, List.setIfInBounds_toArray, List.set_cons_zero, List.set_cons_succ, i64_w, i32_w]
                    rfl
                  refine pure_ (i := 3) (N := some 47) (v := ?_) (a' := ?_) #[true, true, true, true, false, false, false, false, false, false, false, false, false, false, false, false] rfl rfl (by kernel_rfl) (fun _ _ _ h => h) (Or.inl ⟨by rfl, ?_⟩) ?_ ?_
                  rotate_left
                  · intro w'
                    go_simp
                    with_reducible rfl
                  rotate_left
                  · simp only [Act.put, List.setIfInBounds_toArray, List.set_cons_zero, List.set_cons_succ, i64_w, i32_w]
                    rfl
                  refine pure_ (i := 4) (N := some 48) (v := ?_) (a' := ?_) #[true, true, true, true, true, false, false, false, false, false, false, false, false, false, false, false] rfl rfl (by kernel_rfl) (fun _ _ _ h => h) (Or.inl ⟨by rfl, ?_⟩) ?_ ?_
                  rotate_left
                  · intro w'
                    go_simp
                    with_reducible rfl
                  rotate_left
                  · simp only [Act.put, List.setIfInBounds_toArray, List.set_cons_zero, List.set_cons_succ, i64_w, i32_w]
                    rfl
                  refine pure_ (i := 5) (N := some 49) (v := ?_) (a' := ?_) #[true, true, true, true, true, true, false, false, false, false, false, false, false, false, false, false] rfl rfl (by kernel_rfl) (fun _ _ _ h => h) (Or.inl ⟨by rfl, ?_⟩) ?_ ?_
                  rotate_left
                  · intro w'
                    go_simp
                    with_reducible rfl
                  rotate_left
                  · simp only [Act.put, List.setIfInBounds_toArray, List.set_cons_zero, List.set_cons_succ, i64_w, i32_w]
                    rfl
                  refine pure_ (i := 8) (N := some 52) (v := ?_) (a' := ?_) #[true, true, true, true, true, true, false, false, true, false, false, false, false, false, false, false] rfl rfl (by kernel_rfl) (fun _ _ _ h => h) (Or.inl ⟨by rfl, ?_⟩) ?_ ?_
                  rotate_left
                  · intro w'
                    go_simp
                    with_reducible rfl
                  rotate_left
                  · simp only [Act.put, List.setIfInBounds_toArray, List.set_cons_zero, List.set_cons_succ, i64_w, i32_w]
                    rfl
                  refine pure_ (i := 12) (N := some 56) (v := ?_) (a' := ?_) #[true, true, true, true, true, true, false, false, true, false, false, false, true, false, false, false] rfl rfl (by kernel_rfl) (fun _ _ _ h => h) (Or.inl ⟨by rfl, ?_⟩) ?_ ?_
                  rotate_left
                  · intro w'
                    go_simp
                    with_reducible rfl
                  rotate_left
                  · simp only [Act.put, List.setIfInBounds_toArray, List.set_cons_zero, List.set_cons_succ, i64_w, i32_w]
                    rfl
                  refine take_ (i := 6) (N := some 50) (v := ?_) (a' := ?_) #[true, true, true, true, true, true, true, false, true, false, false, false, true, false, false, false] rfl rfl (by kernel_rfl) (fun _ _ _ h => h) (Or.inl ⟨by rfl, ?_⟩) hHeld ?_ ?_
                  rotate_left
                  · rintro w' ⟨s0, s1, s2⟩
                    go_simp
                    with_reducible rfl
                  rotate_left
                  · simp only [Act.put, List.setIfInBounds_toArray, List.set_cons_zero, List.set_cons_succ, i64_w, i32_w]
                    rfl
                  refine take_ (i := 9) (N := some 53) (v := ?_) (a' := ?_) #[true, true, true, true, true, true, true, false, true, true, false, false, true, false, false, false] rfl rfl (by kernel_rfl) (fun _ _ _ h => h) (Or.inl ⟨by rfl, ?_⟩) hHeld ?_ ?_
                  rotate_left
                  · rintro w' ⟨s0, s1, s2⟩
                    go_simp
                    with_reducible rfl
                  rotate_left
                  · simp only [Act.put, List.setIfInBounds_toArray, List.set_cons_zero, List.set_cons_succ, i64_w, i32_w]
                    rfl
                  refine pure_ (i := 10) (N := some 54) (v := ?_) (a' := ?_) #[true, true, true, true, true, true, true, false, true, true, true, false, true, false, false, false] rfl rfl (by kernel_rfl) (fun _ _ _ h => h) (Or.inl ⟨by rfl, ?_⟩) ?_ ?_
                  rotate_left
                  · intro w'
                    go_simp
                    with_reducible rfl
                  rotate_left
                  · simp only [Act.put, List.setIfInBounds_toArray, List.set_cons_zero, List.set_cons_succ, i64_w, i32_w]
                    rfl
                  refine take_ (i := 13) (N := some 57) (v := ?_) (a' := ?_) #[true, true, true, true, true, true, true, false, true, true, true, false, true, true, false, false] rfl rfl (by kernel_rfl) (fun _ _ _ h => h) (Or.inl ⟨by rfl, ?_⟩) hHeld ?_ ?_
                  rotate_left
                  · rintro w' ⟨s0, s1, s2⟩
                    go_simp
                    with_reducible rfl
                  rotate_left
                  · simp only [Act.put, List.setIfInBounds_toArray, List.set_cons_zero, List.set_cons_succ, i64_w, i32_w]
                    rfl
                  refine one_ (i := 7) (N := some 51) #[true, true, true, true, true, true, true, true, true, true, true, false, true, true, false, false] rfl rfl (by kernel_rfl) (by decide) (fun K hK => ?_)
                  refine goes_ Try.func32 (by kernel_rfl) rfl #[.slice A0 l0.length c0] (by rfl) rfl rfl (by simp only [List.map_toArray, List.map_cons, List.map_nil]; rfl) ?_
                  with_reducible refine (catchwordref03_used.calls k A0 c0 l0 u w4.drew (Kd.C_below HR0.out (below_drew HBB.out)) hc0 HU.out).mono ?_
                  rintro e w5 ⟨rfl, hd⟩
                  refine ⟨_, rfl, ?_⟩
                  have hbd := drawn_below hd
                  have HB45 := Aside0.mk (below_step (below_drew (Below.refl w4.heap.size w4)) hbd)
                  refine hK.out _ _ ⟨pw_cell_below hbd hHeld.1, pw_cell_below hbd hHeld.2.1, pw_cell_below hbd hHeld.2.2⟩ (fun hHeld => ?_)
                  clear hK K
                  refine norm_ (a' := ?_) ?_ ?_
                  rotate_left
                  · show Act.put _ (some 51) _ = _
                    simp only [Act.put, List.setIfInBounds_toArray, List.set_cons_zero, List.set_cons_succ, i64_w, i32_w]
                    rfl
                  refine pure_ (i := 11) (N := some 55) (v := ?_) (a' := ?_) #[true, true, true, true, true, true, true, true, true, true, true, true, true, true, false, false] rfl rfl (by kernel_rfl) (fun _ _ _ h => h) (Or.inl ⟨by rfl, ?_⟩) ?_ ?_
                  rotate_left
                  · intro w'
                    go_simp
                    with_reducible rfl
                  rotate_left
                  · simp only [Act.put, List.setIfInBounds_toArray, List.set_cons_zero, List.set_cons_succ, i64_w, i32_w]
                    rfl
                  refine pure_ (i := 14) (N := some 58) (v := ?_) (a' := ?_) #[true, true, true, true, true, true, true, true, true, true, true, true, true, true, true, false] rfl rfl (by kernel_rfl) (fun _ _ _ h => h) (Or.inl ⟨by rfl, ?_⟩) ?_ ?_
                  rotate_left
                  · intro w'
                    go_simp
                    with_reducible rfl
                  rotate_left
                  · simp only [Act.put, List.setIfInBounds_toArray, List.set_cons_zero, List.set_cons_succ, i64_w, i32_w]
                    rfl
                  refine pure_ (i := 15) (N := some 59) (v := ?_) (a' := ?_) #[true, true, true, true, true, true, true, true, true, true, true, true, true, true, true, true] rfl rfl (by kernel_rfl) (fun _ _ _ h => h) (Or.inl ⟨by rfl, ?_⟩) ?_ ?_
                  rotate_left
                  · intro w'
                    go_simp
                    with_reducible rfl
                  rotate_left
                  · simp only [Act.put, List.setIfInBounds_toArray, List.set_cons_zero, List.set_cons_succ, i64_w, i32_w]
                    rfl
                  refine done_ (by kernel_rfl) ?_
                  have hb := HB45.out
                  have n0_ := Aside0.mk (below_step HBB.out hb)
                  have n2_ := Aside0.mk (blk_below BK2.out hb)
                  replace c00 := pw_cell_below hb c00
                  replace c01 := pw_cell_below hb c01
                  replace d00 := pw_cell_below hb d00
                  replace d01 := pw_cell_below hb d01
                  replace d02 := pw_cell_below hb d02
                  replace d03 := pw_cell_below hb d03
                  replace e00 := pw_cell_below hb e00
                  replace e01 := pw_cell_below hb e01
                  clear HBB BK2 f00 f01 hb
                  have HBB := n0_
                  have BK2 := n2_
                  have f00 := blk_frozen BK2.out 0
                  have f01 := blk_frozen BK2.out 1
                  clear n0_ n2_
                  go_wp2
                  have hG := blk_set (blk_set BK2.out 0 (.int .i64 cap)) 1 (.slice A0 l0.length c0)
                  refine bodyPost_ret (results_ct rfl _ _ B2 24 #[.int .i64 cap, .slice A0 l0.length c0] (0, 0) _ rfl hG Try.underlying24 rfl (by kernel_rfl)) rfl ?_
                  have hbz := below_set (j := 1) (v := .slice A0 l0.length c0) (below_set (j := 0) (v := .int .i64 cap) HBB.out (Nat.le_of_lt HB2.out)) (Nat.le_of_lt HB2.out)
                  exact ⟨_, rfl, Kd.V_mono (Kd.V_below HS0.out hbz) (fun k hk => .inl (.inl hk)), hbz⟩
                · have hr : refP cap l0 0 a b l1 u bn i = (insX ⟨a, l1, false⟩ l0, 0) := by unfold refP; rw [if_pos rfl, if_neg hi0, if_neg (by rintro (h | h); (· exact h64 h); (· exact hbig h))]
                  have hH := H.out
                  injection hH with h1 hH
                  injection hH with h2 h3
                  rw [hr] at h2 h3
                  replace h2 : _ = r2 := h2
                  replace h3 : _ = r3 := h3
                  subst h1; subst h2; subst h3
                  clear H hr
                  have dbig : decide (cap < u + (l1.length : Int)) = false := decide_eq_false hbig
                  clear hi0 h64 hbig
                  go_wp2
                  refine start_ (n := 16) (S := fun w' => w'.cell? ⟨w.heap.size, 1, none⟩ = some (.slice A0 l0.length c0) ∧ w'.cell? ⟨w.heap.size, 0, none⟩ = some (.int .i64 cap) ∧ w'.cell? ⟨B1, 3, none⟩ = some (.slice A1 l1.length c1)) (ds := []) #[false, false, false, false, false, false, false, false, false, false, false, false, false, false, false, false] (by kernel_rfl) rfl rfl ⟨c01, c00, d03⟩ (fun hHeld => ?_)
                  refine pure_ (i := 0) (N := some 44) (v := ?_) (a' := ?_) #[true, false, false, false, false, false, false, false, false, false, false, false, false, false, false, false] rfl rfl (by kernel_rfl) (fun _ _ _ h => h) (Or.inl ⟨by rfl, ?_⟩) ?_ ?_
                  rotate_left
                  · intro w'
                    go_simp
                    with_reducible rfl
                  rotate_left
                  · simp only [Act.put, List.setIfInBounds_toArray, List.set_cons_zero, List.set_cons_succ, i64_w, i32_w]
                    rfl
                  refine take_ (i := 1) (N := some 45) (v := ?_) (a' := ?_) #[true, true, false, false, false, false, false, false, false, false, false, false, false, false, false, false] rfl rfl (by kernel_rfl) (fun _ _ _ h => h) (Or.inl ⟨by rfl, ?_⟩) hHeld ?_ ?_
                  rotate_left
                  · rintro w' ⟨s0, s1, s2⟩
                    go_simp
                    with_reducible rfl
                  rotate_left
                  · simp only [Act.put, List.setIfInBounds_toArray, List.set_cons_zero, List.set_cons_succ, i64_w, i32_w]
                    rfl
                  refine pure_ (i := 2) (N := some 46) (v := ?_) (a' := ?_) #[true, true, true, false, false, false, false, false, false, false, false, false, false, false, false, false] rfl rfl (by kernel_rfl) (fun _ _ _ h => h) (Or.inl ⟨by rfl, ?_⟩) ?_ ?_
                  rotate_left
                  · intro w'
                    go_simp
                    with_reducible rfl
                  rotate_left
                  · simp only [Act.put, List.setIfInBounds_toArray, List.set_cons_zero, List.set_cons_succ, i64_w, i32_w]
                    rfl
                  refine pure_ (i := 3) (N := some 47) (v := ?_) (a' := ?_) #[true, true, true, true, false, false, false, false, false, false, false, false, false, false, false, false] rfl rfl (by kernel_rfl) (fun _ _ _ h => h) (Or.inl ⟨by rfl, ?_⟩) ?_ ?_
                  rotate_left
                  · intro w'
                    go_simp
                    with_reducible rfl
                  rotate_left
                  · simp only [Act.put, List.setIfInBounds_toArray, List.set_cons_zero, List.set_cons_succ, i64_w, i32_w]
                    rfl
                  refine pure_ (i := 4) (N := some 48) (v := ?_) (a' := ?_) #[true, true, true, true, true, false, false, false, false, false, false, false, false, false, false, false] rfl rfl (by kernel_rfl) (fun _ _ _ h => h) (Or.inl ⟨by rfl, ?_⟩) ?_ ?_
                  rotate_left
                  · intro w'
                    go_simp
                    with_reducible rfl
                  rotate_left
                  · simp only [Act.put, List.setIfInBounds_toArray, List.set_cons_zero, List.set_cons_succ, i64_w, i32_w]
                    rfl
                  refine pure_ (i := 5) (N := some 49) (v := ?_) (a' := ?_) #[true, true, true, true, true, true, false, false, false, false, false, false, false, false, false, false] rfl rfl (by kernel_rfl) (fun _ _ _ h => h) (Or.inl ⟨by rfl, ?_⟩) ?_ ?_
                  rotate_left
                  · intro w'
                    go_simp
                    with_reducible rfl
                  rotate_left
                  · simp only [Act.put, List.setIfInBounds_toArray, List.set_cons_zero, List.set_cons_succ, i64_w, i32_w]
                    rfl
                  refine pure_ (i := 8) (N := some 52) (v := ?_) (a' := ?_) #[true, true, true, true, true, true, false, false, true, false, false, false, false, false, false, false] rfl rfl (by kernel_rfl) (fun _ _ _ h => h) (Or.inl ⟨by rfl, ?_⟩) ?_ ?_
                  rotate_left
                  · intro w'
                    go_simp
                    with_reducible rfl
                  rotate_left
                  · simp only [Act.put, List.setIfInBounds_toArray, List.set_cons_zero, List.set_cons_succ, i64_w, i32_w]
                    rfl
                  refine pure_ (i := 12) (N := some 56) (v := ?_) (a' := ?_) #[true, true, true, true, true, true, false, false, true, false, false, false, true, false, false, false] rfl rfl (by kernel_rfl) (fun _ _ _ h => h) (Or.inl ⟨by rfl, ?_⟩) ?_ ?_
                  rotate_left
                  · intro w'
                    go_simp
                    with_reducible rfl
                  rotate_left
                  · simp only [Act.put, List.setIfInBounds_toArray, List.set_cons_zero, List.set_cons_succ, i64_w, i32_w]
                    rfl
                  refine take_ (i := 6) (N := some 50) (v := ?_) (a' := ?_) #[true, true, true, true, true, true, true, false, true, false, false, false, true, false, false, false] rfl rfl (by kernel_rfl) (fun _ _ _ h => h) (Or.inl ⟨by rfl, ?_⟩) hHeld ?_ ?_
                  rotate_left
                  · rintro w' ⟨s0, s1, s2⟩
                    go_simp
                    with_reducible rfl
                  rotate_left
                  · simp only [Act.put, List.setIfInBounds_toArray, List.set_cons_zero, List.set_cons_succ, i64_w, i32_w]
                    rfl
                  refine take_ (i := 9) (N := some 53) (v := ?_) (a' := ?_) #[true, true, true, true, true, true, true, false, true, true, false, false, true, false, false, false] rfl rfl (by kernel_rfl) (fun _ _ _ h => h) (Or.inl ⟨by rfl, ?_⟩) hHeld ?_ ?_
                  rotate_left
                  · rintro w' ⟨s0, s1, s2⟩
                    go_simp
                    with_reducible rfl
                  rotate_left
                  · simp only [Act.put, List.setIfInBounds_toArray, List.set_cons_zero, List.set_cons_succ, i64_w, i32_w]
                    rfl
                  refine pure_ (i := 10) (N := some 54) (v := ?_) (a' := ?_) #[true, true, true, true, true, true, true, false, true, true, true, false, true, false, false, false] rfl rfl (by kernel_rfl) (fun _ _ _ h => h) (Or.inl ⟨by rfl, ?_⟩) ?_ ?_
                  rotate_left
                  · intro w'
                    go_simp
                    with_reducible rfl
                  rotate_left
                  · simp only [Act.put, List.setIfInBounds_toArray, List.set_cons_zero, List.set_cons_succ, i64_w, i32_w]
                    rfl
                  refine take_ (i := 13) (N := some 57) (v := ?_) (a' := ?_) #[true, true, true, true, true, true, true, false, true, true, true, false, true, true, false, false] rfl rfl (by kernel_rfl) (fun _ _ _ h => h) (Or.inl ⟨by rfl, ?_⟩) hHeld ?_ ?_
                  rotate_left
                  · rintro w' ⟨s0, s1, s2⟩
                    go_simp
                    with_reducible rfl
                  rotate_left
                  · simp only [Act.put, List.setIfInBounds_toArray, List.set_cons_zero, List.set_cons_succ, i64_w, i32_w]
                    rfl
                  refine one_ (i := 7) (N := some 51) #[true, true, true, true, true, true, true, true, true, true, true, false, true, true, false, false] rfl rfl (by kernel_rfl) (by decide) (fun K hK => ?_)
                  refine goes_ Try.func32 (by kernel_rfl) rfl #[.slice A0 l0.length c0] (by rfl) rfl rfl (by simp only [List.map_toArray, List.map_cons, List.map_nil]; rfl) ?_
                  with_reducible refine (catchwordref03_used.calls k A0 c0 l0 u w4.drew (Kd.C_below HR0.out (below_drew HBB.out)) hc0 HU.out).mono ?_
                  rintro e w5 ⟨rfl, hd⟩
                  refine ⟨_, rfl, ?_⟩
                  have hbd := drawn_below hd
                  have HB45 := Aside0.mk (below_step (below_drew (Below.refl w4.heap.size w4)) hbd)
                  refine hK.out _ _ ⟨pw_cell_below hbd hHeld.1, pw_cell_below hbd hHeld.2.1, pw_cell_below hbd hHeld.2.2⟩ (fun hHeld => ?_)
                  clear hK K
                  refine norm_ (a' := ?_) ?_ ?_
                  rotate_left
                  · show Act.put _ (some 51) _ = _
                    simp only [Act.put, List.setIfInBounds_toArray, List.set_cons_zero, List.set_cons_succ, i64_w, i32_w]
                    rfl
                  refine pure_ (i := 11) (N := some 55) (v := ?_) (a' := ?_) #[true, true, true, true, true, true, true, true, true, true, true, true, true, true, false, false] rfl rfl (by kernel_rfl) (fun _ _ _ h => h) (Or.inl ⟨by rfl, ?_⟩) ?_ ?_
                  rotate_left
                  · intro w'
                    go_simp
                    with_reducible rfl
                  rotate_left
                  · simp only [Act.put, List.setIfInBounds_toArray, List.set_cons_zero, List.set_cons_succ, i64_w, i32_w]
                    rfl
                  refine pure_ (i := 14) (N := some 58) (v := ?_) (a' := ?_) #[true, true, true, true, true, true, true, true, true, true, true, true, true, true, true, false] rfl rfl (by kernel_rfl) (fun _ _ _ h => h) (Or.inl ⟨by rfl, ?_⟩) ?_ ?_
                  rotate_left
                  · intro w'
                    go_simp
                    with_reducible rfl
                  rotate_left
                  · simp only [Act.put, List.setIfInBounds_toArray, List.set_cons_zero, List.set_cons_succ, i64_w, i32_w]
                    rfl
                  refine pure_ (i := 15) (N := some 59) (v := ?_) (a' := ?_) #[true, true, true, true, true, true, true, true, true, true, true, true, true, true, true, true] rfl rfl (by kernel_rfl) (fun _ _ _ h => h) (Or.inl ⟨by rfl, ?_⟩) ?_ ?_
                  rotate_left
                  · intro w'
                    go_simp
                    with_reducible rfl
                  rotate_left
                  · simp only [Act.put, List.setIfInBounds_toArray, List.set_cons_zero, List.set_cons_succ, i64_w, i32_w]
                    rfl
                  refine done_ (by kernel_rfl) ?_
                  have hb := HB45.out
                  have n0_ := Aside0.mk (below_step HBB.out hb)
                  have n2_ := Aside0.mk (blk_below BK2.out hb)
                  replace c00 := pw_cell_below hb c00
                  replace c01 := pw_cell_below hb c01
                  replace d00 := pw_cell_below hb d00
                  replace d01 := pw_cell_below hb d01
                  replace d02 := pw_cell_below hb d02
                  replace d03 := pw_cell_below hb d03
                  replace e00 := pw_cell_below hb e00
                  replace e01 := pw_cell_below hb e01
                  clear HBB BK2 f00 f01 hb
                  have HBB := n0_
                  have BK2 := n2_
                  have f00 := blk_frozen BK2.out 0
                  have f01 := blk_frozen BK2.out 1
                  clear n0_ n2_
                  go_wp2
                  refine start_ (n := 13) (S := fun w' => w'.cell? ⟨w.heap.size, 0, none⟩ = some (.int .i64 cap) ∧ w'.cell? ⟨w.heap.size, 1, none⟩ = some (.slice A0 l0.length c0) ∧ w'.cell? ⟨B1, 1, none⟩ = some (.string a) ∧ w'.cell? ⟨B1, 3, none⟩ = some (.slice A1 l1.length c1)) (ds := [11]) #[false, false, false, false, false, false, false, false, false, false, false, false, false] (by kernel_rfl) rfl rfl ⟨c00, c01, d01, d03⟩ (fun hHeld => ?_)
                  refine pure_ (i := 0) (N := some 61) (v := ?_) (a' := ?_) #[true, false, false, false, false, false, false, false, false, false, false, false, false] rfl rfl (by kernel_rfl) (fun _ _ _ h => h) (Or.inl ⟨by rfl, ?_⟩) ?_ ?_
                  rotate_left
                  · intro w'
                    go_simp
                    with_reducible rfl
                  rotate_left
                  · simp only [Act.put, List.setIfInBounds_toArray, List.set_cons_zero, List.set_cons_succ, i64_w, i32_w]
                    rfl
                  refine pure_ (i := 2) (N := some 63) (v := ?_) (a' := ?_) #[true, false, true, false, false, false, false, false, false, false, false, false, false] rfl rfl (by kernel_rfl) (fun _ _ _ h => h) (Or.inl ⟨by rfl, ?_⟩) ?_ ?_
                  rotate_left
                  · intro w'
                    go_simp
                    with_reducible rfl
                  rotate_left
                  · simp only [Act.put, List.setIfInBounds_toArray, List.set_cons_zero, List.set_cons_succ, i64_w, i32_w]
                    rfl
                  refine pure_ (i := 4) (N := some 65) (v := ?_) (a' := ?_) #[true, false, true, false, true, false, false, false, false, false, false, false, false] rfl rfl (by kernel_rfl) (fun _ _ _ h => h) (Or.inl ⟨by rfl, ?_⟩) ?_ ?_
                  rotate_left
                  · intro w'
                    go_simp
                    with_reducible rfl
                  rotate_left
                  · simp only [Act.put, List.setIfInBounds_toArray, List.set_cons_zero, List.set_cons_succ, i64_w, i32_w]
                    rfl
                  refine pure_ (i := 6) (N := some 67) (v := ?_) (a' := ?_) #[true, false, true, false, true, false, true, false, false, false, false, false, false] rfl rfl (by kernel_rfl) (fun _ _ _ h => h) (Or.inl ⟨by rfl, ?_⟩) ?_ ?_
                  rotate_left
                  · intro w'
                    go_simp
                    with_reducible rfl
                  rotate_left
                  · simp only [Act.put, List.setIfInBounds_toArray, List.set_cons_zero, List.set_cons_succ, i64_w, i32_w]
                    rfl
                  refine take_ (i := 1) (N := some 62) (v := ?_) (a' := ?_) #[true, true, true, false, true, false, true, false, false, false, false, false, false] rfl rfl (by kernel_rfl) (fun _ _ _ h => h) (Or.inl ⟨by rfl, ?_⟩) hHeld ?_ ?_
                  rotate_left
                  · rintro w' ⟨s0, s1, s2, s3⟩
                    go_simp
                    with_reducible rfl
                  rotate_left
                  · simp only [Act.put, List.setIfInBounds_toArray, List.set_cons_zero, List.set_cons_succ, i64_w, i32_w]
                    rfl
                  refine take_ (i := 3) (N := some 64) (v := ?_) (a' := ?_) #[true, true, true, true, true, false, true, false, false, false, false, false, false] rfl rfl (by kernel_rfl) (fun _ _ _ h => h) (Or.inl ⟨by rfl, ?_⟩) hHeld ?_ ?_
                  rotate_left
                  · rintro w' ⟨s0, s1, s2, s3⟩
                    go_simp
                    with_reducible rfl
                  rotate_left
                  · simp only [Act.put, List.setIfInBounds_toArray, List.set_cons_zero, List.set_cons_succ, i64_w, i32_w]
                    rfl
                  refine take_ (i := 5) (N := some 66) (v := ?_) (a' := ?_) #[true, true, true, true, true, true, true, false, false, false, false, false, false] rfl rfl (by kernel_rfl) (fun _ _ _ h => h) (Or.inl ⟨by rfl, ?_⟩) hHeld ?_ ?_
                  rotate_left
                  · rintro w' ⟨s0, s1, s2, s3⟩
                    go_simp
                    with_reducible rfl
                  rotate_left
                  · simp only [Act.put, List.setIfInBounds_toArray, List.set_cons_zero, List.set_cons_succ, i64_w, i32_w]
                    rfl
                  refine take_ (i := 7) (N := some 68) (v := ?_) (a' := ?_) #[true, true, true, true, true, true, true, true, false, false, false, false, false] rfl rfl (by kernel_rfl) (fun _ _ _ h => h) (Or.inl ⟨by rfl, ?_⟩) hHeld ?_ ?_
                  rotate_left
                  · rintro w' ⟨s0, s1, s2, s3⟩
                    go_simp
                    with_reducible rfl
                  rotate_left
                  · simp only [Act.put, List.setIfInBounds_toArray, List.set_cons_zero, List.set_cons_succ, i64_w, i32_w]
                    rfl
                  refine pure_ (i := 8) (N := some 69) (v := ?_) (a' := ?_) #[true, true, true, true, true, true, true, true, true, false, false, false, false] rfl rfl (by kernel_rfl) (fun _ _ _ h => h) (Or.inl ⟨by rfl, ?_⟩) ?_ ?_
                  rotate_left
                  · intro w'
                    go_simp
                    with_reducible rfl
                  rotate_left
                  · simp only [Act.put, List.setIfInBounds_toArray, List.set_cons_zero, List.set_cons_succ, i64_w, i32_w]
                    rfl
                  refine one_ (i := 9) (N := some 70) #[true, true, true, true, true, true, true, true, true, true, false, false, false] rfl rfl (by kernel_rfl) (by decide) (fun K hK => ?_)
                  refine goes_ Try.func44 (by kernel_rfl) rfl #[.slice A0 l0.length c0, .agg #[.string a, .slice A1 l1.length c1, .bool false]] (by rfl) rfl rfl (by simp only [List.map_toArray, List.map_cons, List.map_nil]; rfl) ?_
                  with_reducible refine (HWI.out w5.drew (below_drew HBB.out)).mono ?_
                  rintro e w6 ⟨v, rfl, hR, hb⟩
                  refine ⟨_, rfl, ?_⟩
                  obtain ⟨Av, cv, ev⟩ := Kd.R_slice hR
                  subst ev
                  have HRV := Aside0.mk hR
                  have BK6 := Aside0.mk (blk_below (blk_drew BK2.out) hb)
                  have HB6 := Aside0.mk (below_step (below_drew HBB.out) hb)
                  refine hK.out _ _ ⟨pw_cell_below hb hHeld.1, pw_cell_below hb hHeld.2.1, pw_cell_below hb hHeld.2.2.1, pw_cell_below hb hHeld.2.2.2⟩ (fun hHeld => ?_)
                  clear hK K
                  refine norm_ (a' := ?_) ?_ ?_
                  rotate_left
                  · show Act.put _ (some 70) _ = _
                    simp only [Act.put, List.setIfInBounds_toArray, List.set_cons_zero, List.set_cons_succ, i64_w, i32_w]
                    rfl
                  refine pure_ (i := 10) (N := some 71) (v := ?_) (a' := ?_) #[true, true, true, true, true, true, true, true, true, true, true, false, false] rfl rfl (by kernel_rfl) (fun _ _ _ h => h) (Or.inl ⟨by rfl, ?_⟩) ?_ ?_
                  rotate_left
                  · intro w'
                    go_simp
                    with_reducible rfl
                  rotate_left
                  · simp only [Act.put, List.setIfInBounds_toArray, List.set_cons_zero, List.set_cons_succ, i64_w, i32_w]
                    rfl
                  refine last_ (i := 11) (N := none) #[true, true, true, true, true, true, true, true, true, true, true, true, false] rfl rfl (by kernel_rfl) (by decide) (fun K hK => ?_)
                  have e0_ : w6.cell? ⟨B2, 0, none⟩ = some (.int .i64 0) := (blk_cell BK6.out 0).trans rfl
                  have e1_ : w6.cell? ⟨B2, 1, none⟩ = some (.slice none 0 0) := (blk_cell BK6.out 1).trans rfl
                  have g0_ := blk_frozen BK6.out 0
                  have g1_ := blk_frozen BK6.out 1
                  refine skip_ (w1 := ?_) (by rfl) rfl ?_ ?_
                  rotate_left
                  · go_simp
                    rfl
                  refine hK.out _ _ ?_
                  clear hK K
                  refine pure_ (i := 12) (N := some 5) (v := ?_) (a' := ?_) #[true, true, true, true, true, true, true, true, true, true, true, true, true] rfl rfl (by kernel_rfl) (fun _ _ _ h => h) (Or.inl ⟨by rfl, ?_⟩) ?_ ?_
                  rotate_left
                  · intro w'
                    go_simp
                    with_reducible rfl
                  rotate_left
                  · simp only [Act.put, List.setIfInBounds_toArray, List.set_cons_zero, List.set_cons_succ, i64_w, i32_w]
                    rfl
                  refine done_ (by kernel_rfl) ?_
                  go_wp2
                  have hG := blk_set (blk_set BK6.out 0 (.int .i64 cap)) 1 (.slice Av (insF (⟨a, (A1, l1.length, c1), false⟩ : SF) fs).length cv)
                  refine bodyPost_ret (results_ct rfl _ _ B2 24 #[.int .i64 cap, .slice Av (insF (⟨a, (A1, l1.length, c1), false⟩ : SF) fs).length cv] (0, 0) _ rfl hG Try.underlying24 rfl (by kernel_rfl)) rfl ?_
                  exact ⟨_, rfl, fin_V2 BK6.out HRV.out (fun k hk => .inr (Nat.le_trans (below_size HBB.out) hk)) ((HAV.out.ins HD1.out).below HB6.out) (fun k hk => ⟨.inl hk.1, fun e => by have h1 := HB2.out; have h2 := hk.2; omega⟩) _ _, below_set (below_set HB6.out (Nat.le_of_lt HB2.out)) (Nat.le_of_lt HB2.out)⟩
          · clear HK HU
            by_cases hi0 : i < 0
            · have hr : refP cap l0 1 a b l1 u bn i = (l0, 2) := by unfold refP; rw [if_neg (by decide), if_neg (by rintro ⟨h, _⟩; exact absurd h (by decide)), if_pos hi0]
              have hH := H.out
              injection hH with h1 hH
              injection hH with h2 h3
              rw [hr] at h2 h3
              replace h2 : _ = r2 := h2
              replace h3 : _ = r3 := h3
              subst h1; subst h2; subst h3
              clear H hr
              have di : decide (i < 0) = true := decide_eq_true hi0
              clear hi0
              go_upto_region 15 with (first | (go_at_call 30; (refine (catchwordref03_Name.calls k b bn _ HBN.out).mono ?_); rintro e w5 ⟨rfl, hd⟩; have hb := drawn_below hd; clear hd; have n0_ := Aside0.mk (below_step HBB.out hb); have n2_ := Aside0.mk (blk_below BK2.out hb); replace c00 := pw_cell_below hb c00; replace c01 := pw_cell_below hb c01; replace d00 := pw_cell_below hb d00; replace d01 := pw_cell_below hb d01; replace d02 := pw_cell_below hb d02; replace d03 := pw_cell_below hb d03; replace e00 := pw_cell_below hb e00; replace e01 := pw_cell_below hb e01; clear HBB BK2 f00 f01; have HBB := n0_; have BK2 := n2_; have f00 := blk_frozen BK2.out 0; have f01 := blk_frozen BK2.out 1; clear n0_ n2_ hb))
              go_wp2
              have hG := blk_set (blk_set BK2.out 0 (.int .i64 cap)) 1 (.slice A0 l0.length c0)
              refine bodyPost_ret (results_ct rfl _ _ B2 24 #[.int .i64 cap, .slice A0 l0.length c0] (0, 0) _ rfl hG Try.underlying24 rfl (by kernel_rfl)) rfl ?_
              have hbz := below_set (j := 1) (v := .slice A0 l0.length c0) (below_set (j := 0) (v := .int .i64 cap) HBB.out (Nat.le_of_lt HB2.out)) (Nat.le_of_lt HB2.out)
              exact ⟨_, rfl, Kd.V_mono (Kd.V_below HS0.out hbz) (fun k hk => .inl (.inl hk)), hbz⟩
            · obtain ⟨ni, rfl⟩ := Int.eq_ofNat_of_zero_le (show 0 ≤ i by omega)
              have hnl : ni < l0.length := by have h1 := HG.out.1.1; omega
              have hr : refP cap l0 1 a b l1 u bn (ni : Int) = (insX ⟨(rd_T48 l0 (ni : Int)).f0, (rd_T48 l0 (ni : Int)).f1, true⟩ (delX a l0), 0) := by unfold refP; rw [if_neg (by decide), if_neg (by rintro ⟨h, _⟩; exact absurd h (by decide)), if_neg hi0, if_pos rfl]
              have hH := H.out
              injection hH with h1 hH
              injection hH with h2 h3
              rw [hr] at h2 h3
              replace h2 : _ = r2 := h2
              replace h3 : _ = r3 := h3
              subst h1; subst h2; subst h3
              clear H hr
              have di : decide ((ni : Int) < 0) = false := decide_eq_false (by omega)
              have dil : decide ((ni : Int) < (l0.length : Int)) = true := decide_eq_true (by omega)
              have diln : decide (ni < l0.length) = true := decide_eq_true hnl
              clear hi0
              go_upto_region 17 with (first | (go_at_call 30; (refine (catchwordref03_Name.calls k b bn _ HBN.out).mono ?_); rintro e w5 ⟨rfl, hd⟩; have hb := drawn_below hd; clear hd; have n0_ := Aside0.mk (below_step HBB.out hb); have n2_ := Aside0.mk (blk_below BK2.out hb); replace c00 := pw_cell_below hb c00; replace c01 := pw_cell_below hb c01; replace d00 := pw_cell_below hb d00; replace d01 := pw_cell_below hb d01; replace d02 := pw_cell_below hb d02; replace d03 := pw_cell_below hb d03; replace e00 := pw_cell_below hb e00; replace e01 := pw_cell_below hb e01; clear HBB BK2 f00 f01; have HBB := n0_; have BK2 := n2_; have f00 := blk_frozen BK2.out 0; have f01 := blk_frozen BK2.out 1; clear n0_ n2_ hb))
              have hfl := HFL.out
              obtain ⟨ad, e1, g0, g1, g2⟩ := at_TF (Kd.C_below HCF.out HBB.out) (ni : Int) (by omega) (by omega)
              subst e1
              rw [Int.toNat_natCast] at g0 g1 g2
              have hxi : l0[ni]? = some (rd_T48 l0 (ni : Int)) := by unfold rd_T48; rw [Int.toNat_natCast, List.getD_eq_getElem?_getD, List.getElem?_eq_getElem hnl]; rfl
              have hbe := HAV.out.2 ni (rd_TF fs (ni : Int)) _ (by unfold rd_TF; rw [Int.toNat_natCast, List.getD_eq_getElem?_getD, List.getElem?_eq_getElem (by omega)]; rfl) hxi
              have hzs : (rd_TF fs (ni : Int)).f0.size ≤ 9223372036854775807 := HFZ.out _ (by unfold rd_TF; rw [Int.toNat_natCast, List.getD_eq_getElem?_getD, List.getElem?_eq_getElem (by omega)]; exact List.getElem_mem _)
              clear hfl hxi
              generalize rd_TF fs (ni : Int) = s at g0 g1 g2 hbe hzs
              obtain ⟨s0, ⟨B1_, n1, m1⟩, s2⟩ := s
              have HBE := Aside0.mk hbe
              have HZS := Aside0.mk (show s0.size ≤ 9223372036854775807 from hzs)
              clear hbe hzs
              replace g0 : w5.cell? (ad.add (ni * 3)) = some (.string s0) := g0
              replace g1 : w5.cell? ⟨(ad.add (ni * 3)).block, (ad.add (ni * 3)).off + 1, none⟩ = some (.slice B1_ n1 m1) := g1
              replace g2 : w5.cell? ⟨(ad.add (ni * 3)).block, (ad.add (ni * 3)).off + 2, none⟩ = some (.bool s2) := g2
              go_upto_region 18 with fail
              have BF := Aside0.mk (blk_new w5 (.cells #[.string s0, .slice B1_ n1 m1, .bool s2] 48))
              have HF0 := Aside0.mk (show w.heap.size < w5.heap.size from Nat.lt_trans HB2.out (blk_lt BK2.out))
              have HFB := Aside0.mk (show B2 ≠ w5.heap.size from Nat.ne_of_lt (blk_lt BK2.out))
              have HFB1 := Aside0.mk (show B1 ≠ w5.heap.size from Nat.ne_of_lt (World.block_lt_of_cell? w5 ⟨B1, 0, none⟩ d00))
              clear g0 g1 g2
              have hb := below_alloc (Below.refl w5.heap.size w5) (.cells #[.string s0, .slice B1_ n1 m1, .bool s2] 48)
              have n0_ := Aside0.mk (below_step HBB.out hb)
              have n2_ := Aside0.mk (blk_below BK2.out hb)
              replace c00 := pw_cell_below hb c00
              replace c01 := pw_cell_below hb c01
              replace d00 := pw_cell_below hb d00
              replace d01 := pw_cell_below hb d01
              replace d02 := pw_cell_below hb d02
              replace d03 := pw_cell_below hb d03
              replace e00 := pw_cell_below hb e00
              replace e01 := pw_cell_below hb e01
              clear HBB BK2 f00 f01 hb
              have HBB := n0_
              have BK2 := n2_
              have f00 := blk_frozen BK2.out 0
              have f01 := blk_frozen BK2.out 1
              clear n0_ n2_
              generalize (w5.alloc (.cells #[.string s0, .slice B1_ n1 m1, .bool s2] 48)) = wf at *
              have HFW := Aside0.mk (show w5.heap.size < wf.heap.size from blk_lt BF.out)
              generalize w5.heap.size = F at *
              have HLd := Aside0.mk (show (delN a fs).length ≤ 100000 from Nat.le_trans (delN_le a fs) (Nat.le_succ_of_le HL9.out))
              have HZd := Aside0.mk (show ∀ y ∈ delN a fs, y.f0.size ≤ 9223372036854775807 from fun y hy => HFZ.out y (delN_mem hy))
              go_upto_region 22 with (first | (go_at_call 45; (refine (HWO.out _ HBB.out).mono ?_); rintro e w6 ⟨v, rfl, hR, hb⟩; obtain ⟨Av, cv, ev⟩ := Kd.R_slice hR; subst ev; have HR6 := Aside0.mk hR; have BF6 := Aside0.mk (blk_below BF.out hb); have x0_ : w6.cell? ⟨F, 0, none⟩ = some (.string s0) := (blk_cell BF6.out 0).trans rfl; have x1_ : w6.cell? ⟨F, 1, none⟩ = some (.slice B1_ n1 m1) := (blk_cell BF6.out 1).trans rfl; have x2_ : w6.cell? ⟨F, 2, none⟩ = some (.bool s2) := (blk_cell BF6.out 2).trans rfl; have y0_ := blk_frozen BF6.out 0; have y2_ := blk_frozen BF6.out 2; clear hR; have n0_ := Aside0.mk (below_step HBB.out hb); have n2_ := Aside0.mk (blk_below BK2.out hb); replace c00 := pw_cell_below hb c00; replace c01 := pw_cell_below hb c01; replace d00 := pw_cell_below hb d00; replace d01 := pw_cell_below hb d01; replace d02 := pw_cell_below hb d02; replace d03 := pw_cell_below hb d03; replace e00 := pw_cell_below hb e00; replace e01 := pw_cell_below hb e01; clear HBB BK2 f00 f01; have HBB := n0_; have BK2 := n2_; have f00 := blk_frozen BK2.out 0; have f01 := blk_frozen BK2.out 1; clear n0_ n2_ hb))
              have BF7 := Aside0.mk (show (w6.setCell ⟨F, 2, none⟩ (.bool true)).heap[F]? = some (.cells #[.string s0, .slice B1_ n1 m1, .bool true] 48 (0, 0)) from blk_set BF6.out 2 _)
              have HR7 := Aside0.mk (R_farF HR6.out HFW.out 2 (.bool true))
              have HB7 := Aside0.mk (below_far HBB.out (Nat.le_of_lt HF0.out) 2 (.bool true))
              have BK7 := Aside0.mk (blk_far BK2.out (p := ⟨F, 2, none⟩) HFB.out (.bool true))
              replace c00 := cell_farF (p := ⟨F, 2, none⟩) (u := .bool true) c00 (Nat.ne_of_lt HF0.out)
              replace d02 := cell_farF (p := ⟨F, 2, none⟩) (u := .bool true) d02 (HFB1.out)
              clear BF6 HR6 HBB BK2 c01 d00 d01 d03 e00 e01 f00 f01 x0_ x1_ x2_ y0_ y2_
              generalize (w6.setCell ⟨F, 2, none⟩ (.bool true)) = w7 at *
              have z0_ : w7.cell? ⟨F, 0, none⟩ = some (.string s0) := (blk_cell BF7.out 0).trans rfl
              have z1_ : w7.cell? ⟨F, 1, none⟩ = some (.slice B1_ n1 m1) := (blk_cell BF7.out 1).trans rfl
              have z2_ : w7.cell? ⟨F, 2, none⟩ = some (.bool true) := (blk_cell BF7.out 2).trans rfl
              have HW2 := Aside0.mk (with_calls Av cv (delN a fs) s0 B1_ n1 m1 true w7 (Kd.R_reads' HR7.out).2.2 (Kd.R_reads' HR7.out).2.1 HLd.out HZd.out HZS.out)
              go_wp2_with (first | (go_at_call 44; (refine HW2.out.mono ?_); rintro e w9 ⟨v9, rfl, hR, hb⟩; obtain ⟨A9, c9, ev⟩ := Kd.R_slice hR; subst ev; have HR9 := Aside0.mk hR; have HB9 := Aside0.mk (below_step HB7.out hb); have BK9 := Aside0.mk (blk_below BK7.out hb); replace c00 := pw_cell_below hb c00; have e0_ : w9.cell? ⟨B2, 0, none⟩ = some (.int .i64 0) := (blk_cell BK9.out 0).trans rfl; have e1_ : w9.cell? ⟨B2, 1, none⟩ = some (.slice none 0 0) := (blk_cell BK9.out 1).trans rfl; have g0_ := blk_frozen BK9.out 0; have g1_ := blk_frozen BK9.out 1; clear hR hb))
              have hG := blk_set (blk_set BK9.out 0 (.int .i64 cap)) 1 (.slice A9 (insF (⟨s0, (B1_, n1, m1), true⟩ : SF) (delN a fs)).length c9)
              refine bodyPost_ret (results_ct rfl _ _ B2 24 #[.int .i64 cap, .slice A9 (insF (⟨s0, (B1_, n1, m1), true⟩ : SF) (delN a fs)).length c9] (0, 0) _ rfl hG Try.underlying24 rfl (by kernel_rfl)) rfl ?_
              exact ⟨_, rfl, fin_V2 BK9.out HR9.out (fun k hk => .inr (Nat.le_trans (below_size HB7.out) hk)) (((HAV.out.del a).ins (s := ⟨s0, (B1_, n1, m1), true⟩) (x := ⟨(rd_T48 l0 (ni : Int)).f0, (rd_T48 l0 (ni : Int)).f1, true⟩) ⟨HBE.out.1, rfl, HBE.out.2.2⟩).below HB9.out) (fun k hk => ⟨.inl hk.1, fun e => by have h1 := HB2.out; have h2 := hk.2; omega⟩) _ _, below_set (below_set HB9.out (Nat.le_of_lt HB2.out)) (Nat.le_of_lt HB2.out)⟩
          · clear HK HU
            cases bn with
            | false =>
              have hr : refP cap l0 2 a b l1 u false i = (l0, 1) := by unfold refP; rw [if_neg (by decide), if_pos ⟨rfl, rfl⟩]
              have hH := H.out
              injection hH with h1 hH
              injection hH with h2 h3
              rw [hr] at h2 h3
              replace h2 : _ = r2 := h2
              replace h3 : _ = r3 := h3
              subst h1; subst h2; subst h3
              clear H hr
              go_upto_region 13 with (first | (go_at_call 30; (refine (catchwordref03_Name.calls k b false _ HBN.out).mono ?_); rintro e w5 ⟨rfl, hd⟩; have hb := drawn_below hd; clear hd; have n0_ := Aside0.mk (below_step HBB.out hb); have n2_ := Aside0.mk (blk_below BK2.out hb); replace c00 := pw_cell_below hb c00; replace c01 := pw_cell_below hb c01; replace d00 := pw_cell_below hb d00; replace d01 := pw_cell_below hb d01; replace d02 := pw_cell_below hb d02; replace d03 := pw_cell_below hb d03; replace e00 := pw_cell_below hb e00; replace e01 := pw_cell_below hb e01; clear HBB BK2 f00 f01; have HBB := n0_; have BK2 := n2_; have f00 := blk_frozen BK2.out 0; have f01 := blk_frozen BK2.out 1; clear n0_ n2_ hb))
              go_wp2
              have hG := blk_set (blk_set BK2.out 0 (.int .i64 cap)) 1 (.slice A0 l0.length c0)
              refine bodyPost_ret (results_ct rfl _ _ B2 24 #[.int .i64 cap, .slice A0 l0.length c0] (0, 0) _ rfl hG Try.underlying24 rfl (by kernel_rfl)) rfl ?_
              have hbz := below_set (j := 1) (v := .slice A0 l0.length c0) (below_set (j := 0) (v := .int .i64 cap) HBB.out (Nat.le_of_lt HB2.out)) (Nat.le_of_lt HB2.out)
              exact ⟨_, rfl, Kd.V_mono (Kd.V_below HS0.out hbz) (fun k hk => .inl (.inl hk)), hbz⟩
            | true =>
              by_cases hi0 : i < 0
              · have hr : refP cap l0 2 a b l1 u true i = (l0, 2) := by unfold refP; rw [if_neg (by decide), if_neg (by rintro ⟨_, h⟩; cases h), if_pos hi0]
                have hH := H.out
                injection hH with h1 hH
                injection hH with h2 h3
                rw [hr] at h2 h3
                replace h2 : _ = r2 := h2
                replace h3 : _ = r3 := h3
                subst h1; subst h2; subst h3
                clear H hr
                have di : decide (i < 0) = true := decide_eq_true hi0
                clear hi0
                go_upto_region 15 with (first | (go_at_call 30; (refine (catchwordref03_Name.calls k b true _ HBN.out).mono ?_); rintro e w5 ⟨rfl, hd⟩; have hb := drawn_below hd; clear hd; have n0_ := Aside0.mk (below_step HBB.out hb); have n2_ := Aside0.mk (blk_below BK2.out hb); replace c00 := pw_cell_below hb c00; replace c01 := pw_cell_below hb c01; replace d00 := pw_cell_below hb d00; replace d01 := pw_cell_below hb d01; replace d02 := pw_cell_below hb d02; replace d03 := pw_cell_below hb d03; replace e00 := pw_cell_below hb e00; replace e01 := pw_cell_below hb e01; clear HBB BK2 f00 f01; have HBB := n0_; have BK2 := n2_; have f00 := blk_frozen BK2.out 0; have f01 := blk_frozen BK2.out 1; clear n0_ n2_ hb))
                go_wp2
                have hG := blk_set (blk_set BK2.out 0 (.int .i64 cap)) 1 (.slice A0 l0.length c0)
                refine bodyPost_ret (results_ct rfl _ _ B2 24 #[.int .i64 cap, .slice A0 l0.length c0] (0, 0) _ rfl hG Try.underlying24 rfl (by kernel_rfl)) rfl ?_
                have hbz := below_set (j := 1) (v := .slice A0 l0.length c0) (below_set (j := 0) (v := .int .i64 cap) HBB.out (Nat.le_of_lt HB2.out)) (Nat.le_of_lt HB2.out)
                exact ⟨_, rfl, Kd.V_mono (Kd.V_below HS0.out hbz) (fun k hk => .inl (.inl hk)), hbz⟩
              · obtain ⟨ni, rfl⟩ := Int.eq_ofNat_of_zero_le (show 0 ≤ i by omega)
                have hnl : ni < l0.length := by have h1 := HG.out.1.1; omega
                have hr : refP cap l0 2 a b l1 u true (ni : Int) = (insX ⟨b, (rd_T48 l0 (ni : Int)).f1, (rd_T48 l0 (ni : Int)).f2⟩ (delX b (delX a l0)), 0) := by unfold refP; rw [if_neg (by decide), if_neg (by rintro ⟨_, h⟩; cases h), if_neg hi0, if_neg (by decide), if_pos rfl]
                have hH := H.out
                injection hH with h1 hH
                injection hH with h2 h3
                rw [hr] at h2 h3
                replace h2 : _ = r2 := h2
                replace h3 : _ = r3 := h3
                subst h1; subst h2; subst h3
                clear H hr
                have di : decide ((ni : Int) < 0) = false := decide_eq_false (by omega)
                have dil : decide ((ni : Int) < (l0.length : Int)) = true := decide_eq_true (by omega)
                have diln : decide (ni < l0.length) = true := decide_eq_true hnl
                clear hi0
                go_upto_region 17 with (first | (go_at_call 30; (refine (catchwordref03_Name.calls k b true _ HBN.out).mono ?_); rintro e w5 ⟨rfl, hd⟩; have hb := drawn_below hd; clear hd; have n0_ := Aside0.mk (below_step HBB.out hb); have n2_ := Aside0.mk (blk_below BK2.out hb); replace c00 := pw_cell_below hb c00; replace c01 := pw_cell_below hb c01; replace d00 := pw_cell_below hb d00; replace d01 := pw_cell_below hb d01; replace d02 := pw_cell_below hb d02; replace d03 := pw_cell_below hb d03; replace e00 := pw_cell_below hb e00; replace e01 := pw_cell_below hb e01; clear HBB BK2 f00 f01; have HBB := n0_; have BK2 := n2_; have f00 := blk_frozen BK2.out 0; have f01 := blk_frozen BK2.out 1; clear n0_ n2_ hb))
                have hfl := HFL.out
                obtain ⟨ad, e1, g0, g1, g2⟩ := at_TF (Kd.C_below HCF.out HBB.out) (ni : Int) (by omega) (by omega)
                subst e1
                rw [Int.toNat_natCast] at g0 g1 g2
                have hxi : l0[ni]? = some (rd_T48 l0 (ni : Int)) := by unfold rd_T48; rw [Int.toNat_natCast, List.getD_eq_getElem?_getD, List.getElem?_eq_getElem hnl]; rfl
                have hbe := HAV.out.2 ni (rd_TF fs (ni : Int)) _ (by unfold rd_TF; rw [Int.toNat_natCast, List.getD_eq_getElem?_getD, List.getElem?_eq_getElem (by omega)]; rfl) hxi
                have hzs : (rd_TF fs (ni : Int)).f0.size ≤ 9223372036854775807 := HFZ.out _ (by unfold rd_TF; rw [Int.toNat_natCast, List.getD_eq_getElem?_getD, List.getElem?_eq_getElem (by omega)]; exact List.getElem_mem _)
                clear hfl hxi
                generalize rd_TF fs (ni : Int) = s at g0 g1 g2 hbe hzs
                obtain ⟨s0, ⟨B1_, n1, m1⟩, s2⟩ := s
                have HBE := Aside0.mk hbe
                have HZS := Aside0.mk (show s0.size ≤ 9223372036854775807 from hzs)
                clear hbe hzs
                replace g0 : w5.cell? (ad.add (ni * 3)) = some (.string s0) := g0
                replace g1 : w5.cell? ⟨(ad.add (ni * 3)).block, (ad.add (ni * 3)).off + 1, none⟩ = some (.slice B1_ n1 m1) := g1
                replace g2 : w5.cell? ⟨(ad.add (ni * 3)).block, (ad.add (ni * 3)).off + 2, none⟩ = some (.bool s2) := g2
                go_upto_region 18 with fail
                have BF := Aside0.mk (blk_new w5 (.cells #[.string s0, .slice B1_ n1 m1, .bool s2] 48))
                have HF0 := Aside0.mk (show w.heap.size < w5.heap.size from Nat.lt_trans HB2.out (blk_lt BK2.out))
                have HFB := Aside0.mk (show B2 ≠ w5.heap.size from Nat.ne_of_lt (blk_lt BK2.out))
                have HFB1 := Aside0.mk (show B1 ≠ w5.heap.size from Nat.ne_of_lt (World.block_lt_of_cell? w5 ⟨B1, 0, none⟩ d00))
                clear g0 g1 g2
                have hb := below_alloc (Below.refl w5.heap.size w5) (.cells #[.string s0, .slice B1_ n1 m1, .bool s2] 48)
                have n0_ := Aside0.mk (below_step HBB.out hb)
                have n2_ := Aside0.mk (blk_below BK2.out hb)
                replace c00 := pw_cell_below hb c00
                replace c01 := pw_cell_below hb c01
                replace d00 := pw_cell_below hb d00
                replace d01 := pw_cell_below hb d01
                replace d02 := pw_cell_below hb d02
                replace d03 := pw_cell_below hb d03
                replace e00 := pw_cell_below hb e00
                replace e01 := pw_cell_below hb e01
                clear HBB BK2 f00 f01 hb
                have HBB := n0_
                have BK2 := n2_
                have f00 := blk_frozen BK2.out 0
                have f01 := blk_frozen BK2.out 1
                clear n0_ n2_
                generalize (w5.alloc (.cells #[.string s0, .slice B1_ n1 m1, .bool s2] 48)) = wf at *
                have HFW := Aside0.mk (show w5.heap.size < wf.heap.size from blk_lt BF.out)
                generalize w5.heap.size = F at *
                have HLd := Aside0.mk (show (delN a fs).length ≤ 100000 from Nat.le_trans (delN_le a fs) (Nat.le_succ_of_le HL9.out))
                have HZd := Aside0.mk (show ∀ y ∈ delN a fs, y.f0.size ≤ 9223372036854775807 from fun y hy => HFZ.out y (delN_mem hy))
                go_upto_region 25 with (first | (go_at_call 45; (refine (HWO.out _ HBB.out).mono ?_); rintro e w6 ⟨v, rfl, hR, hb⟩; obtain ⟨Av, cv, ev⟩ := Kd.R_slice hR; subst ev; have HR6 := Aside0.mk hR; have BF6 := Aside0.mk (blk_below BF.out hb); have x0_ : w6.cell? ⟨F, 0, none⟩ = some (.string s0) := (blk_cell BF6.out 0).trans rfl; have x1_ : w6.cell? ⟨F, 1, none⟩ = some (.slice B1_ n1 m1) := (blk_cell BF6.out 1).trans rfl; have x2_ : w6.cell? ⟨F, 2, none⟩ = some (.bool s2) := (blk_cell BF6.out 2).trans rfl; have y0_ := blk_frozen BF6.out 0; have y2_ := blk_frozen BF6.out 2; clear hR; have n0_ := Aside0.mk (below_step HBB.out hb); have n2_ := Aside0.mk (blk_below BK2.out hb); replace c00 := pw_cell_below hb c00; replace c01 := pw_cell_below hb c01; replace d00 := pw_cell_below hb d00; replace d01 := pw_cell_below hb d01; replace d02 := pw_cell_below hb d02; replace d03 := pw_cell_below hb d03; replace e00 := pw_cell_below hb e00; replace e01 := pw_cell_below hb e01; clear HBB BK2 f00 f01; have HBB := n0_; have BK2 := n2_; have f00 := blk_frozen BK2.out 0; have f01 := blk_frozen BK2.out 1; clear n0_ n2_ hb))
                have BF7 := Aside0.mk (show (w6.setCell ⟨F, 0, none⟩ (.string b)).heap[F]? = some (.cells #[.string b, .slice B1_ n1 m1, .bool s2] 48 (0, 0)) from blk_set BF6.out 0 _)
                have HR7 := Aside0.mk (R_farF HR6.out HFW.out 0 (.string b))
                have HB7 := Aside0.mk (below_far HBB.out (Nat.le_of_lt HF0.out) 0 (.string b))
                have BK7 := Aside0.mk (blk_far BK2.out (p := ⟨F, 0, none⟩) HFB.out (.string b))
                replace c00 := cell_farF (p := ⟨F, 0, none⟩) (u := .string b) c00 (Nat.ne_of_lt HF0.out)
                replace d02 := cell_farF (p := ⟨F, 0, none⟩) (u := .string b) d02 (HFB1.out)
                clear BF6 HR6 HBB BK2 c01 d00 d01 d03 e00 e01 f00 f01 x0_ x1_ x2_ y0_ y2_
                generalize (w6.setCell ⟨F, 0, none⟩ (.string b)) = w7 at *
                have z0_ : w7.cell? ⟨F, 0, none⟩ = some (.string b) := (blk_cell BF7.out 0).trans rfl
                have z1_ : w7.cell? ⟨F, 1, none⟩ = some (.slice B1_ n1 m1) := (blk_cell BF7.out 1).trans rfl
                have z2_ : w7.cell? ⟨F, 2, none⟩ = some (.bool s2) := (blk_cell BF7.out 2).trans rfl
                have HLd2 := Aside0.mk (show (delN b (delN a fs)).length ≤ 100000 from Nat.le_trans (delN_le b _) HLd.out)
                have HZd2 := Aside0.mk (show ∀ y ∈ delN b (delN a fs), y.f0.size ≤ 9223372036854775807 from fun y hy => HZd.out y (delN_mem hy))
                have HWO2 := Aside0.mk (without_calls Av cv (delN a fs) b w7.drew (Kd.R_reads' (Kd.R_drew HR7.out)).2.2 (Kd.R_reads' HR7.out).2.1 HLd.out)
                refine start_ (n := 7) (S := fun w' => w'.cell? ⟨B1, 2, none⟩ = some (.string b) ∧ w'.cell? ⟨F, 0, none⟩ = some (.string b) ∧ w'.cell? ⟨F, 1, none⟩ = some (.slice B1_ n1 m1) ∧ w'.cell? ⟨F, 2, none⟩ = some (.bool s2)) (ds := []) #[false, false, false, false, false, false, false] (by kernel_rfl) rfl rfl ⟨d02, z0_, z1_, z2_⟩ (fun hHeld => ?_)
                refine pure_ (i := 0) (N := some 109) (v := ?_) (a' := ?_) #[true, false, false, false, false, false, false] rfl rfl (by kernel_rfl) (fun _ _ _ h => h) (Or.inl ⟨by rfl, ?_⟩) ?_ ?_
                rotate_left
                · intro w'
                  go_simp
                  with_reducible rfl
                rotate_left
                · simp only [Act.put, List.setIfInBounds_toArray, List.set_cons_zero, List.set_cons_succ, i64_w, i32_w]
                  rfl
                refine pure_ (i := 1) (N := some 110) (v := ?_) (a' := ?_) #[true, true, false, false, false, false, false] rfl rfl (by kernel_rfl) (fun _ _ _ h => h) (Or.inl ⟨by rfl, ?_⟩) ?_ ?_
                rotate_left
                · intro w'
                  go_simp
                  with_reducible rfl
                rotate_left
                · simp only [Act.put, List.setIfInBounds_toArray, List.set_cons_zero, List.set_cons_succ, i64_w, i32_w]
                  rfl
                refine take_ (i := 2) (N := some 111) (v := ?_) (a' := ?_) #[true, true, true, false, false, false, false] rfl rfl (by kernel_rfl) (fun _ _ _ h => h) (Or.inl ⟨by rfl, ?_⟩) hHeld ?_ ?_
                rotate_left
                · rintro w' ⟨s0, s1, s2, s3⟩
                  go_simp
                  with_reducible rfl
                rotate_left
                · simp only [Act.put, List.setIfInBounds_toArray, List.set_cons_zero, List.set_cons_succ, i64_w, i32_w]
                  rfl
                refine take_ (i := 4) (N := some 113) (v := ?_) (a' := ?_) #[true, true, true, false, true, false, false] rfl rfl (by kernel_rfl) (fun _ _ _ h => h) (Or.inl ⟨by rfl, ?_⟩) hHeld ?_ ?_
                rotate_left
                · rintro w' ⟨s0, s1, s2, s3⟩
                  go_simp
                  with_reducible rfl
                rotate_left
                · simp only [Act.put, List.setIfInBounds_toArray, List.set_cons_zero, List.set_cons_succ, i64_w, i32_w]
                  rfl
                refine one_ (i := 3) (N := some 112) #[true, true, true, true, true, false, false] rfl rfl (by kernel_rfl) (by decide) (fun K hK => ?_)
                refine goes_ Try.func45 (by kernel_rfl) rfl #[.slice Av (delN a fs).length cv, .string b] (by rfl) rfl rfl (by simp only [List.map_toArray, List.map_cons, List.map_nil]; rfl) ?_
                with_reducible refine (HWO2.out).mono ?_
                rintro e w8 ⟨v8, rfl, hR, hb⟩
                refine ⟨_, rfl, ?_⟩
                obtain ⟨A8, c8, ev⟩ := Kd.R_slice hR
                subst ev
                have HR8 := Aside0.mk hR
                have HB78 := Aside0.mk (below_step (below_drew (Below.refl w7.heap.size w7)) hb)
                have HW2 := Aside0.mk (with_calls A8 c8 (delN b (delN a fs)) b B1_ n1 m1 s2 w8 (Kd.R_reads' HR8.out).2.2 (Kd.R_reads' HR8.out).2.1 HLd2.out HZd2.out HBS.out)
                refine hK.out _ _ ⟨pw_cell_below hb hHeld.1, pw_cell_below hb hHeld.2.1, pw_cell_below hb hHeld.2.2.1, pw_cell_below hb hHeld.2.2.2⟩ (fun hHeld => ?_)
                clear hK K
                refine norm_ (a' := ?_) ?_ ?_
                rotate_left
                · show Act.put _ (some 112) _ = _
                  simp only [Act.put, List.setIfInBounds_toArray, List.set_cons_zero, List.set_cons_succ, i64_w, i32_w]
                  rfl
                refine one_ (i := 5) (N := some 114) #[true, true, true, true, true, true, false] rfl rfl (by kernel_rfl) (by decide) (fun K hK => ?_)
                refine goes_ Try.func44 (by kernel_rfl) rfl #[.slice A8 (delN b (delN a fs)).length c8, .agg #[.string b, .slice B1_ n1 m1, .bool s2]] (by rfl) rfl rfl (by simp only [List.map_toArray, List.map_cons, List.map_nil]; rfl) ?_
                with_reducible refine (HW2.out).mono ?_
                rintro e w9 ⟨v9, rfl, hR9, hb9⟩
                refine ⟨_, rfl, ?_⟩
                obtain ⟨A9, c9, ev⟩ := Kd.R_slice hR9
                subst ev
                have HR9 := Aside0.mk hR9
                have HB79 := Aside0.mk (below_step HB78.out hb9)
                refine hK.out _ _ ⟨pw_cell_below hb9 hHeld.1, pw_cell_below hb9 hHeld.2.1, pw_cell_below hb9 hHeld.2.2.1, pw_cell_below hb9 hHeld.2.2.2⟩ (fun hHeld => ?_)
                clear hK K
                refine norm_ (a' := ?_) ?_ ?_
                rotate_left
                · show Act.put _ (some 114) _ = _
                  simp only [Act.put, List.setIfInBounds_toArray, List.set_cons_zero, List.set_cons_succ, i64_w, i32_w]
                  rfl
                refine pure_ (i := 6) (N := some 11) (v := ?_) (a' := ?_) #[true, true, true, true, true, true, true] rfl rfl (by kernel_rfl) (fun _ _ _ h => h) (Or.inl ⟨by rfl, ?_⟩) ?_ ?_
                rotate_left
                · intro w'
                  go_simp
                  with_reducible rfl
                rotate_left
                · simp only [Act.put, List.setIfInBounds_toArray, List.set_cons_zero, List.set_cons_succ, i64_w, i32_w]
                  rfl
                refine done_ (by kernel_rfl) ?_
                have HB9 := Aside0.mk (below_step HB7.out HB79.out)
                have BK9 := Aside0.mk (blk_below BK7.out HB79.out)
                replace c00 := pw_cell_below HB79.out c00
                have e0_ : w9.cell? ⟨B2, 0, none⟩ = some (.int .i64 0) := (blk_cell BK9.out 0).trans rfl
                have e1_ : w9.cell? ⟨B2, 1, none⟩ = some (.slice none 0 0) := (blk_cell BK9.out 1).trans rfl
                have g0_ := blk_frozen BK9.out 0
                have g1_ := blk_frozen BK9.out 1
                go_wp2
                have hG := blk_set (blk_set BK9.out 0 (.int .i64 cap)) 1 (.slice A9 (insF (⟨b, (B1_, n1, m1), s2⟩ : SF) (delN b (delN a fs))).length c9)
                refine bodyPost_ret (results_ct rfl _ _ B2 24 #[.int .i64 cap, .slice A9 (insF (⟨b, (B1_, n1, m1), s2⟩ : SF) (delN b (delN a fs))).length c9] (0, 0) _ rfl hG Try.underlying24 rfl (by kernel_rfl)) rfl ?_
                exact ⟨_, rfl, fin_V2 BK9.out HR9.out (fun k hk => .inr (Nat.le_trans (below_size (below_step HB7.out HB78.out)) hk)) ((((HAV.out.del a).del b).ins (s := ⟨b, (B1_, n1, m1), s2⟩) (x := ⟨b, (rd_T48 l0 (ni : Int)).f1, (rd_T48 l0 (ni : Int)).f2⟩) ⟨rfl, HBE.out.2.1, HBE.out.2.2⟩).below HB9.out) (fun k hk => ⟨.inl hk.1, fun e => by have h1 := HB2.out; have h2 := hk.2; omega⟩) _ _, below_set (below_set HB9.out (Nat.le_of_lt HB2.out)) (Nat.le_of_lt HB2.out)⟩
          · clear HK HU
            by_cases hi0 : i < 0
            · have hr : refP cap l0 3 a b l1 u bn i = (l0, 2) := by unfold refP; rw [if_neg (by decide), if_neg (by rintro ⟨h, _⟩; exact absurd h (by decide)), if_pos hi0]
              have hH := H.out
              injection hH with h1 hH
              injection hH with h2 h3
              rw [hr] at h2 h3
              replace h2 : _ = r2 := h2
              replace h3 : _ = r3 := h3
              subst h1; subst h2; subst h3
              clear H hr
              have di : decide (i < 0) = true := decide_eq_true hi0
              clear hi0
              go_upto_region 15 with (first | (go_at_call 30; (refine (catchwordref03_Name.calls k b bn _ HBN.out).mono ?_); rintro e w5 ⟨rfl, hd⟩; have hb := drawn_below hd; clear hd; have n0_ := Aside0.mk (below_step HBB.out hb); have n2_ := Aside0.mk (blk_below BK2.out hb); replace c00 := pw_cell_below hb c00; replace c01 := pw_cell_below hb c01; replace d00 := pw_cell_below hb d00; replace d01 := pw_cell_below hb d01; replace d02 := pw_cell_below hb d02; replace d03 := pw_cell_below hb d03; replace e00 := pw_cell_below hb e00; replace e01 := pw_cell_below hb e01; clear HBB BK2 f00 f01; have HBB := n0_; have BK2 := n2_; have f00 := blk_frozen BK2.out 0; have f01 := blk_frozen BK2.out 1; clear n0_ n2_ hb))
              go_wp2
              have hG := blk_set (blk_set BK2.out 0 (.int .i64 cap)) 1 (.slice A0 l0.length c0)
              refine bodyPost_ret (results_ct rfl _ _ B2 24 #[.int .i64 cap, .slice A0 l0.length c0] (0, 0) _ rfl hG Try.underlying24 rfl (by kernel_rfl)) rfl ?_
              have hbz := below_set (j := 1) (v := .slice A0 l0.length c0) (below_set (j := 0) (v := .int .i64 cap) HBB.out (Nat.le_of_lt HB2.out)) (Nat.le_of_lt HB2.out)
              exact ⟨_, rfl, Kd.V_mono (Kd.V_below HS0.out hbz) (fun k hk => .inl (.inl hk)), hbz⟩
            · obtain ⟨ni, rfl⟩ := Int.eq_ofNat_of_zero_le (show 0 ≤ i by omega)
              have hnl : ni < l0.length := by have h1 := HG.out.1.1; omega
              have hr : refP cap l0 3 a b l1 u bn (ni : Int) = (delX a l0, 0) := by unfold refP; rw [if_neg (by decide), if_neg (by rintro ⟨h, _⟩; exact absurd h (by decide)), if_neg hi0, if_neg (by decide), if_neg (by decide)]
              have hH := H.out
              injection hH with h1 hH
              injection hH with h2 h3
              rw [hr] at h2 h3
              replace h2 : _ = r2 := h2
              replace h3 : _ = r3 := h3
              subst h1; subst h2; subst h3
              clear H hr
              have di : decide ((ni : Int) < 0) = false := decide_eq_false (by omega)
              have dil : decide ((ni : Int) < (l0.length : Int)) = true := decide_eq_true (by omega)
              have diln : decide (ni < l0.length) = true := decide_eq_true hnl
              clear hi0
              go_upto_region 17 with (first | (go_at_call 30; (refine (catchwordref03_Name.calls k b bn _ HBN.out).mono ?_); rintro e w5 ⟨rfl, hd⟩; have hb := drawn_below hd; clear hd; have n0_ := Aside0.mk (below_step HBB.out hb); have n2_ := Aside0.mk (blk_below BK2.out hb); replace c00 := pw_cell_below hb c00; replace c01 := pw_cell_below hb c01; replace d00 := pw_cell_below hb d00; replace d01 := pw_cell_below hb d01; replace d02 := pw_cell_below hb d02; replace d03 := pw_cell_below hb d03; replace e00 := pw_cell_below hb e00; replace e01 := pw_cell_below hb e01; clear HBB BK2 f00 f01; have HBB := n0_; have BK2 := n2_; have f00 := blk_frozen BK2.out 0; have f01 := blk_frozen BK2.out 1; clear n0_ n2_ hb))
              have hfl := HFL.out
              obtain ⟨ad, e1, g0, g1, g2⟩ := at_TF (Kd.C_below HCF.out HBB.out) (ni : Int) (by omega) (by omega)
              subst e1
              rw [Int.toNat_natCast] at g0 g1 g2
              have hxi : l0[ni]? = some (rd_T48 l0 (ni : Int)) := by unfold rd_T48; rw [Int.toNat_natCast, List.getD_eq_getElem?_getD, List.getElem?_eq_getElem hnl]; rfl
              have hbe := HAV.out.2 ni (rd_TF fs (ni : Int)) _ (by unfold rd_TF; rw [Int.toNat_natCast, List.getD_eq_getElem?_getD, List.getElem?_eq_getElem (by omega)]; rfl) hxi
              have hzs : (rd_TF fs (ni : Int)).f0.size ≤ 9223372036854775807 := HFZ.out _ (by unfold rd_TF; rw [Int.toNat_natCast, List.getD_eq_getElem?_getD, List.getElem?_eq_getElem (by omega)]; exact List.getElem_mem _)
              clear hfl hxi
              generalize rd_TF fs (ni : Int) = s at g0 g1 g2 hbe hzs
              obtain ⟨s0, ⟨B1_, n1, m1⟩, s2⟩ := s
              have HBE := Aside0.mk hbe
              have HZS := Aside0.mk (show s0.size ≤ 9223372036854775807 from hzs)
              clear hbe hzs
              replace g0 : w5.cell? (ad.add (ni * 3)) = some (.string s0) := g0
              replace g1 : w5.cell? ⟨(ad.add (ni * 3)).block, (ad.add (ni * 3)).off + 1, none⟩ = some (.slice B1_ n1 m1) := g1
              replace g2 : w5.cell? ⟨(ad.add (ni * 3)).block, (ad.add (ni * 3)).off + 2, none⟩ = some (.bool s2) := g2
              go_upto_region 18 with fail
              have BF := Aside0.mk (blk_new w5 (.cells #[.string s0, .slice B1_ n1 m1, .bool s2] 48))
              have HF0 := Aside0.mk (show w.heap.size < w5.heap.size from Nat.lt_trans HB2.out (blk_lt BK2.out))
              have HFB := Aside0.mk (show B2 ≠ w5.heap.size from Nat.ne_of_lt (blk_lt BK2.out))
              have HFB1 := Aside0.mk (show B1 ≠ w5.heap.size from Nat.ne_of_lt (World.block_lt_of_cell? w5 ⟨B1, 0, none⟩ d00))
              clear g0 g1 g2
              have hb := below_alloc (Below.refl w5.heap.size w5) (.cells #[.string s0, .slice B1_ n1 m1, .bool s2] 48)
              have n0_ := Aside0.mk (below_step HBB.out hb)
              have n2_ := Aside0.mk (blk_below BK2.out hb)
              replace c00 := pw_cell_below hb c00
              replace c01 := pw_cell_below hb c01
              replace d00 := pw_cell_below hb d00
              replace d01 := pw_cell_below hb d01
              replace d02 := pw_cell_below hb d02
              replace d03 := pw_cell_below hb d03
              replace e00 := pw_cell_below hb e00
              replace e01 := pw_cell_below hb e01
              clear HBB BK2 f00 f01 hb
              have HBB := n0_
              have BK2 := n2_
              have f00 := blk_frozen BK2.out 0
              have f01 := blk_frozen BK2.out 1
              clear n0_ n2_
              generalize (w5.alloc (.cells #[.string s0, .slice B1_ n1 m1, .bool s2] 48)) = wf at *
              have HFW := Aside0.mk (show w5.heap.size < wf.heap.size from blk_lt BF.out)
              generalize w5.heap.size = F at *
              have HLd := Aside0.mk (show (delN a fs).length ≤ 100000 from Nat.le_trans (delN_le a fs) (Nat.le_succ_of_le HL9.out))
              have HZd := Aside0.mk (show ∀ y ∈ delN a fs, y.f0.size ≤ 9223372036854775807 from fun y hy => HFZ.out y (delN_mem hy))
              go_wp2_with (first | (go_at_call 45; (refine (HWO.out _ HBB.out).mono ?_); rintro e w6 ⟨v, rfl, hR, hb⟩; obtain ⟨Av, cv, ev⟩ := Kd.R_slice hR; subst ev; have HR6 := Aside0.mk hR; have BF6 := Aside0.mk (blk_below BF.out hb); have x0_ : w6.cell? ⟨F, 0, none⟩ = some (.string s0) := (blk_cell BF6.out 0).trans rfl; have x1_ : w6.cell? ⟨F, 1, none⟩ = some (.slice B1_ n1 m1) := (blk_cell BF6.out 1).trans rfl; have x2_ : w6.cell? ⟨F, 2, none⟩ = some (.bool s2) := (blk_cell BF6.out 2).trans rfl; have y0_ := blk_frozen BF6.out 0; have y2_ := blk_frozen BF6.out 2; clear hR; have n0_ := Aside0.mk (below_step HBB.out hb); have n2_ := Aside0.mk (blk_below BK2.out hb); replace c00 := pw_cell_below hb c00; replace c01 := pw_cell_below hb c01; replace d00 := pw_cell_below hb d00; replace d01 := pw_cell_below hb d01; replace d02 := pw_cell_below hb d02; replace d03 := pw_cell_below hb d03; replace e00 := pw_cell_below hb e00; replace e01 := pw_cell_below hb e01; clear HBB BK2 f00 f01; have HBB := n0_; have BK2 := n2_; have f00 := blk_frozen BK2.out 0; have f01 := blk_frozen BK2.out 1; clear n0_ n2_ hb))
              have hG := blk_set (blk_set BK2.out 0 (.int .i64 cap)) 1 (.slice Av (delN a fs).length cv)
              refine bodyPost_ret (results_ct rfl _ _ B2 24 #[.int .i64 cap, .slice Av (delN a fs).length cv] (0, 0) _ rfl hG Try.underlying24 rfl (by kernel_rfl)) rfl ?_
              exact ⟨_, rfl, fin_V2 BK2.out HR6.out (fun k hk => .inr (Nat.le_trans (Nat.le_of_lt (Nat.lt_trans HF0.out HFW.out)) hk)) ((HAV.out.del a).below HBB.out) (fun k hk => ⟨.inl hk.1, fun e => by have h1 := HB2.out; have h2 := hk.2; omega⟩) _ _, below_set (below_set HBB.out (Nat.le_of_lt HB2.out)) (Nat.le_of_lt HB2.out)⟩
        · rw [if_neg hg] at h
          exact absurd h (by simp)
  · rw [if_neg ho] at h
    exact absurd h (by simp)
end Go.Proofs.Ytaldbabkdoabkaa.T

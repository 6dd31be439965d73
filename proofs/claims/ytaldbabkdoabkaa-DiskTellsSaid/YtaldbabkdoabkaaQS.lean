import Derived.Test.YtaldbabkdoabkaaProg
import Derived.Test.YtaldbabkdoabkaaQV
import Derived.Test.YtaldbabkdoabkaaQA
import Derived.Test.YtaldbabkdoabkaaQB
import Derived.Test.YtaldbabkdoabkaaQF
import Derived.Test.YtaldbabkdoabkaaQH
import Derived.Test.YtaldbabkdoabkaaQI
import Derived.Test.YtaldbabkdoabkaaQJ
import Derived.Test.YtaldbabkdoabkaaQP
namespace Go.Proofs.Ytaldbabkdoabkaa.T
open Go.RowKit Go.Proofs.YtaldbabkdoabkaaW.PrintWords Go.Proofs.YtaldbabkdoabkaaW.PrintLast Go.Proofs.YtaldbabkdoabkaaW.PrintMore
attribute [local go_sem] max2_int min2_int max_two min_two max_three min_three max_four min_four   -- for this text's walks alone
set_option linter.unusedVariables false
set_option linter.unusedSimpArgs false
/-! ### the document's Crash (function 28), by hand -/
theorem AllV_of_V {w : World} {b : Nat} {ok : Nat → Prop} {A : Option Addr} {n c : Nat} {l : List S48} (h : Kd.V k48 48 w b ok (.slice A n c) l) : ∃ fs : List SF, Kd.C kF w A n fs ∧ AllV w ok fs l := by
  obtain ⟨hn, hc, hC⟩ := Kd.V_reads' h
  subst hn
  obtain ⟨h1, h2, h3⟩ := hC
  by_cases hp : 0 < l.length
  · obtain ⟨ad, e, _⟩ := h3 hp
    subst e
    have hone : ∀ (j : Nat) (hj : j < l.length), ∃ s : SF, BearsV w ok s l[j] ∧ ∀ i u, [Value.string s.f0, encSl s.f1, .bool s.f2][i]? = some u → w.cell? (ad.add (j * kF.sz + i)) = some u := by
      intro j hj
      obtain ⟨cs, hl, hK, hc⟩ := Kd.V_get h ⟨⟨#[]⟩, [], false⟩ (j : Int) (by omega) (by omega)
      rw [Int.toNat_natCast] at hK hc
      rw [List.getD_eq_getElem?_getD, List.getElem?_eq_getElem hj, Option.getD_some] at hK
      obtain ⟨A1, c1, e1, l1, g1⟩ := k48_open (Kd.FK_now hK)
      subst e1
      refine ⟨⟨l[j].f0, (A1, l[j].f1.length, c1), l[j].f2⟩, ⟨rfl, rfl, A1, c1, rfl, l1, fun W' hW => ?_⟩, hc⟩
      obtain ⟨A2, c2, e2, _, g2⟩ := k48_open (hK W' hW)
      simp only [List.cons.injEq, and_true, true_and] at e2
      injection e2 with e2 e3 e4
      subst e2
      exact g2
    obtain ⟨f, hf⟩ : ∃ f : Nat → SF, ∀ j (hj : j < l.length), BearsV w ok (f j) l[j] ∧ ∀ i u, [Value.string (f j).f0, encSl (f j).f1, .bool (f j).f2][i]? = some u → w.cell? (ad.add (j * kF.sz + i)) = some u := by
      refine ⟨fun j => if hj : j < l.length then (hone j hj).choose else zF, fun j hj => ?_⟩
      simp only [dif_pos hj]
      exact (hone j hj).choose_spec
    refine ⟨(List.range l.length).map f, ⟨by rw [List.length_map, List.length_range], h2, fun _ => ⟨ad, rfl, fun j s hs => ?_⟩⟩, by rw [List.length_map, List.length_range], fun j s x hs hx => ?_⟩
    · rw [List.getElem?_map] at hs
      obtain ⟨j', hj', rfl⟩ := Option.map_eq_some_iff.1 hs
      obtain ⟨hlt, rfl⟩ := List.getElem?_eq_some_iff.1 hj'
      simp only [List.length_range] at hlt
      rw [List.getElem_range]
      exact ⟨_, rfl, kF_mk w (f j), (hf j hlt).2⟩
    · rw [List.getElem?_map] at hs
      obtain ⟨j', hj', rfl⟩ := Option.map_eq_some_iff.1 hs
      obtain ⟨hlt, rfl⟩ := List.getElem?_eq_some_iff.1 hj'
      simp only [List.length_range] at hlt
      obtain ⟨hlt2, rfl⟩ := List.getElem?_eq_some_iff.1 hx
      rw [List.getElem_range]
      exact (hf j hlt).1
  · have hx : l = [] := List.eq_nil_of_length_eq_zero (by omega)
    subst hx
    exact ⟨[], ⟨rfl, h2, fun h => absurd h hp⟩, AllV.nil _ _⟩
def catchwordref03_Crash.f (k : Nat) (cap : Int) (l : List S48) (p : List Int) : Option (Int × List S48) := if l.length ≤ 100000 ∧ p.length ≤ 100000 then ((catchwordref03_May.f k cap l).bind fun m => if m = true then some (cap, crashL l p) else some (cap, l)) else none
theorem catchwordref03_Crash.mono : ∀ cap l p k, LeO (catchwordref03_Crash.f k cap l p) (catchwordref03_Crash.f (k + 1) cap l p) := by
  intro cap l p k
  unfold catchwordref03_Crash.f
  exact LeO.ite (LeO.bind (catchwordref03_May.mono _ _ _) (fun m => LeO.refl _)) (LeO.refl _)
theorem fin_V2 {W : World} {B2 base b : Nat} {ok okT : Nat → Prop} {v : Value} {fs : List SF} {l : List S48} {cs : Array Value} (hB2 : W.heap[B2]? = some (.cells cs 24 (0, 0))) (hR : Kd.R kF 48 W base (fun _ => True) v fs) (hT : ∀ k, base ≤ k → okT k) (hA : AllV W ok fs l) (hok : ∀ k, ok k → okT k ∧ k ≠ B2) (u1 u2 : Value) :
    Kd.V k48 48 ((W.setCell ⟨B2, 0, none⟩ u1).setCell ⟨B2, 1, none⟩ u2) b okT v l := by
  have h1 := Kd.R_set (Kd.R_set hR hB2 (fun q hq => by rw [kF_E hq]; decide) 0 u1) (blk_set hB2 0 u1) (fun q hq => by rw [kF_E hq]; decide) 1 u2
  refine V48_of (Kd.R_mono (Kd.R_bound h1) (fun k hk => hT k hk.2.1)) ((hA.step (fun k hk _ => ?_)).monoV (fun k hk => (hok k hk).1)) b
  exact (Below.heap_setCell _ ⟨B2, 1, none⟩ u2 k (hok k hk).2).trans (Below.heap_setCell _ ⟨B2, 0, none⟩ u1 k (hok k hk).2)
theorem crash_none (l : List S48) (p : List Int) (h : p = []) : crashL l p = crashL l [] := by rw [h]
set_option maxHeartbeats 8000000 in
set_option maxRecDepth 100000 in
theorem catchwordref03_Crash.calls (k : Nat) (cap : Int) (P0_1_ : Nat → Prop) (A0 : Option Addr) (c0 : Nat) (l0 : List S48) (A1 : Option Addr) (c1 : Nat) (l1 : List Int) (r1 : Int) (r2 : List S48) (w : World) (hs0 : Kd.V k48 48 w w.heap.size (fun k_ => P0_1_ k_) (.slice A0 l0.length c0) l0) (hr1 : Kd.C (Kd.int .i64) w A1 l1.length l1) (hc1 : l1.length ≤ c1) (h : catchwordref03_Crash.f k cap l0 l1 = some (r1, r2)) :
    Calls Try.prog 28 #[.agg #[.int .i64 cap, .slice A0 l0.length c0], .slice A1 l1.length c1] w fun e w' => ∃ v1_ : Value, e = .returned (.agg #[.int .i64 r1, v1_]) ∧ Kd.V k48 48 w' w.heap.size (fun k_ => (P0_1_ k_ ∨ w.heap.size ≤ k_)) v1_ r2 ∧ Below w.heap.size w w' := by
  unfold catchwordref03_Crash.f at h
  by_cases ho : l0.length ≤ 100000 ∧ l1.length ≤ 100000
  · rw [if_pos ho] at h
    obtain ⟨_, hc0, hr0⟩ := Kd.V_reads' hs0
    obtain ⟨fs2, hCF, hAV⟩ := AllV_of_V hs0
    have hfl : fs2.length = l0.length := hAV.1
    have HCF := Aside0.mk (show Kd.C kF w A0 fs2.length fs2 by rw [hfl]; exact hCF)
    have HAV := Aside0.mk hAV.bound
    have HFL := Aside0.mk hfl
    have HS0 := Aside0.mk hs0
    have HLL := Aside0.mk ho
    have HR0 := Aside0.mk hr0
    have HR1 := Aside0.mk hr1
    have HC1 := Aside0.mk hc1
    have hl0 : l0.length ≤ 9223372036854775807 := hr0.2.1
    have hl1 : l1.length ≤ 9223372036854775807 := hr1.2.1
    have hu24 := Try.underlying24
    have hu48 := Try.underlying48
    obtain ⟨m, hm, h⟩ := Option.bind_eq_some_iff.mp h
    have HM := Aside0.mk hm
    clear ho hr0 hr1 hm hc1 hs0 hCF hAV hfl
    go_enter Try.func28, Try.ntmps28
    go_upto_region 1 with fail
    obtain ⟨b0, b2, bb⟩ := two_blocks w (.cells #[.int .i64 cap, .slice A0 l0.length c0] 24) (.cells #[.int .i64 0, .slice none 0 0] 24)
    generalize ((w.alloc (.cells #[.int .i64 cap, .slice A0 l0.length c0] 24)).alloc (.cells #[.int .i64 0, .slice none 0 0] 24)) = wb at *
    have HBB := Aside0.mk bb
    have BK0 := Aside0.mk b0
    have BK2 := Aside0.mk b2
    have HB2 := Aside0.mk (show w.heap.size < w.heap.size + 1 by omega)
    generalize w.heap.size + 1 = B2 at *
    have c00 : wb.cell? ⟨w.heap.size, 0, none⟩ = some (.int .i64 cap) := (blk_cell b0 0).trans rfl
    have c01 : wb.cell? ⟨w.heap.size, 1, none⟩ = some (.slice A0 l0.length c0) := (blk_cell b0 1).trans rfl
    clear bb b0 b2
    cases m with
    | false =>
      rw [if_neg (by simp)] at h
      have h1 := Option.some.inj h
      injection h1 with h1 h2
      subst h1; subst h2
      clear h
      go_wp2_with (first | (go_at_call 16; (refine (catchwordref03_May.calls k cap A0 c0 l0 false _ (Kd.C_below HR0.out HBB.out) hc0 HM.out).mono ?_); rintro e w2 ⟨rfl, hb⟩; have BK02 := Aside0.mk (blk_below BK0.out hb); have BK22 := Aside0.mk (blk_below BK2.out hb); have o0 : w2.cell? ⟨w.heap.size, 0, none⟩ = some (.int .i64 cap) := (blk_cell BK02.out 0).trans rfl; have o1 : w2.cell? ⟨w.heap.size, 1, none⟩ = some (.slice A0 l0.length c0) := (blk_cell BK02.out 1).trans rfl; have e0 : w2.cell? ⟨B2, 0, none⟩ = some (.int .i64 0) := (blk_cell BK22.out 0).trans rfl; have e1 : w2.cell? ⟨B2, 1, none⟩ = some (.slice none 0 0) := (blk_cell BK22.out 1).trans rfl; have f0 := blk_frozen BK22.out 0; have f1 := blk_frozen BK22.out 1; have HB12 := Aside0.mk hb; clear hb))
      have hG := blk_set (blk_set BK22.out 0 (.int .i64 cap)) 1 (.slice A0 l0.length c0)
      refine bodyPost_ret (results_c1 rfl _ _ B2 24 #[.int .i64 cap, .slice A0 l0.length c0] (0, 0) _ rfl hG Try.underlying24 rfl (by kernel_rfl)) rfl ?_
      have hbz := below_set (j := 1) (v := .slice A0 l0.length c0) (below_set (j := 0) (v := .int .i64 cap) (below_step HBB.out HB12.out) (Nat.le_of_lt HB2.out)) (Nat.le_of_lt HB2.out)
      exact ⟨_, rfl, Kd.V_mono (Kd.V_below HS0.out hbz) (fun k hk => .inl hk), hbz⟩
    | true =>
      rw [if_pos rfl] at h
      have h1 := Option.some.inj h
      injection h1 with h1 h2
      subst h1; subst h2
      clear h
      go_upto_region 4 with (first | (go_at_call 16; (refine (catchwordref03_May.calls k cap A0 c0 l0 true _ (Kd.C_below HR0.out HBB.out) hc0 HM.out).mono ?_); rintro e w2 ⟨rfl, hb⟩; have BK02 := Aside0.mk (blk_below BK0.out hb); have BK22 := Aside0.mk (blk_below BK2.out hb); have HB12 := Aside0.mk (below_step HBB.out hb); clear hb c00 c01))
      have c00 : w2.cell? ⟨w.heap.size, 0, none⟩ = some (.int .i64 cap) := (blk_cell BK02.out 0).trans rfl
      clear BK0 BK2 HBB
      go_upto_region 5 with fail
      have BOn := Aside0.mk (blk_new w2 (.cells #[.int .i64 cap, .slice none 0 0] 24))
      have BK0 := Aside0.mk (blk_alloc BK02.out (.cells #[.int .i64 cap, .slice none 0 0] 24))
      have BK2 := Aside0.mk (blk_alloc BK22.out (.cells #[.int .i64 cap, .slice none 0 0] 24))
      have HBn := Aside0.mk (below_alloc HB12.out (.cells #[.int .i64 cap, .slice none 0 0] 24))
      have HO0 := Aside0.mk (show w.heap.size < w2.heap.size from blk_lt BK02.out)
      have HO2 := Aside0.mk (show B2 < w2.heap.size from blk_lt BK22.out)
      have HON := Aside0.mk (show w2.heap.size < (w2.alloc (.cells #[.int .i64 cap, .slice none 0 0] 24)).heap.size by rw [size_alloc_]; omega)
      generalize (w2.alloc (.cells #[.int .i64 cap, .slice none 0 0] 24)) = wn at *
      generalize w2.heap.size = O at *
      clear c00 BK02 BK22 HB12
      go_wp2
      go_loopg [7, 8] l0.length (fun kq v7 v8 w' => ∃ (i j : Nat) (gs : List SF) (ys : List S48) (v : Value), v8 = .int .i64 (i : Int) ∧ v7 = .int .i64 (j : Int) ∧ Aside0 (l0.length ≤ kq + i) ∧ Aside0 (i ≤ l0.length) ∧ Aside0 (j ≤ i) ∧ Aside0 (ys ++ crashL (l0.drop i) (l1.drop j) = crashL l0 l1) ∧ Aside0 (ys.length ≤ i) ∧ Aside0 (w'.heap[O]? = some (.cells #[.int .i64 cap, v] 24 (0, 0))) ∧ Aside0 (Kd.R kF 48 w' wn.heap.size (fun _ => True) v gs) ∧ Aside0 (AllV w' (fun k => P0_1_ k ∧ k < w.heap.size) gs ys) ∧ Aside0 (Kept wn w' (fun k => k = O)) ∧ Aside0 (Below w.heap.size w w'))
      case atStart => exact ⟨0, 0, [], [], .slice none 0 0, rfl, rfl, ⟨Nat.le_refl _⟩, ⟨Nat.zero_le _⟩, ⟨Nat.le_refl _⟩, ⟨rfl⟩, ⟨Nat.le_refl _⟩, BOn, ⟨Kd.R_nil _ _ _ _ _⟩, ⟨AllV.nil _ _⟩, ⟨Kept.refl _ _⟩, HBn⟩
      case round =>
        obtain ⟨i, j, gs, ys, v, rfl, rfl, HK, HI, HJ, HEQ, HYL, BO, HROW, HALL, HKO, HB⟩ := hrel
        obtain ⟨wo, rfl⟩ : ∃ wo : World, wo = wr := ⟨_, rfl⟩
        obtain ⟨Av, cv, ev⟩ := Kd.R_slice HROW.out
        subst ev
        have BKo := Aside0.mk ((HKO.out.2 w.heap.size (Nat.lt_trans HO0.out HON.out) (Nat.ne_of_lt HO0.out)).trans BK0.out)
        have c01 : wo.cell? ⟨w.heap.size, 1, none⟩ = some (.slice A0 l0.length c0) := (blk_cell BKo.out 1).trans rfl
        by_cases hlt : i < l0.length
        · obtain ⟨kj, rfl⟩ : ∃ m, gk = m + 1 := ⟨gk - 1, by have := HK.out; omega⟩
          have d1 : decide ((i : Int) < (l0.length : Int)) = true := decide_eq_true (by omega)
          have d1n : decide (i < l0.length) = true := decide_eq_true hlt
          have hfl := HFL.out
          obtain ⟨ad, e1, g0, g1, g2⟩ := at_TF (Kd.C_below HCF.out HB.out) (i : Int) (by omega) (by omega)
          subst e1
          rw [Int.toNat_natCast] at g0 g1 g2
          obtain ⟨x, hxi⟩ : ∃ x, l0[i]? = some x := ⟨_, List.getElem?_eq_getElem hlt⟩
          have hbe := HAV.out.2 i (rd_TF fs2 (i : Int)) x (by unfold rd_TF; rw [Int.toNat_natCast, List.getD_eq_getElem?_getD, List.getElem?_eq_getElem (by omega)]; rfl) hxi
          clear hfl
          generalize rd_TF fs2 (i : Int) = s at g0 g1 g2 hbe
          obtain ⟨s0, ⟨B1, n1, m1⟩, s2⟩ := s
          obtain ⟨x0, xd, x2⟩ := x
          obtain ⟨q0, q2, hV⟩ := hbe
          replace q0 : s0 = x0 := q0
          replace q2 : s2 = x2 := q2
          subst q0; subst q2
          obtain ⟨q1, q3, _⟩ := Kd.V_reads' hV
          subst q1
          replace g0 : wo.cell? (ad.add (i * 3)) = some (.string s0) := g0
          replace g1 : wo.cell? ⟨(ad.add (i * 3)).block, (ad.add (i * 3)).off + 1, none⟩ = some (.slice B1 xd.length m1) := g1
          replace g2 : wo.cell? ⟨(ad.add (i * 3)).block, (ad.add (i * 3)).off + 2, none⟩ = some (.bool s2) := g2
          have HVX := Aside0.mk (Kd.V_step (w1 := wo) hV (fun k hk hl => HB.out.block k hl))
          have HQ3 := Aside0.mk q3
          have HEQ2 := Aside0.mk (show ys ++ crashL (⟨s0, xd, s2⟩ :: l0.drop (i + 1)) (l1.drop j) = crashL l0 l1 by rw [← crash_step hxi]; exact HEQ.out)
          clear hxi hV q3
          go_upto_region 10 with fail
          have BF := Aside0.mk (blk_new wo (.cells #[.string s0, .slice B1 xd.length m1, .bool s2] 48))
          have HBF := Aside0.mk (below_alloc (Below.refl wo.heap.size wo) (.cells #[.string s0, .slice B1 xd.length m1, .bool s2] 48))
          have BOf := Aside0.mk (blk_alloc BO.out (.cells #[.string s0, .slice B1 xd.length m1, .bool s2] 48))
          generalize (wo.alloc (.cells #[.string s0, .slice B1 xd.length m1, .bool s2] 48)) = wf at *
          have x0_ : wf.cell? ⟨wo.heap.size, 0, none⟩ = some (.string s0) := (blk_cell BF.out 0).trans rfl
          have x1_ : wf.cell? ⟨wo.heap.size, 1, none⟩ = some (.slice B1 xd.length m1) := (blk_cell BF.out 1).trans rfl
          have x2_ : wf.cell? ⟨wo.heap.size, 2, none⟩ = some (.bool s2) := (blk_cell BF.out 2).trans rfl
          have y1_ := blk_frozen BF.out 1
          have y2_ := blk_frozen BF.out 2
          have HFO := Aside0.mk (show O < wo.heap.size from blk_lt BO.out)
          clear g0 g1 g2
          have HNEO := Aside0.mk (Kd.R_ne HROW.out BO.out (by decide))
          have HFW := Aside0.mk (show (gs.length + 1) * 48 ≤ 140737488355328 by have h1 := HALL.out.1; have h2 := HYL.out; have h3 := HLL.out; have h4 := HFL.out; omega)
          have HBFW := Aside0.mk (show wn.heap.size ≤ wf.heap.size from Nat.le_trans HKO.out.1 HBF.out.size)
          cases s2 with
          | true =>
            have HE3 := Aside0.mk (show (ys ++ [⟨s0, xd, true⟩]) ++ crashL (l0.drop (i + 1)) (l1.drop j) = crashL l0 l1 by rw [List.append_assoc]; exact HEQ2.out)
            have HRX := Aside0.mk (Kd.R_below HROW.out HBF.out)
            have HJ2 := Aside0.mk (show j ≤ i + 1 by have := HJ.out; omega)
            have o1 : wf.cell? ⟨O, 1, none⟩ = some (.slice Av gs.length cv) := (blk_cell BOf.out 1).trans rfl
            go_wp2_with (first | ((with_reducible refine gate_builtin (b := .append) (xs := #[.tmp 58, .tmp 60]) rfl ?_); at_builtin; refine Kd.R_append kF (w0 := wf) (W := wf) wn.heap.size rfl (.tmp 58) (.tmp 60) 22 48 (.agg #[.string ⟨#[]⟩, .slice none 0 0, .bool false]) 48 rfl Try.underlying22 infoF rfl (by decide) (by decide) (.slice Av gs.length cv) gs (⟨s0, (B1, xd.length, m1), true⟩ : SF) [.string s0, .slice B1 xd.length m1, .bool true] (fun _ => True) (fun _ => False) rfl rfl (kF_mkM _ _ _ (⟨s0, (B1, xd.length, m1), true⟩ : SF)) (fun _ h => h.elim) (fun _ _ => trivial) HRX.out (Below.refl _ _) HBFW.out HFW.out ?_; intro v1 w4 hr1 hb1 hg1 hat1; obtain ⟨b1, cap1, ev1, _, _, _⟩ := Kd.R_form hr1 (by simp); rw [List.length_append, List.length_singleton] at ev1; subst ev1; have HR4 := Aside0.mk hr1; have HG4 := Aside0.mk hg1; have HO4 := Aside0.mk (blk_grown BOf.out hg1 HNEO.out); have o1' : w4.cell? ⟨O, 1, none⟩ = some (.slice Av gs.length cv) := (blk_cell HO4.out 1).trans rfl; have fo1 := blk_frozen HO4.out 1; clear hr1 hb1 hg1 hat1 o1))
            obtain ⟨z1, z2, z3, z4, z5⟩ := crash_more (y := (⟨s0, xd, true⟩ : S48)) (w := w) (w3 := wn) HON.out (Nat.le_of_lt HO0.out) (fun k hk => ⟨Nat.lt_of_lt_of_le hk.2 (below_size HBn.out), fun e => by have h1 := HO0.out; have h2 := hk.2; omega⟩) HROW.out HALL.out (show BearsV wo _ (⟨s0, (B1, xd.length, m1), true⟩ : SF) (⟨s0, xd, true⟩ : S48) from ⟨rfl, rfl, HVX.out⟩) HKO.out HB.out HBF.out BOf.out HR4.out HG4.out HNEO.out
            have Z1 := Aside0.mk z1
            have Z2 := Aside0.mk z2
            have Z3 := Aside0.mk z3
            have Z4 := Aside0.mk z4
            have Z5 := Aside0.mk z5
            clear z1 z2 z3 z4 z5
            go_roundg kj
            case measure => omega
            case rel => exact ⟨i + 1, j, _, _, _, congrArg (Value.int .i64) (by omega), congrArg (Value.int .i64) (by omega), ⟨by have := HK.out; omega⟩, ⟨by omega⟩, HJ2, HE3, ⟨by rw [List.length_append, List.length_singleton]; have := HYL.out; omega⟩, Z1, Z2, Z3, Z4, Z5⟩
          | false =>
            have HJ2 := Aside0.mk (show j + 1 ≤ i + 1 by have := HJ.out; omega)
            by_cases hjl : j < l1.length
            · have dj : decide ((j : Int) < (l1.length : Int)) = true := decide_eq_true (by omega)
              have djn : decide (j < l1.length) = true := decide_eq_true hjl
              have hE := HEQ2.out
              rw [List.drop_eq_getElem_cons hjl, crashL, if_neg (by simp)] at hE
              obtain ⟨ad2, e2, _⟩ := HR1.out.2.2 (by omega)
              subst e2
              have pk : wf.cell? (ad2.add j) = some (.int .i64 (rd l1 (j : Int))) := pw_cell_below (below_step HB.out HBF.out) (by have := Kd.foot_int HR1.out (j : Int) (by omega) (by omega); rwa [Int.toNat_natCast] at this)
              have hrd : l1[j] = rd l1 (j : Int) := by unfold rd; rw [Int.toNat_natCast, List.getD_eq_getElem?_getD, List.getElem?_eq_getElem hjl]; rfl
              rw [hrd] at hE
              generalize rd l1 (j : Int) = n at hE pk
              clear hrd
              by_cases hn0 : n < 0
              · have dn : decide (n < 0) = true := decide_eq_true hn0
                simp only [if_pos hn0] at hE
                have HE3 := Aside0.mk (show ys ++ crashL (l0.drop (i + 1)) (l1.drop (j + 1)) = crashL l0 l1 from hE)
                clear hE
                go_wp2
                go_roundg kj
                case measure => omega
                case rel => exact ⟨i + 1, j + 1, gs, ys, _, congrArg (Value.int .i64) (by omega), congrArg (Value.int .i64) (by omega), ⟨by have := HK.out; omega⟩, ⟨by omega⟩, HJ2, HE3, ⟨by have := HYL.out; omega⟩, BOf, ⟨Kd.R_below HROW.out HBF.out⟩, ⟨HALL.out.below HBF.out⟩, ⟨HKO.out.below HBF.out⟩, ⟨below_step HB.out HBF.out⟩⟩
              · have dn : decide (n < 0) = false := decide_eq_false hn0
                simp only [if_neg hn0] at hE
                obtain ⟨nq, rfl⟩ := Int.eq_ofNat_of_zero_le (show 0 ≤ n by omega)
                rw [Int.toNat_natCast] at hE
                by_cases hbig : nq < xd.length
                · have hb2 : decide ((nq : Int) < (xd.length : Int)) = true := decide_eq_true (by omega)
                  have hb2n : decide (nq < xd.length) = true := decide_eq_true hbig
                  have HE3 := Aside0.mk (show (ys ++ [⟨s0, xd.take nq, true⟩]) ++ crashL (l0.drop (i + 1)) (l1.drop (j + 1)) = crashL l0 l1 by rw [List.append_assoc]; exact hE)
                  have hxm : xd.length ≤ m1 := HQ3.out
                  have HVY := Aside0.mk (show Kd.V (Kd.int .u8) 5 wo 0 _ (.slice B1 nq m1) (xd.take nq) from by have h1 := Kd.V_mk (e := 5) (base := 0) (c := m1) (by rw [List.length_take]; omega) (Kd.F_take (Kd.V_at HVX.out).2.2 (Nat.le_of_lt hbig)); rw [List.length_take, Nat.min_eq_left (Nat.le_of_lt hbig)] at h1; exact h1)
                  clear hE
                  have hnm : nq ≤ m1 := by omega
                  go_upto_region 19 with fail
                  have BFx := Aside0.mk (show ((wf.setCell ⟨wo.heap.size, 1, none⟩ (.slice B1 nq m1)).setCell ⟨wo.heap.size, 2, none⟩ (.bool true)).heap[wo.heap.size]? = some (.cells #[.string s0, .slice B1 nq m1, .bool true] 48 (0, 0)) from blk_set (blk_set BF.out 1 _) 2 _)
                  have BOx := Aside0.mk (show ((wf.setCell ⟨wo.heap.size, 1, none⟩ (.slice B1 nq m1)).setCell ⟨wo.heap.size, 2, none⟩ (.bool true)).heap[O]? = some (.cells #[.int .i64 cap, .slice Av gs.length cv] 24 (0, 0)) from blk_far (blk_far BOf.out (p := ⟨wo.heap.size, 1, none⟩) (Nat.ne_of_lt HFO.out) _) (p := ⟨wo.heap.size, 2, none⟩) (Nat.ne_of_lt HFO.out) _)
                  have HBX := Aside0.mk (show Below wo.heap.size wo ((wf.setCell ⟨wo.heap.size, 1, none⟩ (.slice B1 nq m1)).setCell ⟨wo.heap.size, 2, none⟩ (.bool true)) from below_set (below_set HBF.out (Nat.le_refl _)) (Nat.le_refl _))
                  generalize ((wf.setCell ⟨wo.heap.size, 1, none⟩ (.slice B1 nq m1)).setCell ⟨wo.heap.size, 2, none⟩ (.bool true)) = wx at *
                  have HRX := Aside0.mk (Kd.R_below HROW.out HBX.out)
                  have HBXW := Aside0.mk (show wn.heap.size ≤ wx.heap.size from Nat.le_trans HKO.out.1 HBX.out.size)
                  have o1 : wx.cell? ⟨O, 1, none⟩ = some (.slice Av gs.length cv) := (blk_cell BOx.out 1).trans rfl
                  have z0_ : wx.cell? ⟨wo.heap.size, 0, none⟩ = some (.string s0) := (blk_cell BFx.out 0).trans rfl
                  have z1_ : wx.cell? ⟨wo.heap.size, 1, none⟩ = some (.slice B1 nq m1) := (blk_cell BFx.out 1).trans rfl
                  have z2_ : wx.cell? ⟨wo.heap.size, 2, none⟩ = some (.bool true) := (blk_cell BFx.out 2).trans rfl
                  clear x0_ x1_ x2_ y1_ y2_
                  go_wp2_with (first | ((with_reducible refine gate_builtin (b := .append) (xs := #[.tmp 58, .tmp 60]) rfl ?_); at_builtin; refine Kd.R_append kF (w0 := wx) (W := wx) wn.heap.size rfl (.tmp 58) (.tmp 60) 22 48 (.agg #[.string ⟨#[]⟩, .slice none 0 0, .bool false]) 48 rfl Try.underlying22 infoF rfl (by decide) (by decide) (.slice Av gs.length cv) gs (⟨s0, (B1, nq, m1), true⟩ : SF) [.string s0, .slice B1 nq m1, .bool true] (fun _ => True) (fun _ => False) rfl rfl (kF_mkM _ _ _ (⟨s0, (B1, nq, m1), true⟩ : SF)) (fun _ h => h.elim) (fun _ _ => trivial) HRX.out (Below.refl _ _) HBXW.out HFW.out ?_; intro v1 w4 hr1 hb1 hg1 hat1; obtain ⟨b1, cap1, ev1, _, _, _⟩ := Kd.R_form hr1 (by simp); rw [List.length_append, List.length_singleton] at ev1; subst ev1; have HR4 := Aside0.mk hr1; have HG4 := Aside0.mk hg1; have HO4 := Aside0.mk (blk_grown BOx.out hg1 HNEO.out); have o1' : w4.cell? ⟨O, 1, none⟩ = some (.slice Av gs.length cv) := (blk_cell HO4.out 1).trans rfl; have fo1 := blk_frozen HO4.out 1; clear hr1 hb1 hg1 hat1 o1))
                  obtain ⟨z1, z2, z3, z4, z5⟩ := crash_more (y := (⟨s0, (xd.take nq), true⟩ : S48)) (w := w) (w3 := wn) HON.out (Nat.le_of_lt HO0.out) (fun k hk => ⟨Nat.lt_of_lt_of_le hk.2 (below_size HBn.out), fun e => by have h1 := HO0.out; have h2 := hk.2; omega⟩) HROW.out HALL.out (show BearsV wo _ (⟨s0, (B1, nq, m1), true⟩ : SF) (⟨s0, (xd.take nq), true⟩ : S48) from ⟨rfl, rfl, HVY.out⟩) HKO.out HB.out HBX.out BOx.out HR4.out HG4.out HNEO.out
                  have Z1 := Aside0.mk z1
                  have Z2 := Aside0.mk z2
                  have Z3 := Aside0.mk z3
                  have Z4 := Aside0.mk z4
                  have Z5 := Aside0.mk z5
                  clear z1 z2 z3 z4 z5
                  go_roundg kj
                  case measure => omega
                  case rel => exact ⟨i + 1, (j + 1), _, _, _, congrArg (Value.int .i64) (by omega), congrArg (Value.int .i64) (by omega), ⟨by have := HK.out; omega⟩, ⟨by omega⟩, HJ2, HE3, ⟨by rw [List.length_append, List.length_singleton]; have := HYL.out; omega⟩, Z1, Z2, Z3, Z4, Z5⟩
                · have hb2 : decide ((nq : Int) < (xd.length : Int)) = false := decide_eq_false (by omega)
                  have hb2n : decide (nq < xd.length) = false := decide_eq_false hbig
                  rw [List.take_of_length_le (by omega)] at hE
                  have HE3 := Aside0.mk (show (ys ++ [⟨s0, xd, true⟩]) ++ crashL (l0.drop (i + 1)) (l1.drop (j + 1)) = crashL l0 l1 by rw [List.append_assoc]; exact hE)
                  clear hE
                  go_upto_region 19 with fail
                  have BFx := Aside0.mk (show (wf.setCell ⟨wo.heap.size, 2, none⟩ (.bool true)).heap[wo.heap.size]? = some (.cells #[.string s0, .slice B1 xd.length m1, .bool true] 48 (0, 0)) from blk_set BF.out 2 _)
                  have BOx := Aside0.mk (show (wf.setCell ⟨wo.heap.size, 2, none⟩ (.bool true)).heap[O]? = some (.cells #[.int .i64 cap, .slice Av gs.length cv] 24 (0, 0)) from blk_far BOf.out (p := ⟨wo.heap.size, 2, none⟩) (Nat.ne_of_lt HFO.out) _)
                  have HBX := Aside0.mk (show Below wo.heap.size wo (wf.setCell ⟨wo.heap.size, 2, none⟩ (.bool true)) from below_set HBF.out (Nat.le_refl _))
                  generalize (wf.setCell ⟨wo.heap.size, 2, none⟩ (.bool true)) = wx at *
                  have HRX := Aside0.mk (Kd.R_below HROW.out HBX.out)
                  have HBXW := Aside0.mk (show wn.heap.size ≤ wx.heap.size from Nat.le_trans HKO.out.1 HBX.out.size)
                  have o1 : wx.cell? ⟨O, 1, none⟩ = some (.slice Av gs.length cv) := (blk_cell BOx.out 1).trans rfl
                  have z0_ : wx.cell? ⟨wo.heap.size, 0, none⟩ = some (.string s0) := (blk_cell BFx.out 0).trans rfl
                  have z1_ : wx.cell? ⟨wo.heap.size, 1, none⟩ = some (.slice B1 xd.length m1) := (blk_cell BFx.out 1).trans rfl
                  have z2_ : wx.cell? ⟨wo.heap.size, 2, none⟩ = some (.bool true) := (blk_cell BFx.out 2).trans rfl
                  clear x0_ x1_ x2_ y1_ y2_
                  go_wp2_with (first | ((with_reducible refine gate_builtin (b := .append) (xs := #[.tmp 58, .tmp 60]) rfl ?_); at_builtin; refine Kd.R_append kF (w0 := wx) (W := wx) wn.heap.size rfl (.tmp 58) (.tmp 60) 22 48 (.agg #[.string ⟨#[]⟩, .slice none 0 0, .bool false]) 48 rfl Try.underlying22 infoF rfl (by decide) (by decide) (.slice Av gs.length cv) gs (⟨s0, (B1, xd.length, m1), true⟩ : SF) [.string s0, .slice B1 xd.length m1, .bool true] (fun _ => True) (fun _ => False) rfl rfl (kF_mkM _ _ _ (⟨s0, (B1, xd.length, m1), true⟩ : SF)) (fun _ h => h.elim) (fun _ _ => trivial) HRX.out (Below.refl _ _) HBXW.out HFW.out ?_; intro v1 w4 hr1 hb1 hg1 hat1; obtain ⟨b1, cap1, ev1, _, _, _⟩ := Kd.R_form hr1 (by simp); rw [List.length_append, List.length_singleton] at ev1; subst ev1; have HR4 := Aside0.mk hr1; have HG4 := Aside0.mk hg1; have HO4 := Aside0.mk (blk_grown BOx.out hg1 HNEO.out); have o1' : w4.cell? ⟨O, 1, none⟩ = some (.slice Av gs.length cv) := (blk_cell HO4.out 1).trans rfl; have fo1 := blk_frozen HO4.out 1; clear hr1 hb1 hg1 hat1 o1))
                  obtain ⟨z1, z2, z3, z4, z5⟩ := crash_more (y := (⟨s0, xd, true⟩ : S48)) (w := w) (w3 := wn) HON.out (Nat.le_of_lt HO0.out) (fun k hk => ⟨Nat.lt_of_lt_of_le hk.2 (below_size HBn.out), fun e => by have h1 := HO0.out; have h2 := hk.2; omega⟩) HROW.out HALL.out (show BearsV wo _ (⟨s0, (B1, xd.length, m1), true⟩ : SF) (⟨s0, xd, true⟩ : S48) from ⟨rfl, rfl, HVX.out⟩) HKO.out HB.out HBX.out BOx.out HR4.out HG4.out HNEO.out
                  have Z1 := Aside0.mk z1
                  have Z2 := Aside0.mk z2
                  have Z3 := Aside0.mk z3
                  have Z4 := Aside0.mk z4
                  have Z5 := Aside0.mk z5
                  clear z1 z2 z3 z4 z5
                  go_roundg kj
                  case measure => omega
                  case rel => exact ⟨i + 1, (j + 1), _, _, _, congrArg (Value.int .i64) (by omega), congrArg (Value.int .i64) (by omega), ⟨by have := HK.out; omega⟩, ⟨by omega⟩, HJ2, HE3, ⟨by rw [List.length_append, List.length_singleton]; have := HYL.out; omega⟩, Z1, Z2, Z3, Z4, Z5⟩
            · have dj : decide ((j : Int) < (l1.length : Int)) = false := decide_eq_false (by omega)
              have djn : decide (j < l1.length) = false := decide_eq_false hjl
              have HE3 := Aside0.mk (show ys ++ crashL (l0.drop (i + 1)) (l1.drop (j + 1)) = crashL l0 l1 by have h1 := HEQ2.out; rw [show l1.drop j = [] from List.drop_eq_nil_of_le (by omega)] at h1; rw [show l1.drop (j + 1) = [] from List.drop_eq_nil_of_le (by omega)]; rw [crashL, if_neg (by simp)] at h1; exact h1)
              have hjb : (j : Int) ≤ 100000 := by have h1 := HJ.out; have h2 := HLL.out; omega
              go_wp2
              go_roundg kj
              case measure => omega
              case rel => exact ⟨i + 1, j + 1, gs, ys, _, congrArg (Value.int .i64) (by omega), congrArg (Value.int .i64) (by omega), ⟨by have := HK.out; omega⟩, ⟨by omega⟩, HJ2, HE3, ⟨by have := HYL.out; omega⟩, BOf, ⟨Kd.R_below HROW.out HBF.out⟩, ⟨HALL.out.below HBF.out⟩, ⟨HKO.out.below HBF.out⟩, ⟨below_step HB.out HBF.out⟩⟩
        · have d1 : decide ((i : Int) < (l0.length : Int)) = false := decide_eq_false (by omega)
          have d1n : decide (i < l0.length) = false := decide_eq_false hlt
          have HE := Aside0.mk (show ys = crashL l0 l1 by
            have h1 := HEQ.out
            rw [List.drop_eq_nil_of_le (by omega), crashL, List.append_nil] at h1
            exact h1)
          have BK2o := Aside0.mk ((HKO.out.2 B2 (Nat.lt_trans HO2.out HON.out) (Nat.ne_of_lt HO2.out)).trans BK2.out)
          have o0 : wo.cell? ⟨O, 0, none⟩ = some (.int .i64 cap) := (blk_cell BO.out 0).trans rfl
          have o1 : wo.cell? ⟨O, 1, none⟩ = some (.slice Av gs.length cv) := (blk_cell BO.out 1).trans rfl
          have e0 : wo.cell? ⟨B2, 0, none⟩ = some (.int .i64 0) := (blk_cell BK2o.out 0).trans rfl
          have e1 : wo.cell? ⟨B2, 1, none⟩ = some (.slice none 0 0) := (blk_cell BK2o.out 1).trans rfl
          have f0 := blk_frozen BK2o.out 0
          have f1 := blk_frozen BK2o.out 1
          go_wp2
          have hG := blk_set (blk_set BK2o.out 0 (.int .i64 cap)) 1 (.slice Av gs.length cv)
          refine bodyPost_ret (results_c1 rfl _ _ B2 24 #[.int .i64 cap, .slice Av gs.length cv] (0, 0) _ rfl hG Try.underlying24 rfl (by kernel_rfl)) rfl ?_
          have hys := HE.out
          subst hys
          exact ⟨_, rfl, fin_V2 BK2o.out HROW.out (fun k hk => .inr (Nat.le_trans (below_size HBn.out) hk)) HALL.out (fun k hk => ⟨.inl hk.1, fun e => by have h1 := HB2.out; have h2 := hk.2; omega⟩) _ _, below_set (below_set HB.out (Nat.le_of_lt HB2.out)) (Nat.le_of_lt HB2.out)⟩
  · rw [if_neg ho] at h
    exact absurd h (by simp)
end Go.Proofs.Ytaldbabkdoabkaa.T

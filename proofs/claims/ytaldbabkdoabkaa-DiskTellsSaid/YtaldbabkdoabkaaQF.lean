import Derived.Test.YtaldbabkdoabkaaProg
import Derived.Test.YtaldbabkdoabkaaQV
import Derived.Test.YtaldbabkdoabkaaQA
import Derived.Test.YtaldbabkdoabkaaQB
import Derived.Test.YtaldbabkdoabkaaQC
import Derived.Below
import Derived.Deep.Draws
import Derived.Deep.AppendLies
import Derived.Maps.AppendAt
import Derived.OwnWalk
import Derived.Laws.BytesArg
import Derived.Laws.MakeOwn
import Derived.Laws.OwnMore
import Derived.Deep.OwnRows
import Derived.Tactics
import Derived.Lib.ConvBytes
import Derived.Laws.Slices
import Derived.WalkKit
import Derived.KernelRfl
import Derived.RowKit3
import Derived.Deep.LoopGhost
import Derived.Deep.QuietTactic
import Derived.BigQuiet
import Derived.WideLaws
import Derived.Deep.DeepCutAuto
import Derived.Deep.CutBlock
import Derived.Deep.RegionHeld3
import Derived.Laws.Rows
import Derived.Lib.AppendStr
import Derived.ArgAppend
import Derived.Laws.IdiomCopy
import Derived.OrdersHeld
import Derived.Laws.BitsLemmas
import Derived.RowKit
namespace Go.Proofs.Ytaldbabkdoabkaa.T
open Go.RowKit Go.Proofs.YtaldbabkdoabkaaW.PrintWords Go.Proofs.YtaldbabkdoabkaaW.PrintLast Go.Proofs.YtaldbabkdoabkaaW.PrintMore
attribute [local go_sem] max2_int min2_int max_two min_two max_three min_three max_four min_four   -- for this text's walks alone
set_option linter.unusedVariables false
set_option linter.unusedSimpArgs false
/-! ### disk.own (function 43), by hand -/
theorem size_alloc_ (w : World) (o : Obj) : (w.alloc o).heap.size = w.heap.size + 1 := by unfold World.alloc; exact Array.size_push _
theorem blk_new2 (w : World) (o o2 : Obj) : ((w.alloc o).alloc o2).heap[w.heap.size + 1]? = some o2 := by
  have h := blk_new (w.alloc o) o2
  rw [size_alloc_] at h
  exact h
theorem results_c1 {P : Program} {fn : Func} {p : Tmp} {ty : TypeId} (h : fn.results = #[.cell p ty]) (tmps : Array Value) (w : World) (g : Nat) (t : TypeId) (cs : Array Value) (fr : Nat × Nat) (d : TypeDesc)
    (hp : tmps.getD p undef = .pointer (some ⟨g, 0, none⟩)) (hg : w.heap[g]? = some (.cells cs t fr))
    (hu : P.underlying ty = some d) (hd : (match d with | .struct _ | .array _ _ => true | _ => false) = true) (hi : (P.info? ty).map (·.size) = some cs.size) :
    (results fn tmps).run P w = .ok (.agg cs) w := by
  have hp' : tmps[p]?.getD undef = .pointer (some ⟨g, 0, none⟩) := by simpa using hp
  simp [results, h, hp', asAddr, run_loadVar_row w g t ty cs fr d hg hu hd hi]
theorem clone_told (A : Option Addr) (c : Nat) (l : List Int) (w : World) (hC : Kd.C (Kd.int .u8) w A l.length l) (hc : l.length ≤ c) (hl : l.length ≤ 140737488355328) :
    Calls Try.prog 29 #[.slice A l.length c] w fun e w' => ∃ (A' : Option Addr) (c' : Nat), e = .returned (.slice A' l.length c') ∧ Aside0 (Kd.V (Kd.int .u8) 5 w' 0 (fun k => w.heap.size ≤ k) (.slice A' l.length c') l) ∧ Below w.heap.size w w' := by
  refine (slices_Clone_u8.calls A c l l w hC hc (by unfold slices_Clone_u8.f; rw [if_pos (by omega)])).mono ?_
  rintro e w' ⟨v, rfl, hR, hB⟩
  obtain ⟨A', c', rfl⟩ := Kd.R_slice hR
  exact ⟨A', c', rfl, ⟨Kd.R_V (Kd.R_mono (Kd.R_tight rfl hR) (fun k hk => Kd.R_base hR k hk.symm))⟩, hB⟩
theorem cloneF_told (A : Option Addr) (c : Nat) (l : List SF) (w : World) (hC : Kd.C kF w A l.length l) (hc : l.length ≤ c) (hl : l.length * 48 ≤ 140737488355328) :
    Calls Try.prog 50 #[.slice A l.length c] w fun e w' => ∃ v, e = .returned v ∧ Kd.R kF 48 w' w.heap.size (fun _ => True) v l ∧ Below w.heap.size w w' :=
  slices_Clone_F.calls A c l l w hC hc (by unfold slices_Clone_F.f; rw [if_pos hl])
set_option maxHeartbeats 8000000 in
set_option maxRecDepth 100000 in
theorem own_calls (cap : Int) (A : Option Addr) (c : Nat) (l : List S48) (w : World) (hr : Kd.C k48 w A l.length l) (hc : l.length ≤ c) (hL : l.length * 48 ≤ 140737488355328) (hD : ∀ x ∈ l, x.f1.length ≤ 140737488355328) :
    Calls Try.prog 43 #[.agg #[.int .i64 cap, .slice A l.length c]] w fun e w' => ∃ (v : Value) (fs : List SF), e = .returned (.agg #[.int .i64 cap, v]) ∧ Kd.R kF 48 w' w.heap.size (fun _ => True) v fs ∧ AllV w' (fun k => w.heap.size ≤ k ∧ some k ≠ v.ownBlock) fs l ∧ Below w.heap.size w w' := by
  have hu24 := Try.underlying24
  have hu48 := Try.underlying48
  obtain ⟨fs, hF, hA⟩ := CF_of hr
  have HF := Aside0.mk hF
  have HA := Aside0.mk hA
  have HD := Aside0.mk hD
  have HR := Aside0.mk hr
  have hn : fs.length = l.length := hA.1
  rw [← hn] at hc hL ⊢
  rw [← hn] at hF
  have HF2 := Aside0.mk hF
  have HN := Aside0.mk hn
  clear hF hA hD hr hn
  go_enter Try.func43, Try.ntmps43
  go_upto_block 0 with (first | (go_at_call 50; (refine (cloneF_told A c fs _ (Kd.C_below HF2.out (by repeat (first | exact Below.refl _ _ | apply below_alloc))) hc hL).mono ?_); rintro e w1 ⟨v, rfl, hR, hB⟩; obtain ⟨Av, cv, ev⟩ := Kd.R_slice hR; subst ev; have BX := Aside0.mk (blk_below (g := w.heap.size) (o := .cells #[.int .i64 cap, .slice A fs.length c] 24 (0, 0)) (blk_alloc (blk_new w _) _) hB); have cX1 : w1.cell? ⟨w.heap.size, 1, none⟩ = some (.slice A fs.length c) := (blk_cell BX.out 1).trans rfl; have fX1 := blk_frozen BX.out 1; have HR1 := Aside0.mk hR; have HB1 := Aside0.mk hB; clear hR hB))
  have hb0 : Below w.heap.size w ((w.alloc (.cells #[.int .i64 cap, .slice A fs.length c] 24)).alloc (.cells #[.int .i64 0, .slice none 0 0] 24)) := (below_alloc (Below.refl _ _) _).alloc (below_alloc (Below.refl _ _) _).size _
  have hs2 : ((w.alloc (.cells #[.int .i64 cap, .slice A fs.length c] 24)).alloc (.cells #[.int .i64 0, .slice none 0 0] 24)).heap.size = w.heap.size + 2 := by rw [size_alloc_, size_alloc_]
  have hr1 : Kd.R kF 48 w1 (w.heap.size + 2) (fun _ => True) (.slice Av fs.length cv) fs := by have := HR1.out; rwa [hs2] at this
  have BX2 := Aside0.mk (blk_far (blk_below (g := w.heap.size + 1) (o := .cells #[.int .i64 0, .slice none 0 0] 24 (0, 0)) (blk_new2 w _ _) HB1.out) (p := ⟨w.heap.size, 1, none⟩) (by show w.heap.size + 1 ≠ w.heap.size; omega) (.slice Av fs.length cv))
  have BG := Aside0.mk (show (w1.setCell ⟨w.heap.size, 1, none⟩ (.slice Av fs.length cv)).heap[w.heap.size]? = some (.cells #[.int .i64 cap, .slice Av fs.length cv] 24 (0, 0)) from blk_set BX.out 1 _)
  have HB := Aside0.mk (below_set (below_step hb0 HB1.out) (Nat.le_refl _) : Below w.heap.size w (w1.setCell ⟨w.heap.size, 1, none⟩ (.slice Av fs.length cv)))
  have hrow := Kd.R_far (Kd.R_tight rfl hr1) (p := ⟨w.heap.size, 1, none⟩) (fun k hk => by have := Kd.R_base hr1 k hk.symm; show k ≠ w.heap.size; omega) (.slice Av fs.length cv)
  have HROW := Aside0.mk (Kd.R_mono hrow (ok' := fun _ => True) (fun _ _ => trivial))
  clear hb0 hs2 hr1 hrow cX1 fX1 BX HR1 HB1
  generalize w1.setCell ⟨w.heap.size, 1, none⟩ (.slice Av fs.length cv) = wa at *
  go_cut [] (fun wc => ∃ gs : List SF, Aside0 (gs.length = fs.length) ∧ Aside0 (∀ (j : Nat) (s : SF) (x : S48), gs[j]? = some s → l[j]? = some x → BearsV wc (fun k => w.heap.size + 2 ≤ k ∧ some k ≠ (Value.slice Av fs.length cv).ownBlock) s x) ∧ Aside0 (Kd.R kF 48 wc (w.heap.size + 2) (fun _ => True) (.slice Av fs.length cv) gs) ∧ Aside0 (wc.heap[w.heap.size]? = some (.cells #[.int .i64 cap, .slice Av fs.length cv] 24 (0, 0))) ∧ Aside0 (wc.heap[w.heap.size + 1]? = some (.cells #[.int .i64 0, .slice none 0 0] 24 (0, 0))) ∧ Aside0 (Below w.heap.size w wc))
  case first =>
    go_wp2
    go_loopg [11] fs.length (fun kq v11 w' => ∃ (i : Nat) (gs : List SF), v11 = .int .i64 (i : Int) ∧ Aside0 (fs.length ≤ kq + i) ∧ Aside0 (i ≤ fs.length) ∧ Aside0 (gs.length = fs.length) ∧ Aside0 (∀ j, i ≤ j → gs[j]? = fs[j]?) ∧ Aside0 (∀ (j : Nat) (s : SF) (x : S48), j < i → gs[j]? = some s → l[j]? = some x → BearsV w' (fun k => w.heap.size + 2 ≤ k ∧ some k ≠ (Value.slice Av fs.length cv).ownBlock) s x) ∧ Aside0 (Kd.R kF 48 w' (w.heap.size + 2) (fun _ => True) (.slice Av fs.length cv) gs) ∧ Aside0 (w'.heap[w.heap.size]? = some (.cells #[.int .i64 cap, .slice Av fs.length cv] 24 (0, 0))) ∧ Aside0 (w'.heap[w.heap.size + 1]? = some (.cells #[.int .i64 0, .slice none 0 0] 24 (0, 0))) ∧ Aside0 (Below w.heap.size w w'))
    case atStart => exact ⟨0, fs, rfl, ⟨Nat.le_refl _⟩, ⟨Nat.zero_le _⟩, ⟨rfl⟩, ⟨fun _ _ => rfl⟩, ⟨fun j s x hj => absurd hj (by omega)⟩, HROW, BG, BX2, HB⟩
    case round =>
      clear HROW BG BX2 HB
      obtain ⟨i, gs, rfl, HK, HI, HGL, HGD, HGB, HROW, BG, BG2, HB⟩ := hrel
      obtain ⟨wo, rfl⟩ : ∃ wo : World, wo = wr := ⟨_, rfl⟩
      by_cases hlt : i < fs.length
      · obtain ⟨kj, rfl⟩ : ∃ m, gk = m + 1 := ⟨gk - 1, by have := HK.out; omega⟩
        have d1 : decide ((i : Int) < (fs.length : Int)) = true := decide_eq_true (by omega)
        have hil : i < l.length := by have := HN.out; omega
        have hgl := HGL.out
        obtain ⟨g, cv2, ef, hgb, hgs, cells, hgc⟩ := Kd.R_form HROW.out (by omega)
        rw [hgl] at ef
        injection ef with e1 e2 e3
        subst e1; subst e3
        obtain ⟨cc, hcl, hM, hcc, hfz⟩ := Kd.R_elem HROW.out zF (i : Int) (by omega) (by omega)
        rw [Int.toNat_natCast] at hM hcc hfz
        obtain ⟨x, hxi⟩ : ∃ x, l[i]? = some x := ⟨_, List.getElem?_eq_getElem hil⟩
        obtain ⟨sf, hsi⟩ : ∃ s, fs[i]? = some s := ⟨_, List.getElem?_eq_getElem hlt⟩
        have hgi : gs.getD i zF = sf := by rw [List.getD_eq_getElem?_getD, HGD.out i (Nat.le_refl _), hsi]; rfl
        rw [hgi] at hM
        obtain rfl := kF_openM hM
        obtain ⟨hx0, hx2, hx3, hx4, hxC⟩ := HA.out.2 i sf x hsi hxi
        have r1 : wo.cell? ⟨g, i * 3 + 1, none⟩ = some (.slice sf.f1.1 x.f1.length sf.f1.2.2) := by rw [← hx3]; exact hcc 1 _ rfl
        have FZ := Aside0.mk (fun (W : World) (hb : Below wo.heap.size wo W) => (by
          have h1 := hb.block g hgs
          rw [hgc] at h1
          exact blk_frozen h1 (i * 3 + 1) : W.frozen? ⟨g, i * 3 + 1, none⟩ = false))
        have CD := Aside0.mk (Kd.C_below hxC HB.out)
        have HXL := Aside0.mk (HD.out x (List.mem_of_getElem? hxi))
        have hc1 := Aside0.mk hx4
        have HX0 := Aside0.mk hx0
        have HX2 := Aside0.mk hx2
        have HCC := Aside0.mk hcc
        have HGS := Aside0.mk (⟨hgb, hgs⟩ : w.heap.size + 2 ≤ g ∧ g < wo.heap.size)
        have HXI := Aside0.mk hxi
        clear hx0 hx2 hx3 hx4 hxC hcc hfz hgi hM hcl hgc hgb hgs hgl hil hxi hsi
        obtain ⟨sf0, ⟨A1, n1, c1⟩, sf2⟩ := sf
        have cG : wo.cell? ⟨w.heap.size, 1, none⟩ = some (.slice (some ⟨g, 0, none⟩) fs.length cv) := (blk_cell BG.out 1).trans rfl
        go_wp2
        refine start_ (n := 13) (S := fun w' => w'.cell? ⟨w.heap.size, 1, none⟩ = some (.slice (some ⟨g, 0, none⟩) fs.length cv) ∧ w'.cell? ⟨g, i * 3 + 1, none⟩ = some (.slice A1 x.f1.length c1)) (ds := [12]) #[false, false, false, false, false, false, false, false, false, false, false, false, false] (by kernel_rfl) rfl rfl ⟨(pw_cell_below (below_drew (Below.refl _ _)) cG), (pw_cell_below (below_drew (Below.refl _ _)) r1)⟩ (fun hHeld => ?_)
        refine pure_ (i := 0) (N := some 14) (v := ?_) (a' := ?_) #[true, false, false, false, false, false, false, false, false, false, false, false, false] rfl rfl (by kernel_rfl) (fun _ _ _ h => h) (Or.inl ⟨by rfl, ?_⟩) ?_ ?_
        rotate_left
        · intro w'
          go_simp
          with_reducible rfl
        rotate_left
        · simp only [Act.put, List.setIfInBounds_toArray, List.set_cons_zero, List.set_cons_succ, i64_w, i32_w]
          rfl
        refine pure_ (i := 2) (N := some 16) (v := ?_) (a' := ?_) #[true, false, true, false, false, false, false, false, false, false, false, false, false] rfl rfl (by kernel_rfl) (fun _ _ _ h => h) (Or.inl ⟨by rfl, ?_⟩) ?_ ?_
        rotate_left
        · intro w'
          go_simp
          with_reducible rfl
        rotate_left
        · simp only [Act.put, List.setIfInBounds_toArray, List.set_cons_zero, List.set_cons_succ, i64_w, i32_w]
          rfl
        refine pure_ (i := 3) (N := some 17) (v := ?_) (a' := ?_) #[true, false, true, true, false, false, false, false, false, false, false, false, false] rfl rfl (by kernel_rfl) (fun _ _ _ h => h) (Or.inl ⟨by rfl, ?_⟩) ?_ ?_
        rotate_left
        · intro w'
          go_simp
          with_reducible rfl
        rotate_left
        · simp only [Act.put, List.setIfInBounds_toArray, List.set_cons_zero, List.set_cons_succ, i64_w, i32_w]
          rfl
        refine pure_ (i := 5) (N := some 19) (v := ?_) (a' := ?_) #[true, false, true, true, false, true, false, false, false, false, false, false, false] rfl rfl (by kernel_rfl) (fun _ _ _ h => h) (Or.inl ⟨by rfl, ?_⟩) ?_ ?_
        rotate_left
        · intro w'
          go_simp
          with_reducible rfl
        rotate_left
        · simp only [Act.put, List.setIfInBounds_toArray, List.set_cons_zero, List.set_cons_succ, i64_w, i32_w]
          rfl
        refine take_ (i := 1) (N := some 15) (v := ?_) (a' := ?_) #[true, true, true, true, false, true, false, false, false, false, false, false, false] rfl rfl (by kernel_rfl) (fun _ _ _ h => h) (Or.inl ⟨by rfl, ?_⟩) hHeld ?_ ?_
        rotate_left
        · rintro w' ⟨s0, s1⟩
          go_simp
          with_reducible rfl
        rotate_left
        · simp only [Act.put, List.setIfInBounds_toArray, List.set_cons_zero, List.set_cons_succ, i64_w, i32_w]
          rfl
        refine take_ (i := 4) (N := some 18) (v := ?_) (a' := ?_) #[true, true, true, true, true, true, false, false, false, false, false, false, false] rfl rfl (by kernel_rfl) (fun _ _ _ h => h) (Or.inl ⟨by rfl, ?_⟩) hHeld ?_ ?_
        rotate_left
        · rintro w' ⟨s0, s1⟩
          go_simp
          with_reducible rfl
        rotate_left
        · simp only [Act.put, List.setIfInBounds_toArray, List.set_cons_zero, List.set_cons_succ, i64_w, i32_w]
          rfl
        refine pure_ (i := 6) (N := some 20) (v := ?_) (a' := ?_) #[true, true, true, true, true, true, true, false, false, false, false, false, false] rfl rfl (by kernel_rfl) (fun _ _ _ h => h) (Or.inl ⟨by rfl, ?_⟩) ?_ ?_
        rotate_left
        · intro w'
          go_simp
          with_reducible rfl
        rotate_left
        · simp only [Act.put, List.setIfInBounds_toArray, List.set_cons_zero, List.set_cons_succ, i64_w, i32_w]
          rfl
        refine pure_ (i := 7) (N := some 21) (v := ?_) (a' := ?_) #[true, true, true, true, true, true, true, true, false, false, false, false, false] rfl rfl (by kernel_rfl) (fun _ _ _ h => h) (Or.inl ⟨by rfl, ?_⟩) ?_ ?_
        rotate_left
        · intro w'
          go_simp
          with_reducible rfl
        rotate_left
        · simp only [Act.put, List.setIfInBounds_toArray, List.set_cons_zero, List.set_cons_succ, i64_w, i32_w]
          rfl
        refine take_ (i := 8) (N := some 22) (v := ?_) (a' := ?_) #[true, true, true, true, true, true, true, true, true, false, false, false, false] rfl rfl (by kernel_rfl) (fun _ _ _ h => h) (Or.inl ⟨by rfl, ?_⟩) hHeld ?_ ?_
        rotate_left
        · rintro w' ⟨s0, s1⟩
          go_simp
          with_reducible rfl
        rotate_left
        · simp only [Act.put, List.setIfInBounds_toArray, List.set_cons_zero, List.set_cons_succ, i64_w, i32_w]
          rfl
        refine one_ (i := 9) (N := some 23) #[true, true, true, true, true, true, true, true, true, true, false, false, false] rfl rfl (by kernel_rfl) (by decide) (fun K hK => ?_)
        refine goes_ Try.func29 (by kernel_rfl) rfl #[.slice A1 x.f1.length c1] (by rfl) rfl rfl (by simp only [List.map_toArray, List.map_cons, List.map_nil]; rfl) ?_
        with_reducible refine (clone_told A1 c1 x.f1 wo.drew (Kd.C_below CD.out (below_drew (Below.refl _ _))) hc1.out HXL.out).mono ?_
        rintro e w3 ⟨A2, c2, rfl, hV, hb⟩
        refine ⟨_, rfl, ?_⟩
        have BN := Aside0.mk (below_step (below_drew (Below.refl _ _)) hb : Below wo.heap.size wo w3)
        have HV := Aside0.mk hV.out
        refine hK.out _ _ ⟨pw_cell_below hb hHeld.1, pw_cell_below hb hHeld.2⟩ (fun hHeld => ?_)
        clear hK K
        refine norm_ (a' := ?_) ?_ ?_
        rotate_left
        · show Act.put _ (some 23) _ = _
          simp only [Act.put, List.setIfInBounds_toArray, List.set_cons_zero, List.set_cons_succ, i64_w, i32_w]
          rfl
        refine pure_ (i := 10) (N := some 24) (v := ?_) (a' := ?_) #[true, true, true, true, true, true, true, true, true, true, true, false, false] rfl rfl (by kernel_rfl) (fun _ _ _ h => h) (Or.inl ⟨by rfl, ?_⟩) ?_ ?_
        rotate_left
        · intro w'
          go_simp
          with_reducible rfl
        rotate_left
        · simp only [Act.put, List.setIfInBounds_toArray, List.set_cons_zero, List.set_cons_succ, i64_w, i32_w]
          rfl
        refine pure_ (i := 11) (N := some 25) (v := ?_) (a' := ?_) #[true, true, true, true, true, true, true, true, true, true, true, true, false] rfl rfl (by kernel_rfl) (fun _ _ _ h => h) (Or.inl ⟨by rfl, ?_⟩) ?_ ?_
        rotate_left
        · intro w'
          go_simp
          with_reducible rfl
        rotate_left
        · simp only [Act.put, List.setIfInBounds_toArray, List.set_cons_zero, List.set_cons_succ, i64_w, i32_w]
          rfl
        refine last_ (i := 12) (N := none) #[true, true, true, true, true, true, true, true, true, true, true, true, true] rfl rfl (by kernel_rfl) (by decide) (fun K hK => ?_)
        have hcS : w3.cell? ⟨g, i * 3 + 1, none⟩ = some (.slice A1 x.f1.length c1) := pw_cell_below BN.out r1
        have hfS : w3.frozen? ⟨g, i * 3 + 1, none⟩ = false := FZ.out w3 BN.out
        refine skip_ (w1 := ?_) (by rfl) rfl ?_ ?_
        rotate_left
        · go_simp
          rfl
        refine hK.out _ _ ?_
        clear hK K
        refine done_ (by kernel_rfl) ?_
        have hob : (Value.slice (some ⟨g, 0, none⟩) fs.length cv).ownBlock = some g := rfl
        have hgo := HGS.out
        have hseg := Kd.R_seg (j := 1) (seg := [.slice A2 x.f1.length c2]) (okp := fun _ => False) (x' := (⟨sf0, (A2, x.f1.length, c2), sf2⟩ : SF)) (Kd.R_below HROW.out BN.out) (i : Int) (by omega) (by omega) (c := [.string sf0, encSl (A1, n1, c1), .bool sf2]) rfl (fun j u hu => by rw [Int.toNat_natCast]; exact pw_cell_below BN.out (HCC.out j u hu)) (by show 1 + 1 ≤ 3; omega) (kF_mkM _ _ _ (⟨sf0, (A2, x.f1.length, c2), sf2⟩ : SF)) (fun _ hk => hk.elim)
        rw [Int.toNat_natCast] at hseg
        have HROW2 := Aside0.mk hseg.1
        have hmv : ∀ k, (w.heap.size + 2 ≤ k ∧ some k ≠ (Value.slice (some ⟨g, 0, none⟩) fs.length cv).ownBlock) → k < w3.heap.size → (w3.setCell ⟨g, i * 3 + 1, none⟩ (.slice A2 x.f1.length c2)).heap[k]? = w3.heap[k]? := fun k hk _ => Below.heap_setCell w3 ⟨g, i * 3 + 1, none⟩ _ k (fun e => hk.2 (by rw [hob, e]))
        have HGB2 := Aside0.mk (fun (j : Nat) (s : SF) (y : S48) (hj : j < i + 1) (hs : (gs.set i (⟨sf0, (A2, x.f1.length, c2), sf2⟩ : SF))[j]? = some s) (hy : l[j]? = some y) => (by
          by_cases hji : j = i
          · subst hji
            rw [List.getElem?_set_self (by have := HGL.out; omega)] at hs
            obtain rfl := Option.some.inj hs
            rw [HXI.out] at hy
            obtain rfl := Option.some.inj hy
            exact BearsV.step ⟨HX0.out, HX2.out, Kd.V_mono HV.out (fun k hk => by
              have hk' : wo.heap.size ≤ k := hk
              exact ⟨by omega, by rw [hob]; intro e; injection e with e; omega⟩)⟩ hmv
          · rw [List.getElem?_set_ne (by omega)] at hs
            exact ((HGB.out j s y (by omega) hs hy).below BN.out).step hmv : BearsV (w3.setCell ⟨g, i * 3 + 1, none⟩ (.slice A2 x.f1.length c2)) (fun k => w.heap.size + 2 ≤ k ∧ some k ≠ (Value.slice (some ⟨g, 0, none⟩) fs.length cv).ownBlock) s y))
        have BG3 := Aside0.mk (blk_far (blk_below (g := w.heap.size) (o := .cells #[.int .i64 cap, .slice (some ⟨g, 0, none⟩) fs.length cv] 24 (0, 0)) BG.out BN.out) (p := ⟨g, i * 3 + 1, none⟩) (by show w.heap.size ≠ g; omega) (.slice A2 x.f1.length c2))
        have BG4 := Aside0.mk (blk_far (blk_below (g := w.heap.size + 1) (o := .cells #[.int .i64 0, .slice none 0 0] 24 (0, 0)) BG2.out BN.out) (p := ⟨g, i * 3 + 1, none⟩) (by show w.heap.size + 1 ≠ g; omega) (.slice A2 x.f1.length c2))
        have HB4 := Aside0.mk (below_set (below_step HB.out BN.out) (show w.heap.size ≤ g by omega) : Below w.heap.size w (w3.setCell ⟨g, i * 3 + 1, none⟩ (.slice A2 x.f1.length c2)))
        have HGL2 := Aside0.mk (show (gs.set i (⟨sf0, (A2, x.f1.length, c2), sf2⟩ : SF)).length = fs.length by rw [List.length_set]; exact HGL.out)
        have HGD2 := Aside0.mk (fun (j : Nat) (hj : i + 1 ≤ j) => (by rw [List.getElem?_set_ne (by omega)]; exact HGD.out j (by omega) : (gs.set i (⟨sf0, (A2, x.f1.length, c2), sf2⟩ : SF))[j]? = fs[j]?))
        clear hseg hmv hgo hob
        go_wp2
        go_roundg kj
        case measure => omega
        case rel => exact ⟨i + 1, _, congrArg (Value.int .i64) (by omega), ⟨by have := HK.out; omega⟩, ⟨by omega⟩, HGL2, HGD2, HGB2, HROW2, BG3, BG4, HB4⟩
      · have d1 : decide ((i : Int) < (fs.length : Int)) = false := decide_eq_false (by omega)
        go_wp2
        go_meet
        case rel => exact ⟨gs, HGL, ⟨fun j s x hs hx => HGB.out j s x (by have := (List.getElem?_eq_some_iff.1 hs).1; have := HGL.out; omega) hs hx⟩, HROW, BG, BG2, HB⟩
  case rest =>
    clear HROW BG BX2 HB
    obtain ⟨gs, HGL, HGB, HROW, BG, BG2, HB⟩ := hcut
    have cG0 : wc.cell? ⟨w.heap.size, 0, none⟩ = some (.int .i64 cap) := (blk_cell BG.out 0).trans rfl
    have cG1 : wc.cell? ⟨w.heap.size, 1, none⟩ = some (.slice Av fs.length cv) := (blk_cell BG.out 1).trans rfl
    have cH0 : wc.cell? ⟨w.heap.size + 1, 0, none⟩ = some (.int .i64 0) := (blk_cell BG2.out 0).trans rfl
    have cH1 : wc.cell? ⟨w.heap.size + 1, 1, none⟩ = some (.slice none 0 0) := (blk_cell BG2.out 1).trans rfl
    have fH0 := blk_frozen BG2.out 0
    have fH1 := blk_frozen BG2.out 1
    go_wp2
    have hrowz := Kd.R_far (Kd.R_far (Kd.R_tight rfl HROW.out) (p := ⟨w.heap.size + 1, 0, none⟩) (fun k hk => by have := Kd.R_base HROW.out k hk.symm; show k ≠ w.heap.size + 1; omega) (.int .i64 cap)) (p := ⟨w.heap.size + 1, 1, none⟩) (fun k hk => by have := Kd.R_base HROW.out k hk.symm; show k ≠ w.heap.size + 1; omega) (.slice Av fs.length cv)
    have HZ := Aside0.mk (Kd.R_lower (base' := w.heap.size) (Kd.R_mono hrowz (ok' := fun _ => True) (fun _ _ => trivial)) (by omega))
    have BGz := Aside0.mk (blk_set (blk_set BG2.out 0 (.int .i64 cap)) 1 (.slice Av fs.length cv))
    have HBz := Aside0.mk (below_set (below_set HB.out (show w.heap.size ≤ w.heap.size + 1 by omega)) (show w.heap.size ≤ w.heap.size + 1 by omega) : Below w.heap.size w ((wc.setCell ⟨w.heap.size + 1, 0, none⟩ (.int .i64 cap)).setCell ⟨w.heap.size + 1, 1, none⟩ (.slice Av fs.length cv)))
    have HAz := Aside0.mk (fun (j : Nat) (s : SF) (x : S48) (hs : gs[j]? = some s) (hx : l[j]? = some x) => (((HGB.out j s x hs hx).step (w1 := ((wc.setCell ⟨w.heap.size + 1, 0, none⟩ (.int .i64 cap)).setCell ⟨w.heap.size + 1, 1, none⟩ (.slice Av fs.length cv))) (fun k hk _ => (Below.heap_setCell _ ⟨w.heap.size + 1, 1, none⟩ _ k (by show k ≠ w.heap.size + 1; omega)).trans (Below.heap_setCell _ ⟨w.heap.size + 1, 0, none⟩ _ k (by show k ≠ w.heap.size + 1; omega)))).mono (fun k hk => ⟨by omega, hk.2⟩) : BearsV ((wc.setCell ⟨w.heap.size + 1, 0, none⟩ (.int .i64 cap)).setCell ⟨w.heap.size + 1, 1, none⟩ (.slice Av fs.length cv)) (fun k => w.heap.size ≤ k ∧ some k ≠ (Value.slice Av fs.length cv).ownBlock) s x))
    clear hrowz
    refine bodyPost_ret (results_c1 rfl _ _ (w.heap.size + 1) 24 #[.int .i64 cap, .slice Av fs.length cv] (0, 0) _ rfl BGz.out Try.underlying24 rfl (by kernel_rfl)) rfl ?_
    exact ⟨_, gs, rfl, HZ.out, ⟨by rw [HGL.out, HN.out], HAz.out⟩, HBz.out⟩
end Go.Proofs.Ytaldbabkdoabkaa.T

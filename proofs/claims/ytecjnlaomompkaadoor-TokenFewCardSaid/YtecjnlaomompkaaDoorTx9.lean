/- Written by hp.py, this session's own program, out of the translation of this seat: Lean functions for the Go functions, and the proof that each call comes to what its Lean function says. -/
import Derived.Test.YtecjnlaomompkaaDoorTx0
import Derived.Test.YtecjnlaomompkaaDoorTx2
import Derived.Test.YtecjnlaomompkaaDoorTx5
import Derived.Test.YtecjnlaomompkaaDoorVd
namespace Go.Proofs.YtecjnlaomompkaaDoor.T
open Go.RowKit Go.Proofs.YtecjnlaomompkaaDoorW.PrintWords Go.Proofs.YtecjnlaomompkaaDoorW.PrintLast Go.Proofs.YtecjnlaomompkaaDoorW.PrintMore
attribute [local go_sem] max2_int min2_int max_two min_two max_three min_three max_four min_four   -- for this text's walks alone
set_option linter.unusedVariables false
set_option linter.unusedSimpArgs false

/-! ### catchwordlaw05_TokenFew: function 9 -/
mutual
def catchwordlaw05_TokenFew.j0 : Nat → ByteArray → Int → ByteArray → Bool → Bool → Option (Bool)
  | 0, _, _, _, _, _ => none
  | k + 1, x0, x1, x2, x7, x27 => if x27 = true then (some x7) else ((token_Words.f k x2).bind fun bt309 => ((token_Card.f k x0 x1 x2).bind fun bt313 => (catchwordlaw05_TokenFew.l0 k x0 x1 x2 bt309.1 bt309.2 bt313.2.2.2 0 bt313.1 bt313.2.1 bt313.2.2.1)))
def catchwordlaw05_TokenFew.l0 : Nat → ByteArray → Int → ByteArray → List ByteArray → Int → Int → Int → ByteArray → Int → List ByteArray → Option (Bool)
  | 0, _, _, _, _, _, _, _, _, _, _ => none
  | k + 1, x0, x1, x2, x8, x9, x11, x12, x320000, x320001, x320002 => if x12 < (x8.length : Int) then (if 0 ≤ x12 then (if ((rdOf ByteArray.empty x8 x12).size : Int) < 1 then (some false) else (if ((rdOf ByteArray.empty x8 x12).size : Int) > 32 then (some false) else (catchwordlaw05_TokenFew.l0 k x0 x1 x2 x8 x9 x11 (wrap64 (x12 + 1)) x320000 x320001 x320002))) else (none)) else (if x11 = 0 then ((catchwordref05_Texts.f k x320002 x8).bind fun t322 => (if t322 = true then (if x9 = 0 then (if (wrap64 (2 * (x8.length : Int))) ≤ (wrap64 ((x2.size : Int) + 1)) then (if x320000.toList = x0.toList then (if x320001 = x1 then (some (decide ((x8.length : Int) ≤ 120))) else (some false)) else (some false)) else (some false)) else (some false)) else (some false))) else ((catchwordref05_Same.f k x320000 x320001 x320002 (⟨#[]⟩ : ByteArray) 0 ([] : List ByteArray)).bind fun t323 => (if t323 = true then (some (decide ((wrap64 (2 * (x8.length : Int))) ≤ (wrap64 ((x2.size : Int) + 1))))) else (some false))))
end
def catchwordlaw05_TokenFew.f (k : Nat) (a0 : ByteArray) (a1 : Int) (a2 : ByteArray) : Option (Bool) := (catchwordlaw05_awake.f k).bind fun t308 => (if t308 = true then (if (a2.size : Int) > 500 then (catchwordlaw05_TokenFew.j0 k a0 a1 a2 t308 true) else (catchwordlaw05_TokenFew.j0 k a0 a1 a2 t308 (decide ((a0.size : Int) > 500)))) else (catchwordlaw05_TokenFew.j0 k a0 a1 a2 t308 true))
theorem catchwordlaw05_TokenFew.mono_l : ∀ k, (∀ y0 y1 y2 y3 y4, LeO (catchwordlaw05_TokenFew.j0 k y0 y1 y2 y3 y4) (catchwordlaw05_TokenFew.j0 (k + 1) y0 y1 y2 y3 y4)) ∧ (∀ y0 y1 y2 y3 y4 y5 y6 y7 y8 y9, LeO (catchwordlaw05_TokenFew.l0 k y0 y1 y2 y3 y4 y5 y6 y7 y8 y9) (catchwordlaw05_TokenFew.l0 (k + 1) y0 y1 y2 y3 y4 y5 y6 y7 y8 y9))
  | 0 => ⟨fun _ _ _ _ _ r h => by simp [catchwordlaw05_TokenFew.j0] at h, fun _ _ _ _ _ _ _ _ _ _ r h => by simp [catchwordlaw05_TokenFew.l0] at h⟩
  | k + 1 => by
    obtain ⟨ih0, ih1⟩ := catchwordlaw05_TokenFew.mono_l k
    refine ⟨?_, ?_⟩
    · intro y0 y1 y2 y3 y4
      unfold catchwordlaw05_TokenFew.j0
      repeat' first
      | (with_reducible exact ih0 _ _ _ _ _)
      | (with_reducible exact ih1 _ _ _ _ _ _ _ _ _ _)
      | (with_reducible exact catchwordlaw05_awake.mono _)
      | (with_reducible exact catchwordref05_Same.mono _ _ _ _ _ _ _)
      | (with_reducible exact catchwordref05_Texts.mono _ _ _)
      | (with_reducible exact token_Card.mono _ _ _ _)
      | (with_reducible exact token_Words.mono _ _)
      | (with_reducible exact LeO.refl _)
      | (with_reducible exact LeO.none _)
      | (with_reducible refine LeO.ite ?_ ?_)
      | (with_reducible refine LeO.bind ?_ (fun _ => ?_))
      | exact ih0 _ _ _ _ _
      | exact ih1 _ _ _ _ _ _ _ _ _ _
      | exact catchwordlaw05_awake.mono _
      | exact catchwordref05_Same.mono _ _ _ _ _ _ _
      | exact catchwordref05_Texts.mono _ _ _
      | exact token_Card.mono _ _ _ _
      | exact token_Words.mono _ _
      | exact LeO.none _
      | refine LeO.ite ?_ ?_
      | refine LeO.bind ?_ (fun _ => ?_)
    · intro y0 y1 y2 y3 y4 y5 y6 y7 y8 y9
      unfold catchwordlaw05_TokenFew.l0
      repeat' first
      | (with_reducible exact ih0 _ _ _ _ _)
      | (with_reducible exact ih1 _ _ _ _ _ _ _ _ _ _)
      | (with_reducible exact catchwordlaw05_awake.mono _)
      | (with_reducible exact catchwordref05_Same.mono _ _ _ _ _ _ _)
      | (with_reducible exact catchwordref05_Texts.mono _ _ _)
      | (with_reducible exact token_Card.mono _ _ _ _)
      | (with_reducible exact token_Words.mono _ _)
      | (with_reducible exact LeO.refl _)
      | (with_reducible exact LeO.none _)
      | (with_reducible refine LeO.ite ?_ ?_)
      | (with_reducible refine LeO.bind ?_ (fun _ => ?_))
      | exact ih0 _ _ _ _ _
      | exact ih1 _ _ _ _ _ _ _ _ _ _
      | exact catchwordlaw05_awake.mono _
      | exact catchwordref05_Same.mono _ _ _ _ _ _ _
      | exact catchwordref05_Texts.mono _ _ _
      | exact token_Card.mono _ _ _ _
      | exact token_Words.mono _ _
      | exact LeO.none _
      | refine LeO.ite ?_ ?_
      | refine LeO.bind ?_ (fun _ => ?_)
theorem catchwordlaw05_TokenFew.mono : ∀ a0 a1 a2 k, LeO (catchwordlaw05_TokenFew.f k a0 a1 a2) (catchwordlaw05_TokenFew.f (k + 1) a0 a1 a2) := by
  intro a0 a1 a2 k
  obtain ⟨ih0, ih1⟩ := catchwordlaw05_TokenFew.mono_l k
  unfold catchwordlaw05_TokenFew.f
  repeat' first
      | (with_reducible exact ih0 _ _ _ _ _)
      | (with_reducible exact ih1 _ _ _ _ _ _ _ _ _ _)
      | (with_reducible exact catchwordlaw05_awake.mono _)
      | (with_reducible exact catchwordref05_Same.mono _ _ _ _ _ _ _)
      | (with_reducible exact catchwordref05_Texts.mono _ _ _)
      | (with_reducible exact token_Card.mono _ _ _ _)
      | (with_reducible exact token_Words.mono _ _)
      | (with_reducible exact LeO.refl _)
      | (with_reducible exact LeO.none _)
      | (with_reducible refine LeO.ite ?_ ?_)
      | (with_reducible refine LeO.bind ?_ (fun _ => ?_))
      | exact ih0 _ _ _ _ _
      | exact ih1 _ _ _ _ _ _ _ _ _ _
      | exact catchwordlaw05_awake.mono _
      | exact catchwordref05_Same.mono _ _ _ _ _ _ _
      | exact catchwordref05_Texts.mono _ _ _
      | exact token_Card.mono _ _ _ _
      | exact token_Words.mono _ _
      | exact LeO.none _
      | refine LeO.ite ?_ ?_
      | refine LeO.bind ?_ (fun _ => ?_)
set_option maxHeartbeats 8000000 in
set_option maxRecDepth 100000 in
theorem catchwordlaw05_TokenFew.calls (k : Nat) (a0 : ByteArray) (a1 : Int) (a2 : ByteArray) (r : Bool) (w : World) (hG : GG w) (h : catchwordlaw05_TokenFew.f k a0 a1 a2 = some r) :
    Calls Tryd.prog 9 #[.string a0, .int .i64 a1, .string a2] w fun e w' => e = .returned (.bool r) ∧ Below w.heap.size w w' := by
  have hu30 := Tryd.underlying30
  have HB := Aside0.mk (Below.refl w.heap.size w)
  have HG := Aside0.mk hG
  clear hG
  have H : ((catchwordlaw05_awake.f k).bind fun t308 => (if t308 = true then (if (a2.size : Int) > 500 then (catchwordlaw05_TokenFew.j0 k a0 a1 a2 t308 true) else (catchwordlaw05_TokenFew.j0 k a0 a1 a2 t308 (decide ((a0.size : Int) > 500)))) else (catchwordlaw05_TokenFew.j0 k a0 a1 a2 t308 true))) = some r := h
  clear h
  replace H := Option.bind_eq_some_iff.mp H
  obtain ⟨t308, A40, H⟩ := H
  replace H : (if t308 = true then (if (a2.size : Int) > 500 then (catchwordlaw05_TokenFew.j0 k a0 a1 a2 t308 true) else (catchwordlaw05_TokenFew.j0 k a0 a1 a2 t308 (decide ((a0.size : Int) > 500)))) else (catchwordlaw05_TokenFew.j0 k a0 a1 a2 t308 true)) = some r := H
  have A4 := Aside0.mk A40
  clear A40
  have HC5 := Aside0.mk H
  clear H
  go_enter Tryd.func9, Tryd.ntmps9
  go_upto_region 2 with (first | ((with_reducible refine gate_callee (f := 10) rfl ?_); refine goesL_ (some 15) rfl rfl Tryd.func10 (by kernel_rfl) rfl #[] rfl (by (try simp only [List.map_toArray, List.map_cons, List.map_nil]); first | done | rfl | (simp only [List.length_drop, List.length_take]; rfl)) ?_; (with_reducible refine (catchwordlaw05_awake.calls k  t308 _ ?side1 A4.out).mono ?_); (case side1 => exact GG_below HG.out (by repeat (first | (with_reducible first | exact HB.out | apply below_alloc | apply pw_below_drewN | apply below_drew1) | exact HB.out))); rintro e w6 ⟨rfl, hb⟩; refine ⟨_, rfl, ?_⟩; have n0_ := Aside0.mk (below_step (by repeat (first | (with_reducible first | exact HB.out | apply below_alloc | apply pw_below_drewN | apply below_drew1) | exact HB.out)) hb); clear HB; have HB := n0_; clear n0_; (try clear hb); (try clear hb2); (try clear hk); (try clear hi)))
  (try simp only [Act.put, List.setIfInBounds_toArray, List.set_cons_zero, List.set_cons_succ])
  go_cut [27] (fun v27 wc => ∃ (kq : Nat) (x27_4 : Bool), v27 = .bool x27_4 ∧ Aside0 (catchwordlaw05_TokenFew.j0 kq a0 a1 a2 t308 x27_4 = some r) ∧ Aside0 (kq ≤ k) ∧ Aside0 (Below w.heap.size w wc))
  case first =>
    have H := HC5.out
    clear HC5
    by_cases c7 : t308 = true
    · subst c7
      have H1 : (if (a2.size : Int) > 500 then (catchwordlaw05_TokenFew.j0 k a0 a1 a2 true true) else (catchwordlaw05_TokenFew.j0 k a0 a1 a2 true (decide ((a0.size : Int) > 500)))) = some r := by rw [if_pos rfl] at H; exact H
      clear H
      have H := H1
      clear H1
      by_cases c8 : (a2.size : Int) > 500
      · rw [if_pos c8] at H
        have c8b0 : decide (500 < (a2.size : Int)) = true := decide_eq_true c8
        have c8b1 : decide (500 < a2.size) = true := decide_eq_true (by omega)
        clear c8
        (first | rw [c8b0] | (simp only [i64_w, i32_w]; rw [c8b0]) | skip)
        have H' := Aside0.mk H
        clear H
        go_wp2
        go_meet
        case rel => exact ⟨_, (true), (by first | rfl | (simp; done) | (simp [*]; done)), H', ⟨by first | omega | exact Nat.le_refl _⟩, ⟨by repeat (first | (with_reducible first | exact HB.out | apply below_alloc | apply pw_below_drewN | apply below_drew1) | exact HB.out)⟩⟩
      · rw [if_neg c8] at H
        have c8b0 : decide (500 < (a2.size : Int)) = false := decide_eq_false c8
        have c8b1 : decide (500 < a2.size) = false := decide_eq_false (by omega)
        clear c8
        (first | rw [c8b0] | (simp only [i64_w, i32_w]; rw [c8b0]) | skip)
        have H' := Aside0.mk H
        clear H
        go_wp2
        go_meet
        case rel => exact ⟨_, (decide ((a0.size : Int) > 500)), (by first | rfl | (simp; done) | (simp [*]; done)), H', ⟨by first | omega | exact Nat.le_refl _⟩, ⟨by repeat (first | (with_reducible first | exact HB.out | apply below_alloc | apply pw_below_drewN | apply below_drew1) | exact HB.out)⟩⟩
    · replace c7 := Bool.eq_false_iff.mpr c7
      subst c7
      have H1 : (catchwordlaw05_TokenFew.j0 k a0 a1 a2 false true) = some r := by rw [if_neg (show ¬ (false = true) by decide)] at H; exact H
      clear H
      have H := H1
      clear H1
      have H' := Aside0.mk H
      clear H
      go_wp2
      go_meet
      case rel => exact ⟨_, (true), (by first | rfl | (simp; done) | (simp [*]; done)), H', ⟨by first | omega | exact Nat.le_refl _⟩, ⟨by repeat (first | (with_reducible first | exact HB.out | apply below_alloc | apply pw_below_drewN | apply below_drew1) | exact HB.out)⟩⟩
  case rest =>
    clear HC5
    try clear c1
    try clear p2
    try clear c7
    try clear c8
    try clear c8b0
    try clear c8b1
    obtain ⟨kq, x27_4, rfl, HA, HJ4, HB⟩ := hcut
    cases kq with
    | zero => exact absurd HA.out (by simp [catchwordlaw05_TokenFew.j0])
    | succ kj4 =>
      have H := HA.out
      clear HA
      simp only [catchwordlaw05_TokenFew.j0] at H
      by_cases c9 : x27_4 = true
      · subst c9
        have H1 : (some t308) = some r := by rw [if_pos rfl] at H; exact H
        clear H
        have H := H1
        clear H1
        obtain rfl := Option.some.inj H
        go_wp2
        go_ret
        exact ⟨by first | rfl | (simp [errW_none, errW_some] <;> rfl) | (simp [*, errW_none, errW_some] <;> rfl), by repeat (first | (with_reducible first | exact HB.out | apply below_alloc | apply pw_below_drewN | apply below_drew1) | exact HB.out)⟩
      · replace c9 := Bool.eq_false_iff.mpr c9
        subst c9
        have H1 : ((token_Words.f kj4 a2).bind fun bt309 => ((token_Card.f kj4 a0 a1 a2).bind fun bt313 => (catchwordlaw05_TokenFew.l0 kj4 a0 a1 a2 bt309.1 bt309.2 bt313.2.2.2 0 bt313.1 bt313.2.1 bt313.2.2.1))) = some r := by rw [if_neg (show ¬ (false = true) by decide)] at H; exact H
        clear H
        have H := H1
        clear H1
        replace H := Option.bind_eq_some_iff.mp H
        obtain ⟨⟨t309, t310⟩, A100, H⟩ := H
        replace H : ((token_Card.f kj4 a0 a1 a2).bind fun bt313 => (catchwordlaw05_TokenFew.l0 kj4 a0 a1 a2 t309 t310 bt313.2.2.2 0 bt313.1 bt313.2.1 bt313.2.2.1)) = some r := H
        have A10 := Aside0.mk A100
        clear A100
        replace H := Option.bind_eq_some_iff.mp H
        obtain ⟨⟨t313, t314, t315, t318⟩, A110, H⟩ := H
        replace H : (catchwordlaw05_TokenFew.l0 kj4 a0 a1 a2 t309 t310 t318 0 t313 t314 t315) = some r := H
        have A11 := Aside0.mk A110
        clear A110
        have H' := Aside0.mk H
        clear H
        go_wp2_with (first | ((with_reducible refine gate_callee (f := 11) rfl ?_); refine goesL_ (some 31) rfl rfl Tryd.func11 (by kernel_rfl) rfl #[.string a2] rfl (by (try simp only [List.map_toArray, List.map_cons, List.map_nil]); first | done | rfl | (simp only [List.length_drop, List.length_take]; rfl)) ?_; (with_reducible refine (token_Words.calls kj4 a2 t309 t310 _ ?side1 A10.out).mono ?_); (case side1 => exact GG_below HG.out (by repeat (first | (with_reducible first | exact HB.out | apply below_alloc | apply pw_below_drewN | apply below_drew1) | exact HB.out))); rintro e w12 ⟨v311, rfl, ho0, hb⟩; refine ⟨_, rfl, ?_⟩; have n0_ := Aside0.mk (Kd.R_lower ho0 (below_size (by repeat (first | (with_reducible first | exact HB.out | apply below_alloc | apply pw_below_drewN | apply below_drew1) | exact HB.out)))); have n1_ := Aside0.mk (below_step (by repeat (first | (with_reducible first | exact HB.out | apply below_alloc | apply pw_below_drewN | apply below_drew1) | exact HB.out)) hb); clear HB; have HO312 := n0_; have HB := n1_; clear n0_ n1_; (try clear hb); (try clear hb2); (try clear hk); (try clear hi); (try clear ho0)) | ((with_reducible refine gate_callee (f := 18) rfl ?_); refine goesL_ (some 38) rfl rfl Tryd.func18 (by kernel_rfl) rfl #[.string a0, .int .i64 a1, .string a2] rfl (by (try simp only [List.map_toArray, List.map_cons, List.map_nil]); first | done | rfl | (simp only [List.length_drop, List.length_take]; rfl)) ?_; (with_reducible refine (token_Card.calls kj4 a0 a1 a2 t313 t314 t315 t318 _ ?side1 A11.out).mono ?_); (case side1 => exact GG_below HG.out (by repeat (first | (with_reducible first | exact HB.out | apply below_alloc | apply pw_below_drewN | apply below_drew1) | exact HB.out))); rintro e w13 ⟨v316, rfl, ho0, hb⟩; refine ⟨_, rfl, ?_⟩; have n0_ := Aside0.mk (Kd.R_elder' (by (with_reducible repeat (first | apply Kd.R_alloc | apply Kd.R_drewN | apply Kd.R_drew)); exact HO312.out) (Kd.R_base ho0) hb); have n1_ := Aside0.mk (Kd.R_lower (Kd.R_new' ho0 (Kd.R_lt (by (with_reducible repeat (first | apply Kd.R_alloc | apply Kd.R_drewN | apply Kd.R_drew)); exact HO312.out))) (below_size (by repeat (first | (with_reducible first | exact HB.out | apply below_alloc | apply pw_below_drewN | apply below_drew1) | exact HB.out)))); have n2_ := Aside0.mk (below_step (by repeat (first | (with_reducible first | exact HB.out | apply below_alloc | apply pw_below_drewN | apply below_drew1) | exact HB.out)) hb); clear HO312; clear HB; have HO312 := n0_; have HO317 := n1_; have HB := n2_; clear n0_ n1_ n2_; (try clear hb); (try clear hb2); (try clear hk); (try clear hi); (try clear ho0)) | ((with_reducible refine gate_dst (N := 10) rfl ?_); (try (refine gate_guard (by rfl) ?_; dsimp only)); refine box_event ?hg (N := 10) ?hd (cs := #[.string (⟨#[]⟩ : ByteArray), .int .i64 0, .slice none 0 0]) (t := 30) ?hr ?_; (case hd => rfl); (case hg => rfl); (case hr => first | (go_simp; done) | (go_simp; rfl)); intro gb319 hg w14 hbox hb; have n0_ := Aside0.mk (Kd.R_below (by (with_reducible repeat (first | apply Kd.R_alloc | apply Kd.R_drewN | apply Kd.R_drew)); exact HO312.out) hb); have n1_ := Aside0.mk (Kd.R_below (by (with_reducible repeat (first | apply Kd.R_alloc | apply Kd.R_drewN | apply Kd.R_drew)); exact HO317.out) hb); have n2_ := Aside0.mk (below_step (by repeat (first | (with_reducible first | exact HB.out | apply below_alloc | apply pw_below_drewN | apply below_drew1) | exact HB.out)) hb); have n3_ := Aside0.mk (hbox); have n4_ := Aside0.mk ((by rw [hg]; exact (below_size (by repeat (first | (with_reducible first | exact HB.out | apply below_alloc | apply pw_below_drewN | apply below_drew1) | exact HB.out))) : w.heap.size ≤ gb319)); have n5_ := Aside0.mk ((by rw [hg]; exact (below_size (by repeat (first | (with_reducible first | exact HB.out | apply below_alloc | apply pw_below_drewN | apply below_drew1) | exact HB.out))) : w.heap.size ≤ gb319)); clear HO312; clear HO317; clear HB; have HO312 := n0_; have HO317 := n1_; have HB := n2_; have BK319 := n3_; have GW319 := n4_; have GE319 := n5_; clear n0_ n1_ n2_ n3_ n4_ n5_; clear hb hbox hg; have hcz15_0 : w14.cell? ⟨gb319, 0, none⟩ = some (.string (⟨#[]⟩ : ByteArray)) := (blk_cell BK319.out 0).trans rfl; have hcz15_1 : w14.cell? ⟨gb319, 1, none⟩ = some (.int .i64 0) := (blk_cell BK319.out 1).trans rfl; have hcz15_2 : w14.cell? ⟨gb319, 2, none⟩ = some (.slice none 0 0) := (blk_cell BK319.out 2).trans rfl; have hfz15_0 := blk_frozen BK319.out 0; have hfz15_1 := blk_frozen BK319.out 1; have hfz15_2 := blk_frozen BK319.out 2; obtain ⟨Ao16, co16, eo16⟩ := Kd.R_slice HO317.out; subst eo16))
        go_loopg [12] kj4 (fun kq v12 w' => ∃ (x12_2 : Int), v12 = .int .i64 x12_2 ∧ Aside0 (catchwordlaw05_TokenFew.l0 kq a0 a1 a2 t309 t310 t318 x12_2 t313 t314 t315 = some r) ∧ Aside0 (kq ≤ kj4) ∧ Aside0 (Kd.R Kd.string 9 w' w.heap.size (fun k_ => some k_ ≠ ((.slice Ao16 t315.length co16) : Value).ownBlock) v311 t309) ∧ Aside0 (Kd.R Kd.string 9 w' w.heap.size (fun k_ => some k_ ≠ (v311 : Value).ownBlock) (.slice Ao16 t315.length co16) t315) ∧ Aside0 (w'.heap[gb319]? = some (.cells #[.string t313, .int .i64 t314, (.slice Ao16 t315.length co16)] 30 (0, 0))) ∧ Aside0 (Below w.heap.size w w'))
        case atStart => exact ⟨(0), (by first | rfl | (simp; done) | (simp [*]; done)), H', ⟨Nat.le_refl _⟩, ⟨by (with_reducible repeat (first | apply Kd.R_alloc | apply Kd.R_drewN | apply Kd.R_drew)); exact Kd.R_mono (Kd.R_far (p := ⟨gb319, 2, none⟩) (Kd.R_far (p := ⟨gb319, 1, none⟩) (Kd.R_far (p := ⟨gb319, 0, none⟩) (Kd.R_types HO312.out BK319.out (by decide)) (fun _ hk => hk.2) (.string t313)) (fun _ hk => hk.2) (.int .i64 t314)) (fun _ hk => hk.2) (.slice Ao16 t315.length co16)) (fun _ hk => hk.1.2)⟩, ⟨by (with_reducible repeat (first | apply Kd.R_alloc | apply Kd.R_drewN | apply Kd.R_drew)); exact Kd.R_mono (Kd.R_far (p := ⟨gb319, 2, none⟩) (Kd.R_far (p := ⟨gb319, 1, none⟩) (Kd.R_far (p := ⟨gb319, 0, none⟩) (Kd.R_types HO317.out BK319.out (by decide)) (fun _ hk => hk.2) (.string t313)) (fun _ hk => hk.2) (.int .i64 t314)) (fun _ hk => hk.2) (.slice Ao16 t315.length co16)) (fun _ hk => hk.1.2)⟩, ⟨by (with_reducible repeat (first | refine blk_drewN ?_ _ | refine blk_drew ?_ | refine blk_alloc ?_ _)); refine blk_put (cs := #[.string t313, .int .i64 t314, .slice none 0 0]) ?_ 2 _ rfl; (with_reducible repeat (first | refine blk_drewN ?_ _ | refine blk_drew ?_ | refine blk_alloc ?_ _)); refine blk_put (cs := #[.string t313, .int .i64 0, .slice none 0 0]) ?_ 1 _ rfl; (with_reducible repeat (first | refine blk_drewN ?_ _ | refine blk_drew ?_ | refine blk_alloc ?_ _)); refine blk_put (cs := #[.string (⟨#[]⟩ : ByteArray), .int .i64 0, .slice none 0 0]) ?_ 0 _ rfl; (with_reducible repeat (first | refine blk_drewN ?_ _ | refine blk_drew ?_ | refine blk_alloc ?_ _)); exact BK319.out⟩, ⟨by repeat (first | (with_reducible first | exact HB.out | apply below_alloc | apply pw_below_drewN | apply below_drew1 | refine below_set ?_ GE319.out) | exact HB.out)⟩⟩
        case round =>
          clear H'
          try clear c1
          try clear p2
          try clear c7
          try clear c8
          try clear c8b0
          try clear c8b1
          try clear c9
          try clear c10
          try clear c11
          try clear hcz15_0
          try clear hcz15_1
          try clear hcz15_2
          try clear hfz15_0
          try clear hfz15_1
          try clear hfz15_2
          try clear p2
          obtain ⟨x12_2, rfl, HA, HK2, HO_8, HO_320002, BK319, HB⟩ := hrel
          cases gk with
          | zero => exact absurd HA.out (by simp [catchwordlaw05_TokenFew.l0])
          | succ k2 =>
            have H := HA.out
            clear HA
            simp only [catchwordlaw05_TokenFew.l0] at H
            by_cases c17 : x12_2 < (t309.length : Int)
            · rw [if_pos c17] at H
              have c17b0 : decide (x12_2 < (t309.length : Int)) = true := decide_eq_true c17
              clear c17
              by_cases c18 : 0 ≤ x12_2
              · rw [if_pos c18] at H
                have c18b0 : decide (0 ≤ x12_2) = true := decide_eq_true c18
                clear c18
                by_cases c19 : ((rdOf ByteArray.empty t309 x12_2).size : Int) < 1
                · rw [if_pos c19] at H
                  have c19b0 : decide (((rdOf ByteArray.empty t309 x12_2).size : Int) < 1) = true := decide_eq_true c19
                  have c19b1 : decide ((rdOf ByteArray.empty t309 x12_2).size < 1) = true := decide_eq_true (by omega)
                  clear c19
                  obtain rfl := Option.some.inj H
                  obtain ⟨Ao20, co20, eo20⟩ := Kd.R_slice HO_8.out
                  subst eo20
                  have p320 : 0 ≤ (x12_2 : Int) := of_decide_eq_true (by first | (with_reducible assumption) | assumption)
                  have q320 : x12_2 < (t309.length : Int) := of_decide_eq_true (by first | (with_reducible assumption) | assumption)
                  obtain ⟨ad320, e320, hx320_0⟩ := Kd.at_string (Kd.R_reads' HO_8.out).2.2 x12_2 p320 q320
                  cases e320
                  replace p320 := eq_true p320
                  replace q320 := eq_true q320
                  go_wp2
                  go_ret
                  exact ⟨by first | rfl | (simp [errW_none, errW_some] <;> rfl) | (simp [*, errW_none, errW_some] <;> rfl), by repeat (first | (with_reducible first | exact HB.out | apply below_alloc | apply pw_below_drewN | apply below_drew1 | refine below_set ?_ GE319.out) | exact HB.out)⟩
                · rw [if_neg c19] at H
                  have c19b0 : decide (((rdOf ByteArray.empty t309 x12_2).size : Int) < 1) = false := decide_eq_false c19
                  have c19b1 : decide ((rdOf ByteArray.empty t309 x12_2).size < 1) = false := decide_eq_false (by omega)
                  clear c19
                  by_cases c21 : ((rdOf ByteArray.empty t309 x12_2).size : Int) > 32
                  · rw [if_pos c21] at H
                    have c21b0 : decide (32 < ((rdOf ByteArray.empty t309 x12_2).size : Int)) = true := decide_eq_true c21
                    have c21b1 : decide (32 < (rdOf ByteArray.empty t309 x12_2).size) = true := decide_eq_true (by omega)
                    clear c21
                    obtain rfl := Option.some.inj H
                    obtain ⟨Ao22, co22, eo22⟩ := Kd.R_slice HO_8.out
                    subst eo22
                    have p320 : 0 ≤ (x12_2 : Int) := of_decide_eq_true (by first | (with_reducible assumption) | assumption)
                    have q320 : x12_2 < (t309.length : Int) := of_decide_eq_true (by first | (with_reducible assumption) | assumption)
                    obtain ⟨ad320, e320, hx320_0⟩ := Kd.at_string (Kd.R_reads' HO_8.out).2.2 x12_2 p320 q320
                    cases e320
                    replace p320 := eq_true p320
                    replace q320 := eq_true q320
                    have p321 : 0 ≤ (x12_2 : Int) := of_decide_eq_true (by first | (with_reducible assumption) | assumption)
                    have q321 : x12_2 < (t309.length : Int) := of_decide_eq_true (by first | (with_reducible assumption) | assumption)
                    obtain ⟨ad321, e321, hx321_0⟩ := Kd.at_string (Kd.R_reads' HO_8.out).2.2 x12_2 p321 q321
                    obtain rfl : ad320 = ad321 := (by injection e321)
                    replace p321 := eq_true p321
                    replace q321 := eq_true q321
                    go_wp2
                    go_ret
                    exact ⟨by first | rfl | (simp [errW_none, errW_some] <;> rfl) | (simp [*, errW_none, errW_some] <;> rfl), by repeat (first | (with_reducible first | exact HB.out | apply below_alloc | apply pw_below_drewN | apply below_drew1 | refine below_set ?_ GE319.out) | exact HB.out)⟩
                  · rw [if_neg c21] at H
                    have c21b0 : decide (32 < ((rdOf ByteArray.empty t309 x12_2).size : Int)) = false := decide_eq_false c21
                    have c21b1 : decide (32 < (rdOf ByteArray.empty t309 x12_2).size) = false := decide_eq_false (by omega)
                    clear c21
                    have H' := Aside0.mk H
                    clear H
                    obtain ⟨Ao23, co23, eo23⟩ := Kd.R_slice HO_8.out
                    subst eo23
                    have p320 : 0 ≤ (x12_2 : Int) := of_decide_eq_true (by first | (with_reducible assumption) | assumption)
                    have q320 : x12_2 < (t309.length : Int) := of_decide_eq_true (by first | (with_reducible assumption) | assumption)
                    obtain ⟨ad320, e320, hx320_0⟩ := Kd.at_string (Kd.R_reads' HO_8.out).2.2 x12_2 p320 q320
                    cases e320
                    replace p320 := eq_true p320
                    replace q320 := eq_true q320
                    have p321 : 0 ≤ (x12_2 : Int) := of_decide_eq_true (by first | (with_reducible assumption) | assumption)
                    have q321 : x12_2 < (t309.length : Int) := of_decide_eq_true (by first | (with_reducible assumption) | assumption)
                    obtain ⟨ad321, e321, hx321_0⟩ := Kd.at_string (Kd.R_reads' HO_8.out).2.2 x12_2 p321 q321
                    obtain rfl : ad320 = ad321 := (by injection e321)
                    replace p321 := eq_true p321
                    replace q321 := eq_true q321
                    go_wp2
                    go_roundg k2
                    case measure => have := HJ4.out; have := HK2.out; omega
                    case rel => exact ⟨(wrap64 (x12_2 + 1)), (by first | rfl | (simp; done) | (simp [*]; done)), H', ⟨by have := HJ4.out; have := HK2.out; omega⟩, ⟨by (with_reducible repeat (first | apply Kd.R_alloc | apply Kd.R_drewN | apply Kd.R_drew)); exact HO_8.out⟩, ⟨by (with_reducible repeat (first | apply Kd.R_alloc | apply Kd.R_drewN | apply Kd.R_drew)); exact HO_320002.out⟩, ⟨by (with_reducible repeat (first | refine blk_drewN ?_ _ | refine blk_drew ?_ | refine blk_alloc ?_ _)); exact BK319.out⟩, ⟨by repeat (first | (with_reducible first | exact HB.out | apply below_alloc | apply pw_below_drewN | apply below_drew1 | refine below_set ?_ GE319.out) | exact HB.out)⟩⟩
              · rw [if_neg c18] at H
                exact absurd H (by simp)
            · rw [if_neg c17] at H
              have c17b0 : decide (x12_2 < (t309.length : Int)) = false := decide_eq_false c17
              clear c17
              by_cases c24 : t318 = 0
              · rw [if_pos c24] at H
                have c24b0 : (t318 == 0) = true := beq_iff_eq.mpr c24
                have c24b1 : (t318 != 0) = false := bne_eq_false_iff_eq.mpr c24
                clear c24
                replace H := Option.bind_eq_some_iff.mp H
                obtain ⟨t322, A250, H⟩ := H
                replace H : (if t322 = true then (if t310 = 0 then (if (wrap64 (2 * (t309.length : Int))) ≤ (wrap64 ((a2.size : Int) + 1)) then (if t313.toList = a0.toList then (if t314 = a1 then (some (decide ((t309.length : Int) ≤ 120))) else (some false)) else (some false)) else (some false)) else (some false)) else (some false)) = some r := H
                have A25 := Aside0.mk A250
                clear A250
                by_cases c26 : t322 = true
                · subst c26
                  have H1 : (if t310 = 0 then (if (wrap64 (2 * (t309.length : Int))) ≤ (wrap64 ((a2.size : Int) + 1)) then (if t313.toList = a0.toList then (if t314 = a1 then (some (decide ((t309.length : Int) ≤ 120))) else (some false)) else (some false)) else (some false)) else (some false)) = some r := by rw [if_pos rfl] at H; exact H
                  clear H
                  have H := H1
                  clear H1
                  by_cases c27 : t310 = 0
                  · rw [if_pos c27] at H
                    have c27b0 : (t310 == 0) = true := beq_iff_eq.mpr c27
                    have c27b1 : (t310 != 0) = false := bne_eq_false_iff_eq.mpr c27
                    clear c27
                    by_cases c28 : (wrap64 (2 * (t309.length : Int))) ≤ (wrap64 ((a2.size : Int) + 1))
                    · rw [if_pos c28] at H
                      have c28b0 : decide ((wrap64 (2 * (t309.length : Int))) ≤ (wrap64 ((a2.size : Int) + 1))) = true := decide_eq_true c28
                      clear c28
                      by_cases c29 : t313.toList = a0.toList
                      · rw [if_pos c29] at H
                        have c29b0 : (t313.toList == a0.toList) = true := beq_iff_eq.mpr c29
                        have c29b1 : (t313.toList != a0.toList) = false := bne_eq_false_iff_eq.mpr c29
                        clear c29
                        by_cases c30 : t314 = a1
                        · rw [if_pos c30] at H
                          have c30b0 : (t314 == a1) = true := beq_iff_eq.mpr c30
                          have c30b1 : (t314 != a1) = false := bne_eq_false_iff_eq.mpr c30
                          clear c30
                          obtain rfl := Option.some.inj H
                          obtain ⟨Ao31, co31, eo31⟩ := Kd.R_slice HO_8.out
                          subst eo31
                          have hcz32_0 : wr.cell? ⟨gb319, 0, none⟩ = some (.string t313) := (blk_cell BK319.out 0).trans rfl
                          have hcz32_1 : wr.cell? ⟨gb319, 1, none⟩ = some (.int .i64 t314) := (blk_cell BK319.out 1).trans rfl
                          have hcz32_2 : wr.cell? ⟨gb319, 2, none⟩ = some (.slice Ao16 t315.length co16) := (blk_cell BK319.out 2).trans rfl
                          have hfz32_0 := blk_frozen BK319.out 0
                          have hfz32_1 := blk_frozen BK319.out 1
                          have hfz32_2 := blk_frozen BK319.out 2
                          go_wp2_with (first | ((with_reducible refine gate_callee (f := 13) rfl ?_); refine goesL_ (some 79) rfl rfl Tryd.func13 (by kernel_rfl) rfl #[.slice Ao16 t315.length co16, .slice Ao31 t309.length co31] rfl (by (try simp only [List.map_toArray, List.map_cons, List.map_nil]); first | done | rfl | (simp only [List.length_drop, List.length_take]; rfl)) ?_; (with_reducible refine (catchwordref05_Texts.calls k2 _ _ t315 _ _ t309 true _ ?side1 ?side2 ?side3 ?side4 A25.out).mono ?_); (case side1 => repeat (first | exact (Kd.R_reads' HO_320002.out).2.2 | (with_reducible refine Kd.C_alloc ?_ _) | (with_reducible refine Kd.C_drewN ?_ _) | (with_reducible refine Kd.C_drew ?_))); (case side2 => exact (Kd.R_reads' HO_320002.out).2.1); (case side3 => repeat (first | exact (Kd.R_reads' HO_8.out).2.2 | (with_reducible refine Kd.C_alloc ?_ _) | (with_reducible refine Kd.C_drewN ?_ _) | (with_reducible refine Kd.C_drew ?_))); (case side4 => exact (Kd.R_reads' HO_8.out).2.1); rintro e w' ⟨rfl, ⟨nd, rfl⟩⟩; refine ⟨_, rfl, ?_⟩))
                          go_ret
                          exact ⟨by first | rfl | (simp [errW_none, errW_some] <;> rfl) | (simp [*, errW_none, errW_some] <;> rfl), by repeat (first | (with_reducible first | exact HB.out | apply below_alloc | apply pw_below_drewN | apply below_drew1 | refine below_set ?_ GE319.out) | exact HB.out)⟩
                        · rw [if_neg c30] at H
                          have c30b0 : (t314 == a1) = false := beq_eq_false_iff_ne.mpr c30
                          have c30b1 : (t314 != a1) = true := bne_iff_ne.mpr c30
                          obtain rfl := Option.some.inj H
                          obtain ⟨Ao33, co33, eo33⟩ := Kd.R_slice HO_8.out
                          subst eo33
                          have hcz34_0 : wr.cell? ⟨gb319, 0, none⟩ = some (.string t313) := (blk_cell BK319.out 0).trans rfl
                          have hcz34_1 : wr.cell? ⟨gb319, 1, none⟩ = some (.int .i64 t314) := (blk_cell BK319.out 1).trans rfl
                          have hcz34_2 : wr.cell? ⟨gb319, 2, none⟩ = some (.slice Ao16 t315.length co16) := (blk_cell BK319.out 2).trans rfl
                          have hfz34_0 := blk_frozen BK319.out 0
                          have hfz34_1 := blk_frozen BK319.out 1
                          have hfz34_2 := blk_frozen BK319.out 2
                          go_wp2_with (first | ((with_reducible refine gate_callee (f := 13) rfl ?_); refine goesL_ (some 79) rfl rfl Tryd.func13 (by kernel_rfl) rfl #[.slice Ao16 t315.length co16, .slice Ao33 t309.length co33] rfl (by (try simp only [List.map_toArray, List.map_cons, List.map_nil]); first | done | rfl | (simp only [List.length_drop, List.length_take]; rfl)) ?_; (with_reducible refine (catchwordref05_Texts.calls k2 _ _ t315 _ _ t309 true _ ?side1 ?side2 ?side3 ?side4 A25.out).mono ?_); (case side1 => repeat (first | exact (Kd.R_reads' HO_320002.out).2.2 | (with_reducible refine Kd.C_alloc ?_ _) | (with_reducible refine Kd.C_drewN ?_ _) | (with_reducible refine Kd.C_drew ?_))); (case side2 => exact (Kd.R_reads' HO_320002.out).2.1); (case side3 => repeat (first | exact (Kd.R_reads' HO_8.out).2.2 | (with_reducible refine Kd.C_alloc ?_ _) | (with_reducible refine Kd.C_drewN ?_ _) | (with_reducible refine Kd.C_drew ?_))); (case side4 => exact (Kd.R_reads' HO_8.out).2.1); rintro e w' ⟨rfl, ⟨nd, rfl⟩⟩; refine ⟨_, rfl, ?_⟩))
                          go_ret
                          exact ⟨by first | rfl | (simp [errW_none, errW_some] <;> rfl) | (simp [*, errW_none, errW_some] <;> rfl), by repeat (first | (with_reducible first | exact HB.out | apply below_alloc | apply pw_below_drewN | apply below_drew1 | refine below_set ?_ GE319.out) | exact HB.out)⟩
                      · rw [if_neg c29] at H
                        have c29b0 : (t313.toList == a0.toList) = false := beq_eq_false_iff_ne.mpr c29
                        have c29b1 : (t313.toList != a0.toList) = true := bne_iff_ne.mpr c29
                        obtain rfl := Option.some.inj H
                        obtain ⟨Ao35, co35, eo35⟩ := Kd.R_slice HO_8.out
                        subst eo35
                        have hcz36_0 : wr.cell? ⟨gb319, 0, none⟩ = some (.string t313) := (blk_cell BK319.out 0).trans rfl
                        have hcz36_1 : wr.cell? ⟨gb319, 1, none⟩ = some (.int .i64 t314) := (blk_cell BK319.out 1).trans rfl
                        have hcz36_2 : wr.cell? ⟨gb319, 2, none⟩ = some (.slice Ao16 t315.length co16) := (blk_cell BK319.out 2).trans rfl
                        have hfz36_0 := blk_frozen BK319.out 0
                        have hfz36_1 := blk_frozen BK319.out 1
                        have hfz36_2 := blk_frozen BK319.out 2
                        go_wp2_with (first | ((with_reducible refine gate_callee (f := 13) rfl ?_); refine goesL_ (some 79) rfl rfl Tryd.func13 (by kernel_rfl) rfl #[.slice Ao16 t315.length co16, .slice Ao35 t309.length co35] rfl (by (try simp only [List.map_toArray, List.map_cons, List.map_nil]); first | done | rfl | (simp only [List.length_drop, List.length_take]; rfl)) ?_; (with_reducible refine (catchwordref05_Texts.calls k2 _ _ t315 _ _ t309 true _ ?side1 ?side2 ?side3 ?side4 A25.out).mono ?_); (case side1 => repeat (first | exact (Kd.R_reads' HO_320002.out).2.2 | (with_reducible refine Kd.C_alloc ?_ _) | (with_reducible refine Kd.C_drewN ?_ _) | (with_reducible refine Kd.C_drew ?_))); (case side2 => exact (Kd.R_reads' HO_320002.out).2.1); (case side3 => repeat (first | exact (Kd.R_reads' HO_8.out).2.2 | (with_reducible refine Kd.C_alloc ?_ _) | (with_reducible refine Kd.C_drewN ?_ _) | (with_reducible refine Kd.C_drew ?_))); (case side4 => exact (Kd.R_reads' HO_8.out).2.1); rintro e w' ⟨rfl, ⟨nd, rfl⟩⟩; refine ⟨_, rfl, ?_⟩))
                        go_ret
                        exact ⟨by first | rfl | (simp [errW_none, errW_some] <;> rfl) | (simp [*, errW_none, errW_some] <;> rfl), by repeat (first | (with_reducible first | exact HB.out | apply below_alloc | apply pw_below_drewN | apply below_drew1 | refine below_set ?_ GE319.out) | exact HB.out)⟩
                    · rw [if_neg c28] at H
                      have c28b0 : decide ((wrap64 (2 * (t309.length : Int))) ≤ (wrap64 ((a2.size : Int) + 1))) = false := decide_eq_false c28
                      clear c28
                      obtain rfl := Option.some.inj H
                      obtain ⟨Ao37, co37, eo37⟩ := Kd.R_slice HO_8.out
                      subst eo37
                      have hcz38_0 : wr.cell? ⟨gb319, 0, none⟩ = some (.string t313) := (blk_cell BK319.out 0).trans rfl
                      have hcz38_1 : wr.cell? ⟨gb319, 1, none⟩ = some (.int .i64 t314) := (blk_cell BK319.out 1).trans rfl
                      have hcz38_2 : wr.cell? ⟨gb319, 2, none⟩ = some (.slice Ao16 t315.length co16) := (blk_cell BK319.out 2).trans rfl
                      have hfz38_0 := blk_frozen BK319.out 0
                      have hfz38_1 := blk_frozen BK319.out 1
                      have hfz38_2 := blk_frozen BK319.out 2
                      go_wp2_with (first | ((with_reducible refine gate_callee (f := 13) rfl ?_); refine goesL_ (some 79) rfl rfl Tryd.func13 (by kernel_rfl) rfl #[.slice Ao16 t315.length co16, .slice Ao37 t309.length co37] rfl (by (try simp only [List.map_toArray, List.map_cons, List.map_nil]); first | done | rfl | (simp only [List.length_drop, List.length_take]; rfl)) ?_; (with_reducible refine (catchwordref05_Texts.calls k2 _ _ t315 _ _ t309 true _ ?side1 ?side2 ?side3 ?side4 A25.out).mono ?_); (case side1 => repeat (first | exact (Kd.R_reads' HO_320002.out).2.2 | (with_reducible refine Kd.C_alloc ?_ _) | (with_reducible refine Kd.C_drewN ?_ _) | (with_reducible refine Kd.C_drew ?_))); (case side2 => exact (Kd.R_reads' HO_320002.out).2.1); (case side3 => repeat (first | exact (Kd.R_reads' HO_8.out).2.2 | (with_reducible refine Kd.C_alloc ?_ _) | (with_reducible refine Kd.C_drewN ?_ _) | (with_reducible refine Kd.C_drew ?_))); (case side4 => exact (Kd.R_reads' HO_8.out).2.1); rintro e w' ⟨rfl, ⟨nd, rfl⟩⟩; refine ⟨_, rfl, ?_⟩))
                      go_ret
                      exact ⟨by first | rfl | (simp [errW_none, errW_some] <;> rfl) | (simp [*, errW_none, errW_some] <;> rfl), by repeat (first | (with_reducible first | exact HB.out | apply below_alloc | apply pw_below_drewN | apply below_drew1 | refine below_set ?_ GE319.out) | exact HB.out)⟩
                  · rw [if_neg c27] at H
                    have c27b0 : (t310 == 0) = false := beq_eq_false_iff_ne.mpr c27
                    have c27b1 : (t310 != 0) = true := bne_iff_ne.mpr c27
                    obtain rfl := Option.some.inj H
                    obtain ⟨Ao39, co39, eo39⟩ := Kd.R_slice HO_8.out
                    subst eo39
                    have hcz40_0 : wr.cell? ⟨gb319, 0, none⟩ = some (.string t313) := (blk_cell BK319.out 0).trans rfl
                    have hcz40_1 : wr.cell? ⟨gb319, 1, none⟩ = some (.int .i64 t314) := (blk_cell BK319.out 1).trans rfl
                    have hcz40_2 : wr.cell? ⟨gb319, 2, none⟩ = some (.slice Ao16 t315.length co16) := (blk_cell BK319.out 2).trans rfl
                    have hfz40_0 := blk_frozen BK319.out 0
                    have hfz40_1 := blk_frozen BK319.out 1
                    have hfz40_2 := blk_frozen BK319.out 2
                    go_wp2_with (first | ((with_reducible refine gate_callee (f := 13) rfl ?_); refine goesL_ (some 79) rfl rfl Tryd.func13 (by kernel_rfl) rfl #[.slice Ao16 t315.length co16, .slice Ao39 t309.length co39] rfl (by (try simp only [List.map_toArray, List.map_cons, List.map_nil]); first | done | rfl | (simp only [List.length_drop, List.length_take]; rfl)) ?_; (with_reducible refine (catchwordref05_Texts.calls k2 _ _ t315 _ _ t309 true _ ?side1 ?side2 ?side3 ?side4 A25.out).mono ?_); (case side1 => repeat (first | exact (Kd.R_reads' HO_320002.out).2.2 | (with_reducible refine Kd.C_alloc ?_ _) | (with_reducible refine Kd.C_drewN ?_ _) | (with_reducible refine Kd.C_drew ?_))); (case side2 => exact (Kd.R_reads' HO_320002.out).2.1); (case side3 => repeat (first | exact (Kd.R_reads' HO_8.out).2.2 | (with_reducible refine Kd.C_alloc ?_ _) | (with_reducible refine Kd.C_drewN ?_ _) | (with_reducible refine Kd.C_drew ?_))); (case side4 => exact (Kd.R_reads' HO_8.out).2.1); rintro e w' ⟨rfl, ⟨nd, rfl⟩⟩; refine ⟨_, rfl, ?_⟩))
                    go_ret
                    exact ⟨by first | rfl | (simp [errW_none, errW_some] <;> rfl) | (simp [*, errW_none, errW_some] <;> rfl), by repeat (first | (with_reducible first | exact HB.out | apply below_alloc | apply pw_below_drewN | apply below_drew1 | refine below_set ?_ GE319.out) | exact HB.out)⟩
                · replace c26 := Bool.eq_false_iff.mpr c26
                  subst c26
                  have H1 : (some false) = some r := by rw [if_neg (show ¬ (false = true) by decide)] at H; exact H
                  clear H
                  have H := H1
                  clear H1
                  obtain rfl := Option.some.inj H
                  obtain ⟨Ao41, co41, eo41⟩ := Kd.R_slice HO_8.out
                  subst eo41
                  have hcz42_0 : wr.cell? ⟨gb319, 0, none⟩ = some (.string t313) := (blk_cell BK319.out 0).trans rfl
                  have hcz42_1 : wr.cell? ⟨gb319, 1, none⟩ = some (.int .i64 t314) := (blk_cell BK319.out 1).trans rfl
                  have hcz42_2 : wr.cell? ⟨gb319, 2, none⟩ = some (.slice Ao16 t315.length co16) := (blk_cell BK319.out 2).trans rfl
                  have hfz42_0 := blk_frozen BK319.out 0
                  have hfz42_1 := blk_frozen BK319.out 1
                  have hfz42_2 := blk_frozen BK319.out 2
                  go_wp2_with (first | ((with_reducible refine gate_callee (f := 13) rfl ?_); refine goesL_ (some 79) rfl rfl Tryd.func13 (by kernel_rfl) rfl #[.slice Ao16 t315.length co16, .slice Ao41 t309.length co41] rfl (by (try simp only [List.map_toArray, List.map_cons, List.map_nil]); first | done | rfl | (simp only [List.length_drop, List.length_take]; rfl)) ?_; (with_reducible refine (catchwordref05_Texts.calls k2 _ _ t315 _ _ t309 false _ ?side1 ?side2 ?side3 ?side4 A25.out).mono ?_); (case side1 => repeat (first | exact (Kd.R_reads' HO_320002.out).2.2 | (with_reducible refine Kd.C_alloc ?_ _) | (with_reducible refine Kd.C_drewN ?_ _) | (with_reducible refine Kd.C_drew ?_))); (case side2 => exact (Kd.R_reads' HO_320002.out).2.1); (case side3 => repeat (first | exact (Kd.R_reads' HO_8.out).2.2 | (with_reducible refine Kd.C_alloc ?_ _) | (with_reducible refine Kd.C_drewN ?_ _) | (with_reducible refine Kd.C_drew ?_))); (case side4 => exact (Kd.R_reads' HO_8.out).2.1); rintro e w' ⟨rfl, ⟨nd, rfl⟩⟩; refine ⟨_, rfl, ?_⟩))
                  go_ret
                  exact ⟨by first | rfl | (simp [errW_none, errW_some] <;> rfl) | (simp [*, errW_none, errW_some] <;> rfl), by repeat (first | (with_reducible first | exact HB.out | apply below_alloc | apply pw_below_drewN | apply below_drew1 | refine below_set ?_ GE319.out) | exact HB.out)⟩
              · rw [if_neg c24] at H
                have c24b0 : (t318 == 0) = false := beq_eq_false_iff_ne.mpr c24
                have c24b1 : (t318 != 0) = true := bne_iff_ne.mpr c24
                replace H := Option.bind_eq_some_iff.mp H
                obtain ⟨t323, A430, H⟩ := H
                replace H : (if t323 = true then (some (decide ((wrap64 (2 * (t309.length : Int))) ≤ (wrap64 ((a2.size : Int) + 1))))) else (some false)) = some r := H
                have A43 := Aside0.mk A430
                clear A430
                by_cases c44 : t323 = true
                · subst c44
                  have H1 : (some (decide ((wrap64 (2 * (t309.length : Int))) ≤ (wrap64 ((a2.size : Int) + 1))))) = some r := by rw [if_pos rfl] at H; exact H
                  clear H
                  have H := H1
                  clear H1
                  obtain rfl := Option.some.inj H
                  obtain ⟨Ao45, co45, eo45⟩ := Kd.R_slice HO_8.out
                  subst eo45
                  have hcz46_0 : wr.cell? ⟨gb319, 0, none⟩ = some (.string t313) := (blk_cell BK319.out 0).trans rfl
                  have hcz46_1 : wr.cell? ⟨gb319, 1, none⟩ = some (.int .i64 t314) := (blk_cell BK319.out 1).trans rfl
                  have hcz46_2 : wr.cell? ⟨gb319, 2, none⟩ = some (.slice Ao16 t315.length co16) := (blk_cell BK319.out 2).trans rfl
                  have hfz46_0 := blk_frozen BK319.out 0
                  have hfz46_1 := blk_frozen BK319.out 1
                  have hfz46_2 := blk_frozen BK319.out 2
                  go_wp2_with (first | ((with_reducible refine gate_callee (f := 20) rfl ?_); refine goesL_ (some 65) rfl rfl Tryd.func20 (by kernel_rfl) rfl #[.agg #[.string t313, .int .i64 t314, .slice Ao16 t315.length co16], .agg #[.string (⟨#[]⟩ : ByteArray), .int .i64 0, .slice none 0 0]] rfl (by (try simp only [List.map_toArray, List.map_cons, List.map_nil]); first | done | rfl | (simp only [List.length_drop, List.length_take]; rfl)) ?_; (refine (catchwordref05_Same.calls k2 t313 t314 _ _ t315 (⟨#[]⟩ : ByteArray) 0 _ _ ([] : List ByteArray) true _ ?side1 ?side2 ?side3 ?side4 A43.out).mono ?_); (case side1 => repeat (first | exact (Kd.R_reads' HO_320002.out).2.2 | (with_reducible refine Kd.C_alloc ?_ _) | (with_reducible refine Kd.C_drewN ?_ _) | (with_reducible refine Kd.C_drew ?_))); (case side2 => exact (Kd.R_reads' HO_320002.out).2.1); (case side3 => exact Kd.C_nil _ _); (case side4 => exact Nat.le_refl _); rintro e w47 ⟨rfl, hb⟩; refine ⟨_, rfl, ?_⟩; have n0_ := Aside0.mk (Kd.R_below (by (with_reducible repeat (first | apply Kd.R_alloc | apply Kd.R_drewN | apply Kd.R_drew)); exact HO_8.out) hb); have n1_ := Aside0.mk (Kd.R_below (by (with_reducible repeat (first | apply Kd.R_alloc | apply Kd.R_drewN | apply Kd.R_drew)); exact HO_320002.out) hb); have n2_ := Aside0.mk (blk_below (g := gb319) (o := .cells #[.string t313, .int .i64 t314, .slice Ao16 t315.length co16] 30 (0, 0)) (by (with_reducible repeat (first | refine blk_drewN ?_ _ | refine blk_drew ?_ | refine blk_alloc ?_ _)); exact BK319.out) hb); have n3_ := Aside0.mk (below_step (by repeat (first | (with_reducible first | exact HB.out | apply below_alloc | apply pw_below_drewN | apply below_drew1 | refine below_set ?_ GE319.out) | exact HB.out)) hb); clear HO_8; clear HO_320002; clear BK319; clear HB; have HO_8 := n0_; have HO_320002 := n1_; have BK319 := n2_; have HB := n3_; clear n0_ n1_ n2_ n3_; (try clear hb); (try clear hb2); (try clear hk); (try clear hi)))
                  go_ret
                  exact ⟨by first | rfl | (simp [errW_none, errW_some] <;> rfl) | (simp [*, errW_none, errW_some] <;> rfl), by repeat (first | (with_reducible first | exact HB.out | apply below_alloc | apply pw_below_drewN | apply below_drew1 | refine below_set ?_ GE319.out) | exact HB.out)⟩
                · replace c44 := Bool.eq_false_iff.mpr c44
                  subst c44
                  have H1 : (some false) = some r := by rw [if_neg (show ¬ (false = true) by decide)] at H; exact H
                  clear H
                  have H := H1
                  clear H1
                  obtain rfl := Option.some.inj H
                  obtain ⟨Ao48, co48, eo48⟩ := Kd.R_slice HO_8.out
                  subst eo48
                  have hcz49_0 : wr.cell? ⟨gb319, 0, none⟩ = some (.string t313) := (blk_cell BK319.out 0).trans rfl
                  have hcz49_1 : wr.cell? ⟨gb319, 1, none⟩ = some (.int .i64 t314) := (blk_cell BK319.out 1).trans rfl
                  have hcz49_2 : wr.cell? ⟨gb319, 2, none⟩ = some (.slice Ao16 t315.length co16) := (blk_cell BK319.out 2).trans rfl
                  have hfz49_0 := blk_frozen BK319.out 0
                  have hfz49_1 := blk_frozen BK319.out 1
                  have hfz49_2 := blk_frozen BK319.out 2
                  go_wp2_with (first | ((with_reducible refine gate_callee (f := 20) rfl ?_); refine goesL_ (some 65) rfl rfl Tryd.func20 (by kernel_rfl) rfl #[.agg #[.string t313, .int .i64 t314, .slice Ao16 t315.length co16], .agg #[.string (⟨#[]⟩ : ByteArray), .int .i64 0, .slice none 0 0]] rfl (by (try simp only [List.map_toArray, List.map_cons, List.map_nil]); first | done | rfl | (simp only [List.length_drop, List.length_take]; rfl)) ?_; (refine (catchwordref05_Same.calls k2 t313 t314 _ _ t315 (⟨#[]⟩ : ByteArray) 0 _ _ ([] : List ByteArray) false _ ?side1 ?side2 ?side3 ?side4 A43.out).mono ?_); (case side1 => repeat (first | exact (Kd.R_reads' HO_320002.out).2.2 | (with_reducible refine Kd.C_alloc ?_ _) | (with_reducible refine Kd.C_drewN ?_ _) | (with_reducible refine Kd.C_drew ?_))); (case side2 => exact (Kd.R_reads' HO_320002.out).2.1); (case side3 => exact Kd.C_nil _ _); (case side4 => exact Nat.le_refl _); rintro e w50 ⟨rfl, hb⟩; refine ⟨_, rfl, ?_⟩; have n0_ := Aside0.mk (Kd.R_below (by (with_reducible repeat (first | apply Kd.R_alloc | apply Kd.R_drewN | apply Kd.R_drew)); exact HO_8.out) hb); have n1_ := Aside0.mk (Kd.R_below (by (with_reducible repeat (first | apply Kd.R_alloc | apply Kd.R_drewN | apply Kd.R_drew)); exact HO_320002.out) hb); have n2_ := Aside0.mk (blk_below (g := gb319) (o := .cells #[.string t313, .int .i64 t314, .slice Ao16 t315.length co16] 30 (0, 0)) (by (with_reducible repeat (first | refine blk_drewN ?_ _ | refine blk_drew ?_ | refine blk_alloc ?_ _)); exact BK319.out) hb); have n3_ := Aside0.mk (below_step (by repeat (first | (with_reducible first | exact HB.out | apply below_alloc | apply pw_below_drewN | apply below_drew1 | refine below_set ?_ GE319.out) | exact HB.out)) hb); clear HO_8; clear HO_320002; clear BK319; clear HB; have HO_8 := n0_; have HO_320002 := n1_; have BK319 := n2_; have HB := n3_; clear n0_ n1_ n2_ n3_; (try clear hb); (try clear hb2); (try clear hk); (try clear hi)))
                  go_ret
                  exact ⟨by first | rfl | (simp [errW_none, errW_some] <;> rfl) | (simp [*, errW_none, errW_some] <;> rfl), by repeat (first | (with_reducible first | exact HB.out | apply below_alloc | apply pw_below_drewN | apply below_drew1 | refine below_set ?_ GE319.out) | exact HB.out)⟩

/-- THE ONE PURE STATEMENT of catchwordlaw05_TokenFew: yours. -/
def catchwordlaw05_TokenFew.Pure : Prop := ∀ (a0 : ByteArray) (a1 : Int) (a2 : ByteArray), a0.size ≤ 140737488351232 → (Lit.int .i64 a1).wf = true → a2.size ≤ 140737488351232 → ∃ k, catchwordlaw05_TokenFew.f k a0 a1 a2 = some true
theorem catchwordlaw05_TokenFew.walk (P : catchwordlaw05_TokenFew.Pure) (a0 : ByteArray) (a1 : Int) (a2 : ByteArray) (w : World) (w0 : a0.size ≤ 140737488351232) (w1 : (Lit.int .i64 a1).wf = true) (w2 : a2.size ≤ 140737488351232) (hG : GG w) :
    Calls Tryd.prog 9 #[.string a0, .int .i64 a1, .string a2] w fun e w' => e = .returned (.bool true) ∧ Below w.heap.size w w' := by
  obtain ⟨k, h⟩ := P a0 a1 a2 w0 w1 w2
  refine (catchwordlaw05_TokenFew.calls k a0 a1 a2 true w hG h).mono ?_
  rintro e w' ⟨rfl, hd⟩
  exact ⟨rfl, hd⟩

end Go.Proofs.YtecjnlaomompkaaDoor.T

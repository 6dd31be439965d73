/- A contract that is proved by hand, in the form of those that hp.py writes. -/
/- Written by hp.py, this session's own program, out of the translation of this seat: Lean functions for the Go functions, and the proof that each call comes to what its Lean function says. -/
import Derived.Test.YtecjnlaomompkaaDoorTx0
import Derived.Test.YtecjnlaomompkaaDoorTx1
namespace Go.Proofs.YtecjnlaomompkaaDoor.T
open Go.RowKit Go.Proofs.YtecjnlaomompkaaDoorW.PrintWords Go.Proofs.YtecjnlaomompkaaDoorW.PrintLast Go.Proofs.YtecjnlaomompkaaDoorW.PrintMore
attribute [local go_sem] max2_int min2_int max_two min_two max_three min_three max_four min_four   -- for this text's walks alone
set_option linter.unusedVariables false
set_option linter.unusedSimpArgs false
/-! ### token_words: function 21, by hand -/
theorem R_noIter {α : Type} {d : Kd α} {e : Nat} {w : World} {base : Nat} {ok : Nat → Prop} {v : Value} {xs : List α} (h : d.R e w base ok v xs) {it : Nat} {s : ByteArray} {p : Nat} (hk : w.heap[it]? = some (.stringIter s p)) : d.R e w base (fun k => ok k ∧ k ≠ it) v xs :=
  Kd.R_mono (Kd.R_bound h) (fun k hj => ⟨hj.1, by
    obtain ⟨_, _, _, q, hq, cells', hc⟩ := hj
    rintro rfl
    rw [hc] at hk
    cases hk⟩)
theorem R_iterAt {α : Type} {d : Kd α} {e : Nat} {w : World} {base : Nat} {ok : Nat → Prop} {v : Value} {xs : List α} (h : d.R e w base ok v xs) {it : Nat} {s : ByteArray} {p : Nat} (hk : w.heap[it]? = some (.stringIter s p)) (p' : Nat) : d.R e (w.iterAt it s p') base ok v xs :=
  Kd.R_mono (Kd.R_step (R_noIter h hk) (fun j hj _ => Lib.iterAt_other w it j s p' hj.2)) (fun _ h => h.1)
def token_words.l0 : Nat → ByteArray → List ByteArray → List Int → Nat → Option (List ByteArray)
  | 0, _, _, _, _ => none
  | k + 1, s, x3, x4, p => if p < s.size then ((token_letter.f ((Utf8.decode s p).1 : Int)).bind fun t => if t = true then ((token_small.f ((Utf8.decode s p).1 : Int)).bind fun c => (utf8_AppendRune.f k x4 c).bind fun y => token_words.l0 k s x3 y (p + (Utf8.decode s p).2)) else (if (x4.length : Int) > 0 then (if x3.length < 8796093022208 then token_words.l0 k s (x3 ++ [strOfNums x4]) ([] : List Int) (p + (Utf8.decode s p).2) else none) else token_words.l0 k s x3 x4 (p + (Utf8.decode s p).2))) else some x3
def token_words.f (k : Nat) (a0 : ByteArray) : Option (List ByteArray) := if a0.size + 1 ≤ 9223372036854775807 then token_words.l0 k (a0 ++ (⟨#[32]⟩ : ByteArray)) ([] : List ByteArray) ([] : List Int) 0 else none
theorem token_words.mono_l : ∀ k, (∀ y0 y1 y2 y3, LeO (token_words.l0 k y0 y1 y2 y3) (token_words.l0 (k + 1) y0 y1 y2 y3))
  | 0 => fun _ _ _ _ r h => by simp [token_words.l0] at h
  | k + 1 => by
    have ih0 := token_words.mono_l k
    intro y0 y1 y2 y3
    unfold token_words.l0
    repeat' first
      | (with_reducible exact ih0 _ _ _ _)
      | (with_reducible exact utf8_AppendRune.mono _ _ _)
      | (with_reducible exact LeO.refl _)
      | (with_reducible exact LeO.none _)
      | (with_reducible refine LeO.ite ?_ ?_)
      | (with_reducible refine LeO.bind ?_ (fun _ => ?_))
      | exact ih0 _ _ _ _
      | exact LeO.none _
      | refine LeO.ite ?_ ?_
      | refine LeO.bind ?_ (fun _ => ?_)
theorem token_words.mono : ∀ a0 k, LeO (token_words.f k a0) (token_words.f (k + 1) a0) := by
  intro a0 k
  have ih0 := token_words.mono_l k
  unfold token_words.f
  repeat' first
      | (with_reducible exact ih0 _ _ _ _)
      | (with_reducible exact LeO.refl _)
      | (with_reducible exact LeO.none _)
      | (with_reducible refine LeO.ite ?_ ?_)
      | exact ih0 _ _ _ _
theorem Below.iterAt_ {B : Nat} {a w : World} (h : Below B a w) {it : Nat} (hk : B ≤ it) (s : ByteArray) (p : Nat) : Below B a (w.iterAt it s p) := Lib.below_iterAt h hk s p
set_option maxHeartbeats 1000000 in
set_option maxRecDepth 100000 in
theorem token_words.calls (k : Nat) (a0 : ByteArray) (r : List ByteArray) (w : World) (h : token_words.f k a0 = some r) :
    Calls Tryd.prog 21 #[.string a0] w fun e w' => ∃ v0_ : Value, e = .returned (v0_) ∧ Kd.R Kd.string 9 w' w.heap.size (fun _ => True) v0_ r ∧ Below w.heap.size w w' := by
  unfold token_words.f at h
  by_cases hs : a0.size + 1 ≤ 9223372036854775807
  · rw [if_pos hs] at h
    have hs1 : decide (a0.size + 1 ≤ 9223372036854775807) = true := decide_eq_true hs
    have hs2 : a0.size < 9223372036854775807 := by omega
    have H' := Aside0.mk h
    clear h
    go_enter Tryd.func21, Tryd.ntmps21
    go_wp2
    go_loopg [3, 4] k (fun kq v3 v4 w' => ∃ (x3 : List ByteArray) (x4 : List Int) (p : Nat), Aside0 (token_words.l0 kq (a0 ++ (⟨#[32]⟩ : ByteArray)) x3 x4 p = some r) ∧ Aside0 (w'.heap[w.heap.size]? = some (.stringIter (a0 ++ (⟨#[32]⟩ : ByteArray)) p)) ∧ Aside0 (Kd.R Kd.string 9 w' w.heap.size (fun _ => True) v3 x3) ∧ Aside0 (Kd.R (Kd.int .u8) 5 w' w.heap.size (fun _ => True) v4 x4) ∧ Aside0 (Below w.heap.size w w'))
    case atStart => exact ⟨[], [], 0, H', ⟨heap_alloc_new w (.stringIter (a0 ++ (⟨#[32]⟩ : ByteArray)) 0)⟩, ⟨Kd.R_nil _ _ _ _ _⟩, ⟨Kd.R_nil _ _ _ _ _⟩, ⟨below_alloc (Below.refl _ _) _⟩⟩
    case round =>
      clear H'
      obtain ⟨x3, x4, p, HA, HI, HO3, HO4, HB⟩ := hrel
      cases gk with
      | zero => exact absurd HA.out (by simp [token_words.l0])
      | succ k1 =>
        have H := HA.out
        clear HA
        simp only [token_words.l0] at H
        by_cases c5 : p < (a0 ++ (⟨#[32]⟩ : ByteArray)).size
        · rw [if_pos c5] at H
          have hnx : ∀ ty, (Instr.next (.pointer (some ⟨w.heap.size, 0, none⟩)) true ty).run Tryd.prog wr = _ := fun ty => Lib.run_next_any_at wr w.heap.size _ p ty HI.out c5
          have n0_ := Aside0.mk (R_iterAt HO3.out HI.out (p + (Utf8.decode (a0 ++ (⟨#[32]⟩ : ByteArray)) p).2))
          have n1_ := Aside0.mk (R_iterAt HO4.out HI.out (p + (Utf8.decode (a0 ++ (⟨#[32]⟩ : ByteArray)) p).2))
          have n2_ := Aside0.mk (Below.iterAt_ HB.out (Nat.le_refl _) (a0 ++ (⟨#[32]⟩ : ByteArray)) (p + (Utf8.decode (a0 ++ (⟨#[32]⟩ : ByteArray)) p).2))
          have n3_ := Aside0.mk (Lib.iterAt_heap wr w.heap.size _ p (p + (Utf8.decode (a0 ++ (⟨#[32]⟩ : ByteArray)) p).2) HI.out)
          clear HO3 HO4 HB HI
          have HO3 := n0_
          have HO4 := n1_
          have HB := n2_
          have HI := n3_
          clear n0_ n1_ n2_ n3_
          generalize (wr.iterAt w.heap.size (a0 ++ (⟨#[32]⟩ : ByteArray)) (p + (Utf8.decode (a0 ++ (⟨#[32]⟩ : ByteArray)) p).2)) = w1 at *
          generalize p + (Utf8.decode (a0 ++ (⟨#[32]⟩ : ByteArray)) p).2 = p1 at *
          generalize (Utf8.decode (a0 ++ (⟨#[32]⟩ : ByteArray)) p).1 = cc at *
          clear c5
          replace H := Option.bind_eq_some_iff.mp H
          obtain ⟨t, A10, H⟩ := H
          have A1 := Aside0.mk A10
          clear A10
          obtain ⟨Ao3, co3, eo3⟩ := Kd.R_slice HO3.out
          subst eo3
          obtain ⟨Ao4, co4, eo4⟩ := Kd.R_slice HO4.out
          subst eo4
          cases t with
          | true =>
            replace H := Option.bind_eq_some_iff.mp H
            obtain ⟨c, A20, H⟩ := H
            replace H := Option.bind_eq_some_iff.mp H
            obtain ⟨y, A30, H⟩ := H
            have A2 := Aside0.mk A20
            clear A20
            have A3 := Aside0.mk A30
            clear A30
            have H' := Aside0.mk H
            clear H
            go_wp2_with (first
              | (go_at_call 27; (with_reducible refine (token_letter.calls _ true _ A1.out).mono ?_); rintro e w' ⟨rfl, ⟨nd, rfl⟩⟩)
              | (go_at_call 29; (with_reducible refine (token_small.calls _ c _ A2.out).mono ?_); rintro e w' ⟨rfl, ⟨nd, rfl⟩⟩))
            (with_reducible refine (utf8_AppendRune.calls k1 (fun k_ => some k_ = (.slice Ao4 x4.length co4 : Value).ownBlock) (.slice Ao4 x4.length co4) x4 c y w _ ?side1 ?side2 A3.out).mono ?_)
            (case side1 => repeat (with_reducible first | exact HB.out | apply pw_below_drewN | apply below_drew1))
            (case side2 => exact Kd.R_tight rfl (Kd.R_drewN HO4.out _))
            rintro e w2 ⟨v2, rfl, ho, hb, hkp⟩
            have n0_ := Aside0.mk (Kd.R_mono ho (fun _ _ => trivial))
            have n1_ := Aside0.mk hb
            have n2_ := Aside0.mk (blk_kept (blk_drewN HI.out _) hkp (fun e_ => by have h_ := (Kd.R_bound HO4.out).1 _ e_.symm; obtain ⟨_, _, _, q_, _, cs_, hc_⟩ := h_; have h2_ := HI.out; rw [hc_] at h2_; cases h2_))
            have n3_ := Aside0.mk (Kd.R_mono (Kd.R_kept (S := fun k_ => some k_ = (.slice Ao4 x4.length co4 : Value).ownBlock) (Kd.R_drewN (Kd.R_apartR HO3.out HO4.out (by decide)) _) hkp (fun k_ h_ e_ => h_.2 e_)) (fun _ h_ => h_.1))
            clear HO3 HO4 HB HI
            have HO3 := n3_
            have HO4 := n0_
            have HB := n1_
            have HI := n2_
            clear n0_ n1_ n2_ n3_
            clear ho hb hkp
            go_wp2
            go_roundg k1
            case measure => omega
            case rel => exact ⟨x3, y, p1, H', HI, HO3, HO4, HB⟩
          | false =>
            simp only [Bool.false_eq_true, if_false] at H
            by_cases c6 : (x4.length : Int) > 0
            · rw [if_pos c6] at H
              have c6b0 : decide (0 < (x4.length : Int)) = true := decide_eq_true c6
              have c6b1 : decide (0 < x4.length) = true := decide_eq_true (by omega)
              clear c6
              by_cases c7 : x3.length < 8796093022208
              · rw [if_pos c7] at H
                have LM := Aside0.mk c7
                clear c7
                have H' := Aside0.mk H
                clear H
                have hcv := own_string (P := Tryd.prog) Tryd.underlying36 Tryd.underlying5 Tryd.underlying9 (Kd.own_of_R HO4.out)
                go_wp2_with (first
                  | (go_at_call 27; (with_reducible refine (token_letter.calls _ false _ A1.out).mono ?_); rintro e w' ⟨rfl, ⟨nd, rfl⟩⟩; have hcv := own_string (P := Tryd.prog) (w := w1.drewN nd) Tryd.underlying36 Tryd.underlying5 Tryd.underlying9 (Kd.own_of_R (Kd.R_drewN HO4.out nd)))
                  | ((with_reducible refine gate_builtin (b := .append) (xs := #[.tmp 22, .tmp 25]) rfl ?_); at_builtin; refine Kd.R_append Kd.string (w0 := w) w.heap.size rfl (.tmp 22) (.tmp 25) 23 9 (.string ⟨#[]⟩) 16 rfl Tryd.underlying23 info9 rfl (by decide) (by omega) (.slice Ao3 x3.length co3) x3 (strOfNums x4) [.string (strOfNums x4)] (fun _ => True) (fun _ => False) rfl rfl ?aP (fun _ hk => hk.elim) ?aF ?aO ?aB ?aS ?aL ?_; (case aP => exact rfl); (case aB => exact (by repeat (with_reducible first | exact HB.out | apply below_alloc | apply pw_below_drewN | apply below_drew1))); (case aF => exact (fun _ _ => trivial)); (case aO => exact (by (with_reducible repeat (first | apply Kd.R_alloc | apply Kd.R_drewN | apply Kd.R_drew)); with_reducible exact HO3.out)); (case aS => exact (below_size (by repeat (with_reducible first | exact HB.out | apply below_alloc | apply pw_below_drewN | apply below_drew1)))); (case aL => have := LM.out; omega); intro v201 w32 ho hb hg hat; have n0_ := Aside0.mk hb; have n1_ := Aside0.mk ho; have n2_ := Aside0.mk (hg.block w.heap.size (by have := (Array.getElem?_eq_some_iff.1 HI.out).1; simp; omega) (fun e_ => by have h_ := (Kd.R_bound HO3.out).1 _ e_.symm; obtain ⟨_, _, _, q_, _, cs_, hc_⟩ := h_; have h2_ := HI.out; rw [hc_] at h2_; cases h2_)); clear HB HO3; have HB := n0_; have HO3 := n1_; clear n0_ n1_; clear ho hb hg hat))
                go_roundg k1
                case measure => omega
                case rel => exact ⟨_, _, p1, H', ⟨n2_.out.trans (by first | exact HI.out | (simp only [World.heap_drewN]; exact HI.out) | (rw [alloc_old] <;> first | exact HI.out | (have := (Array.getElem?_eq_some_iff.1 HI.out).1; simpa using this)))⟩, HO3, ⟨Kd.R_nil _ _ _ _ _⟩, HB⟩
              · rw [if_neg c7] at H
                exact absurd H (by simp)
            · rw [if_neg c6] at H
              have c6b0 : decide (0 < (x4.length : Int)) = false := decide_eq_false c6
              have c6b1 : decide (0 < x4.length) = false := decide_eq_false (by omega)
              clear c6
              have H' := Aside0.mk H
              clear H
              go_wp2_with (go_at_call 27; (with_reducible refine (token_letter.calls _ false _ A1.out).mono ?_); rintro e w' ⟨rfl, ⟨nd, rfl⟩⟩)
              go_roundg k1
              case measure => omega
              case rel => exact ⟨x3, x4, p1, H', HI, ⟨Kd.R_drewN HO3.out _⟩, ⟨Kd.R_drewN HO4.out _⟩, ⟨pw_below_drewN HB.out _⟩⟩
        · rw [if_neg c5] at H
          obtain rfl := Option.some.inj H
          have hnx : ∀ ty, (Instr.next (.pointer (some ⟨w.heap.size, 0, none⟩)) true ty).run Tryd.prog wr = _ := fun ty => Lib.run_next_end_at wr w.heap.size _ p ty HI.out c5
          go_wp2
          go_ret
          exact ⟨_, rfl, HO3.out, HB.out⟩
  · rw [if_neg hs] at h
    exact absurd h (by simp)

end Go.Proofs.YtecjnlaomompkaaDoor.T

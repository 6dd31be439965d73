/- Written by hp.py, this session's own program, out of the translation of this seat: Lean functions for the Go functions, and the proof that each call comes to what its Lean function says. -/
import Derived.Test.YtldojbonaecngaaProg
import Derived.Below
import Derived.Deep.Draws
import Derived.Deep.AppendLies
import Derived.Maps.AppendAt
import Derived.OwnWalk
import Derived.Laws.BytesArg
import Derived.Laws.MakeOwn
import Derived.Laws.OwnMore
import Derived.Deep.OwnRows
import Derived.Tactics
import Derived.Lib.ConvBytes
import Derived.Laws.Slices
import Derived.WalkKit
import Derived.KernelRfl
import Derived.RowKit3
import Derived.Deep.LoopGhost
import Derived.Deep.QuietTactic
import Derived.BigQuiet
import Derived.WideLaws
import Derived.Deep.DeepCutAuto
import Derived.Deep.CutBlock
import Derived.Deep.RegionHeld3
import Derived.Laws.Rows
import Derived.Lib.AppendStr
import Derived.ArgAppend
import Derived.Laws.IdiomCopy
import Derived.OrdersHeld
import Derived.Laws.BitsLemmas
import Derived.RowKit
import Derived.Test.YtldojbonaecngaaWWords
import Derived.Test.YtldojbonaecngaaWLast
import Derived.Test.YtldojbonaecngaaWTab
import Derived.Test.YtldojbonaecngaaWFour
import Derived.Test.YtldojbonaecngaaWQPut
import Derived.Test.YtldojbonaecngaaWApart
import Derived.Test.YtldojbonaecngaaWArr
import Derived.Test.YtldojbonaecngaaWZeros
import Derived.Test.YtldojbonaecngaaWFoot
import Derived.Test.YtldojbonaecngaaWKept
import Derived.Test.YtldojbonaecngaaWShare
import Derived.Test.YtldojbonaecngaaWN
import Derived.Test.YtldojbonaecngaaWFootNe
import Derived.Test.YtldojbonaecngaaWAt
import Derived.Test.YtldojbonaecngaaWEqStruct
import Derived.Test.YtldojbonaecngaaWRepsOne
import Derived.Test.YtldojbonaecngaaWInv
import Derived.Test.YtldojbonaecngaaWInvWords
import Derived.Test.YtldojbonaecngaaWGuard
import Derived.Test.YtldojbonaecngaaWNEv
import Derived.Test.YtldojbonaecngaaWMore
import Derived.Test.YtldojbonaecngaaTx0
import Derived.Test.YtldojbonaecngaaTx3
import Derived.Test.YtldojbonaecngaaOp
namespace Go.Proofs.Ytldojbonaecngaa.T
open Go.RowKit Go.Proofs.YtldojbonaecngaaW.PrintWords Go.Proofs.YtldojbonaecngaaW.PrintLast Go.Proofs.YtldojbonaecngaaW.PrintMore
attribute [local go_sem] max2_int min2_int max_two min_two max_three min_three max_four min_four   -- for this text's walks alone
set_option linter.unusedVariables false
set_option linter.unusedSimpArgs false
/-! ### RemapDies: function 9, walked by hand -/
/-- what the three calls of Carry tell, and that it is as the statement says -/
def lessOf (now : List Bool) (k : Int) : List Bool := if 0 ≤ k ∧ k < (now.length : Int) then now.set k.toNat false else now
def DiesOk (kc : Nat) (n : Int) (t : List Int) (was now : List Bool) (k : Int) : Prop :=
  ∃ s x y, remap_Carry.f kc n [t] [was] [was] = some s ∧ remap_Carry.f kc n [t] [was] [now] = some x ∧ remap_Carry.f kc n [t] [was] [lessOf now k] = some y ∧ (s.length : Int) = n ∧ (x.length : Int) = n ∧ (y.length : Int) = n ∧
    ∀ i : Int, 0 ≤ i → i < n → rdOf false s i = true ∧ (rdOf false y i = true → rdOf false x i = true)
theorem bne_no {a b : Int} (h : a = b) : (a != b) = false := by simp [h]
theorem C_len {α : Type} {d : Kd α} {w : World} {A : Option Addr} {n m : Nat} {xs : List α} (h : d.C w A n xs) (hm : n = m) : d.C w A m xs := hm ▸ h
/-- a literal of one row that came in -/
theorem C_one {α : Type} {d : Kd α} {W : World} (e g : Nat) (t : TypeId) (A : Option Addr) (n c : Nat) (xs : List α) (hn : n = xs.length) (hc : n ≤ c) (hh : W.heap[g]? = some (.cells #[.slice A n c] t (0, 0))) (h : d.C W A n xs) :
    (Kd.slice e d).C W (some ⟨g, 0, none⟩) ([xs] : List (List α)).length [xs] := by
  subst hn
  refine ⟨rfl, by simp, fun _ => ⟨⟨g, 0, none⟩, rfl, fun j p hj => ?_⟩⟩
  obtain ⟨hl, hp⟩ := List.getElem?_eq_some_iff.1 hj
  obtain rfl : j = 0 := by simpa using hl
  simp at hp
  subst hp
  refine ⟨[.slice A xs.length c], rfl, ⟨A, c, rfl, hc, h⟩, fun i u hu => ?_⟩
  obtain ⟨hi, hu'⟩ := List.getElem?_eq_some_iff.1 hu
  obtain rfl : i = 0 := by simpa using hi
  subst hu'
  have : (⟨g, 0, none⟩ : Addr).add (0 * (Kd.slice e d).sz + 0) = ⟨g, 0, none⟩ := by rw [add_at]; rfl
  rw [this, cell_of_row W g 0 _ t (0, 0) hh]
  rfl
theorem new1 (W : World) (o1 o2 : Obj) : ((W.alloc o1).alloc o2).heap[W.heap.size + 1]? = some o2 := by
  have h := blk_new (W.alloc o1) o2
  rw [size_alloc_] at h
  exact h
theorem new2 (W : World) (o1 o2 o3 : Obj) : (((W.alloc o1).alloc o2).alloc o3).heap[W.heap.size + 2]? = some o3 := by
  have h := blk_new ((W.alloc o1).alloc o2) o3
  rw [size_alloc_, size_alloc_] at h
  exact h
theorem carry1 (kc : Nat) (Wc : World) (n : Int) (t : List Int) (a b : List Bool) (L : Nat) (ht : t.length = L) (ha : a.length = L) (hb : b.length = L) (A1 A2 A3 : Option Addr) (c1 c2 c3 g1 g2 g3 : Nat) (t1 t2 t3 : TypeId) (r : List Bool)
    (h1 : Wc.heap[g1]? = some (.cells #[.slice A1 L c1] t1 (0, 0))) (h2 : Wc.heap[g2]? = some (.cells #[.slice A2 L c2] t2 (0, 0))) (h3 : Wc.heap[g3]? = some (.cells #[.slice A3 L c3] t3 (0, 0)))
    (k1 : Kd.C (Kd.int .i64) Wc A1 L t) (k2 : Kd.C Kd.bool Wc A2 L a) (k3 : Kd.C Kd.bool Wc A3 L b) (e1 : L ≤ c1) (e2 : L ≤ c2) (e3 : L ≤ c3) (h : remap_Carry.f kc n [t] [a] [b] = some r) :
    Calls Try.prog 23 #[.int .i64 n, .slice (some ⟨g1, 0, none⟩) 1 1, .slice (some ⟨g2, 0, none⟩) 1 1, .slice (some ⟨g3, 0, none⟩) 1 1] Wc fun e w' => ∃ A c, e = .returned (.slice A r.length c) ∧ Kd.C Kd.bool w' A r.length r ∧ Below Wc.heap.size Wc w' := by
  have hc := remap_Carry.calls kc n (some ⟨g1, 0, none⟩) 1 [t] (some ⟨g2, 0, none⟩) 1 [a] (some ⟨g3, 0, none⟩) 1 [b] r Wc (C_one 3 g1 t1 A1 L c1 t ht.symm e1 h1 k1) (Nat.le_refl _) (C_one 4 g2 t2 A2 L c2 a ha.symm e2 h2 k2) (Nat.le_refl _) (C_one 4 g3 t3 A3 L c3 b hb.symm e3 h3 k3) (Nat.le_refl _) h
  refine hc.mono ?_
  rintro e w' ⟨v, rfl, hR, hB⟩
  obtain ⟨A, c, rfl, _, hC⟩ := Kd.R_reads hR
  exact ⟨A, c, rfl, hC, hB⟩
theorem carry_lit (kc : Nat) (W1 : World) (n : Int) (t : List Int) (a b : List Bool) (L : Nat) (ht : t.length = L) (ha : a.length = L) (hb : b.length = L) (A1 A2 A3 : Option Addr) (c1 c2 c3 : Nat) (r : List Bool)
    (k1 : Kd.C (Kd.int .i64) W1 A1 L t) (k2 : Kd.C Kd.bool W1 A2 L a) (k3 : Kd.C Kd.bool W1 A3 L b) (e1 : L ≤ c1) (e2 : L ≤ c2) (e3 : L ≤ c3) (h : remap_Carry.f kc n [t] [a] [b] = some r) :
    Calls Try.prog 23 #[.int .i64 n, .slice (some ⟨W1.heap.size, 0, none⟩) 1 1, .slice (some ⟨W1.heap.size + 1, 0, none⟩) 1 1, .slice (some ⟨W1.heap.size + 1 + 1, 0, none⟩) 1 1] (((W1.alloc (.cells #[.slice A1 L c1] 23)).alloc (.cells #[.slice A2 L c2] 22)).alloc (.cells #[.slice A3 L c3] 22)) fun e w' =>
      ∃ A c, e = .returned (.slice A r.length c) ∧ Kd.C Kd.bool w' A r.length r ∧ w'.heap[W1.heap.size]? = some (.cells #[.slice A1 L c1] 23 (0, 0)) ∧ Below W1.heap.size W1 w' := by
  have g1 : (((W1.alloc (.cells #[.slice A1 L c1] 23)).alloc (.cells #[.slice A2 L c2] 22)).alloc (.cells #[.slice A3 L c3] 22)).heap[W1.heap.size]? = some (.cells #[.slice A1 L c1] 23 (0, 0)) := blk_alloc (blk_alloc (blk_new _ _) _) _
  have hb0 : Below W1.heap.size W1 (((W1.alloc (.cells #[.slice A1 L c1] 23)).alloc (.cells #[.slice A2 L c2] 22)).alloc (.cells #[.slice A3 L c3] 22)) := below_alloc (below_alloc (below_alloc (Below.refl _ _) _) _) _
  refine (carry1 kc _ n t a b L ht ha hb A1 A2 A3 c1 c2 c3 W1.heap.size (W1.heap.size + 1) (W1.heap.size + 1 + 1) 23 22 22 r g1 (blk_alloc (new1 _ _ _) _) (new2 _ _ _ _) (Kd.C_below k1 hb0) (Kd.C_below k2 hb0) (Kd.C_below k3 hb0) e1 e2 e3 h).mono ?_
  rintro e w' ⟨A, c, rfl, hC, hB⟩
  exact ⟨A, c, rfl, hC, blk_below g1 hB, below_step hb0 hB⟩
theorem carry_lit2 (kc : Nat) (W1 : World) (g : Nat) (n : Int) (t : List Int) (a b : List Bool) (L : Nat) (ht : t.length = L) (ha : a.length = L) (hb : b.length = L) (A1 A2 A3 : Option Addr) (c1 c2 c3 : Nat) (r : List Bool)
    (hg : W1.heap[g]? = some (.cells #[.slice A1 L c1] 23 (0, 0)))
    (k1 : Kd.C (Kd.int .i64) W1 A1 L t) (k2 : Kd.C Kd.bool W1 A2 L a) (k3 : Kd.C Kd.bool W1 A3 L b) (e1 : L ≤ c1) (e2 : L ≤ c2) (e3 : L ≤ c3) (h : remap_Carry.f kc n [t] [a] [b] = some r) :
    Calls Try.prog 23 #[.int .i64 n, .slice (some ⟨g, 0, none⟩) 1 1, .slice (some ⟨W1.heap.size, 0, none⟩) 1 1, .slice (some ⟨W1.heap.size + 1, 0, none⟩) 1 1] ((W1.alloc (.cells #[.slice A2 L c2] 22)).alloc (.cells #[.slice A3 L c3] 22)) fun e w' =>
      ∃ A c, e = .returned (.slice A r.length c) ∧ Kd.C Kd.bool w' A r.length r ∧ w'.heap[g]? = some (.cells #[.slice A1 L c1] 23 (0, 0)) ∧ Below W1.heap.size W1 w' := by
  have hb0 : Below W1.heap.size W1 ((W1.alloc (.cells #[.slice A2 L c2] 22)).alloc (.cells #[.slice A3 L c3] 22)) := below_alloc (below_alloc (Below.refl _ _) _) _
  have g1 := blk_below hg hb0
  refine (carry1 kc _ n t a b L ht ha hb A1 A2 A3 c1 c2 c3 g W1.heap.size (W1.heap.size + 1) 23 22 22 r g1 (blk_alloc (blk_new _ _) _) (new1 _ _ _) (Kd.C_below k1 hb0) (Kd.C_below k2 hb0) (Kd.C_below k3 hb0) e1 e2 e3 h).mono ?_
  rintro e w' ⟨A, c, rfl, hC, hB⟩
  exact ⟨A, c, rfl, hC, blk_below g1 hB, below_step hb0 hB⟩
theorem carry_lit3 (kc : Nat) (W1 : World) (S : Nat) (hS : W1.heap.size = S) (g : Nat) (n : Int) (t : List Int) (a b : List Bool) (L : Nat) (ht : t.length = L) (ha : a.length = L) (hb : b.length = L) (A1 A2 A3 : Option Addr) (c1 c2 c3 : Nat) (r : List Bool)
    (hg : W1.heap[g]? = some (.cells #[.slice A1 L c1] 23 (0, 0)))
    (k1 : Kd.C (Kd.int .i64) W1 A1 L t) (k2 : Kd.C Kd.bool W1 A2 L a) (k3 : Kd.C Kd.bool W1 A3 L b) (e1 : L ≤ c1) (e2 : L ≤ c2) (e3 : L ≤ c3) (h : remap_Carry.f kc n [t] [a] [b] = some r) :
    Calls Try.prog 23 #[.int .i64 n, .slice (some ⟨g, 0, none⟩) 1 1, .slice (some ⟨S, 0, none⟩) 1 1, .slice (some ⟨S + 1, 0, none⟩) 1 1] ((W1.alloc (.cells #[.slice A2 L c2] 22)).alloc (.cells #[.slice A3 L c3] 22)) fun e w' =>
      ∃ A c, e = .returned (.slice A r.length c) ∧ Kd.C Kd.bool w' A r.length r ∧ w'.heap[g]? = some (.cells #[.slice A1 L c1] 23 (0, 0)) ∧ Below W1.heap.size W1 w' := by
  subst hS
  exact carry_lit2 kc W1 g n t a b L ht ha hb A1 A2 A3 c1 c2 c3 r hg k1 k2 k3 e1 e2 e3 h
set_option maxHeartbeats 4000000 in
set_option maxRecDepth 100000 in
theorem dies_calls (n : Int) (A1 : Option Addr) (c1 : Nat) (t : List Int) (A2 : Option Addr) (c2 : Nat) (was : List Bool) (A3 : Option Addr) (c3 : Nat) (now : List Bool) (k : Int) (w : World) (ka : Nat) (hka : catchwordlaw10_awake.f ka = some true) (kc : Nat) (hx : t.length ≤ 64 → was.length = t.length → now.length = t.length → 0 ≤ n → n ≤ 64 → DiesOk kc n t was now k)
    (hr1 : Kd.C (Kd.int .i64) w A1 t.length t) (hc1 : t.length ≤ c1) (hr2 : Kd.C Kd.bool w A2 was.length was) (hc2 : was.length ≤ c2) (hr3 : Kd.C Kd.bool w A3 now.length now) (hc3 : now.length ≤ c3) :
    Calls Try.prog 9 #[.int .i64 n, .slice A1 t.length c1, .slice A2 was.length c2, .slice A3 now.length c3, .int .i64 k] w fun e w' => e = .returned (.bool true) ∧ Below w.heap.size w w' := by
  have HR1 := Aside0.mk hr1
  have HR2 := Aside0.mk hr2
  have HR3 := Aside0.mk hr3
  have HA := Aside0.mk hka
  have HHX := Aside0.mk hx
  clear hr1 hr2 hr3 hka hx
  by_cases h1 : t.length ≤ 64
  · have b1 : decide (64 < (t.length : Int)) = false := decide_eq_false (by omega)
    by_cases h2 : was.length = t.length
    · by_cases h3 : now.length = t.length
      · by_cases h4 : n < 0
        · have b4 : decide (n < 0) = true := decide_eq_true h4
          rw [h2, h3]
          go_enter Try.func9, Try.ntmps9
          go_wp2_with (go_at_call 10; (with_reducible refine (catchwordlaw10_awake.calls ka true _ HA.out).mono ?_); rintro e w' ⟨rfl, hB⟩; have HB := Aside0.mk hB; clear hB)
          go_ret
          exact ⟨rfl, HB.out⟩
        · have b4 : decide (n < 0) = false := decide_eq_false h4
          by_cases h5 : n > 64
          · have b5 : decide (64 < n) = true := decide_eq_true h5
            rw [h2, h3]
            go_enter Try.func9, Try.ntmps9
            go_wp2_with (go_at_call 10; (with_reducible refine (catchwordlaw10_awake.calls ka true _ HA.out).mono ?_); rintro e w' ⟨rfl, hB⟩; have HB := Aside0.mk hB; clear hB)
            go_ret
            exact ⟨rfl, HB.out⟩
          · have b5 : decide (64 < n) = false := decide_eq_false h5
            obtain ⟨s, x, y, hs, hxx, hy, ls, lx, ly, hall⟩ := HHX.out h1 h2 h3 (by omega) (by omega)
            have HS := Aside0.mk hs
            have HX := Aside0.mk hxx
            have HY := Aside0.mk hy
            have HALL := Aside0.mk hall
            clear hs hxx hy hall HHX
            have d1 : decide ((s.length : Int) = n) = true := decide_eq_true ls
            have d2 : decide ((x.length : Int) = n) = true := decide_eq_true lx
            have d3 : decide ((y.length : Int) = n) = true := decide_eq_true ly
            have LS := Aside0.mk ls
            have LX := Aside0.mk lx
            have LY := Aside0.mk ly
            clear ls lx ly
            rw [h2] at HR2 hc2 ⊢
            rw [h3] at HR3 hc3 ⊢
            have E2 := Aside0.mk h2
            have E3 := Aside0.mk h3
            clear h2 h3
            by_cases hk : 0 ≤ k ∧ k < (t.length : Int)
            · have f1 : decide (0 ≤ k) = true := decide_eq_true hk.1
              have f2 : decide (k < (t.length : Int)) = true := decide_eq_true hk.2
              go_enter Try.func9, Try.ntmps9
              go_wp2_with (first | (go_at_call 10; (with_reducible refine (catchwordlaw10_awake.calls ka true _ HA.out).mono ?_); rintro e W1 ⟨rfl, hB⟩; have HB1 := Aside0.mk hB; have K1 := Aside0.mk (Kd.C_below HR1.out hB); have K2 := Aside0.mk (Kd.C_below HR2.out hB); have K3 := Aside0.mk (Kd.C_below HR3.out hB); clear hB HR1 HR2 HR3) | (go_at_call 23; (with_reducible refine (carry_lit kc _ n t was was t.length rfl E2.out E2.out A1 A2 A2 c1 c2 c2 s K1.out K2.out K2.out hc1 hc2 hc2 HS.out).mono ?_); rintro e W2 ⟨As, cs, rfl, hC, hG, hB⟩; have CS := Aside0.mk hC; have G1 := Aside0.mk hG; have K1n := Aside0.mk (Kd.C_below K1.out hB); have K2n := Aside0.mk (Kd.C_below K2.out hB); have K3n := Aside0.mk (Kd.C_below K3.out hB); clear K1 K2 K3; have K1 := K1n; have K2 := K2n; have K3 := K3n; clear K1n K2n K3n; have HB1n := Aside0.mk (below_step HB1.out hB); clear HB1; have HB1 := HB1n; clear HB1n; clear hC hG hB) | (go_at_call 23; (with_reducible refine (carry_lit2 kc _ _ n t was now t.length rfl E2.out E3.out A1 A2 A3 c1 c2 c3 x G1.out K1.out K2.out K3.out hc1 hc2 hc3 HX.out).mono ?_); rintro e W3 ⟨Ax, cx, rfl, hC, hG, hB⟩; have CX := Aside0.mk hC; have CSn := Aside0.mk (Kd.C_below CS.out hB); clear CS; have CS := CSn; clear CSn; clear G1; have G1 := Aside0.mk hG; have K1n := Aside0.mk (Kd.C_below K1.out hB); have K2n := Aside0.mk (Kd.C_below K2.out hB); have K3n := Aside0.mk (Kd.C_below K3.out hB); clear K1 K2 K3; have K1 := K1n; have K2 := K2n; have K3 := K3n; clear K1n K2n K3n; have HB1n := Aside0.mk (below_step HB1.out hB); clear HB1; have HB1 := HB1n; clear HB1n; clear hC hG hB) | ((with_reducible refine gate_builtin (b := .append) (xs := #[.const (.slice none 0 0), .tmp 65]) rfl ?_); at_builtin; refine Kd.R_append_rows Kd.bool (w0 := w) w.heap.size rfl (.const (.slice none 0 0)) (.tmp 65) 22 4 (.bool false) 1 rfl Try.underlying22 info4 rfl (by decide) (by omega) (.slice none 0 0) ([] : List Bool) now A3 t.length c3 (fun _ => True) (fun _ => False) rfl rfl (Kd.R_nil _ _ _ _ _) K3.out (fun _ _ h => h) (fun _ h => h.elim) (fun _ _ => trivial) HB1.out (below_size HB1.out) (by simp only [List.length_nil]; omega) ?_; intro v15 W4 ho hb hg hat; rw [List.nil_append] at ho; have hB0 := Below.grown (Below.refl W3.heap.size W3) hg (Nat.le_refl _) (fun k hk => by cases hk); obtain ⟨g, cap, e15, hgb, hgl, _⟩ := Kd.R_form ho (by rw [E3.out]; omega); rw [e15] at ho; have hgw : W3.heap.size ≤ g := (by rcases hat with h | ⟨b, h, hb'⟩; (· rw [e15] at h; cases h); (· rw [e15] at h; have h2 : g = b := (by simpa [Value.ownBlock] using h); omega)); obtain ⟨hcl, hfz⟩ := Kd.R_cell false ho k hk.1 (by rw [E3.out]; exact hk.2); obtain ⟨hput, _⟩ := Kd.R_put ho k false; have hB := Below.setCell hB0 (p := ⟨g, k.toNat, none⟩) hgw (.bool false); have EL := Aside0.mk (show (lessOf now k).length = t.length by rw [lessOf, if_pos (by rw [E3.out]; exact hk), List.length_set]; exact E3.out); have hrd := Kd.R_reads' hput; have KL := Aside0.mk (show Kd.C Kd.bool (W4.setCell ⟨g, k.toNat, none⟩ (.bool false)) (some ⟨g, 0, none⟩) t.length (lessOf now k) by have h := hrd.2.2; rw [List.length_set, E3.out] at h; rw [lessOf, if_pos (by rw [E3.out]; exact hk)]; exact h); have HL15 := Aside0.mk (show t.length ≤ cap by have h := hrd.2.1; rw [E3.out] at h; exact h); rw [E3.out] at e15; subst e15; clear hrd hput ho; have K1n := Aside0.mk (Kd.C_below K1.out hB); have K2n := Aside0.mk (Kd.C_below K2.out hB); have K3n := Aside0.mk (Kd.C_below K3.out hB); clear K1 K2 K3; have K1 := K1n; have K2 := K2n; have K3 := K3n; clear K1n K2n K3n; have CSn := Aside0.mk (Kd.C_below CS.out hB); clear CS; have CS := CSn; clear CSn; have CXn := Aside0.mk (Kd.C_below CX.out hB); clear CX; have CX := CXn; clear CXn; have G1n := Aside0.mk (blk_below G1.out hB); clear G1; have G1 := G1n; clear G1n; have HB1n := Aside0.mk (below_step HB1.out hB); clear HB1; have HB1 := HB1n; clear HB1n; clear hb hg hat hB hB0) | (go_at_call 23; (with_reducible refine (carry_lit3 kc (W4.setCell ⟨g, k.toNat, none⟩ (.bool false)) W4.heap.size (Go.Deep.nblk_setCell W4 ⟨g, k.toNat, none⟩ (.bool false)) W1.heap.size n t was (lessOf now k) t.length rfl E2.out EL.out A1 A2 (some ⟨g, 0, none⟩) c1 c2 cap y G1.out K1.out K2.out KL.out hc1 hc2 HL15.out HY.out).mono ?_); rintro e W5 ⟨Ay, cy, rfl, hC, hG, hB⟩; have CY := Aside0.mk hC; have CSn := Aside0.mk (Kd.C_below CS.out hB); have CXn := Aside0.mk (Kd.C_below CX.out hB); clear CS CX; have CS := CSn; have CX := CXn; clear CSn CXn; have HBn := Aside0.mk (below_step HB1.out hB); clear HB1; have HB1 := HBn; clear HBn hC hG hB))
              all_goals first
                | (exact absurd LS.out (by assumption))
                | (exact absurd LX.out (by assumption))
                | (exact absurd (bne_no LY.out) (by simp only [*]; decide))
                | skip
              go_loopg [17] n.toNat (fun kq v17 w' => ∃ i : Nat, v17 = .int .i64 (i : Int) ∧ Aside0 (n ≤ (kq : Int) + i) ∧ Aside0 ((i : Int) ≤ n) ∧ w' = W5)
              case atStart => exact ⟨0, rfl, ⟨by omega⟩, ⟨by omega⟩, rfl⟩
              case round =>
                obtain ⟨i, rfl, HK, HI, rfl⟩ := hrel
                by_cases hlt : (i : Int) < n
                · have q1 : decide ((i : Int) < n) = true := decide_eq_true hlt
                  obtain ⟨kj, rfl⟩ : ∃ m, gk = m + 1 := ⟨gk - 1, by have := HK.out; omega⟩
                  have l1 : (i : Int) < (s.length : Int) := by have := of_decide_eq_true d1; omega
                  have l2 : (i : Int) < (x.length : Int) := by have := of_decide_eq_true d2; omega
                  have l3 : (i : Int) < (y.length : Int) := by have := of_decide_eq_true d3; omega
                  obtain ⟨as1, ea1, hs1⟩ := Kd.at_bool CS.out (i : Int) (by omega) l1
                  obtain ⟨ax1, ea2, hx1⟩ := Kd.at_bool CX.out (i : Int) (by omega) l2
                  obtain ⟨ay1, ea3, hy1⟩ := Kd.at_bool CY.out (i : Int) (by omega) l3
                  obtain ⟨v1, v2⟩ := HALL.out (i : Int) (by omega) hlt
                  subst ea1; subst ea2; subst ea3
                  rw [Int.toNat_natCast] at hs1 hx1 hy1
                  rw [v1] at hs1
                  have m1 : decide ((i : Int) < (s.length : Int)) = true := decide_eq_true l1
                  have m2 : decide ((i : Int) < (x.length : Int)) = true := decide_eq_true l2
                  have m3 : decide ((i : Int) < (y.length : Int)) = true := decide_eq_true l3
                  have m0 : decide ((0 : Int) ≤ (i : Int)) = true := decide_eq_true (by omega)
                  cases hyi : rdOf false y (i : Int) with
                  | false =>
                    rw [hyi] at hy1
                    clear v1 v2 hyi
                    go_wp2
                    go_roundg kj
                    case measure => omega
                    case rel => exact ⟨i + 1, congrArg (Value.int .i64) (by omega), ⟨by have := HK.out; omega⟩, ⟨by omega⟩, rfl⟩
                  | true =>
                    rw [hyi] at hy1
                    rw [v2 hyi] at hx1
                    clear v1 v2 hyi
                    go_wp2
                    go_roundg kj
                    case measure => omega
                    case rel => exact ⟨i + 1, congrArg (Value.int .i64) (by omega), ⟨by have := HK.out; omega⟩, ⟨by omega⟩, rfl⟩
                · have q1 : decide ((i : Int) < n) = false := decide_eq_false hlt
                  go_wp2
                  go_ret
                  exact ⟨rfl, HB1.out⟩
            · have fk : (decide (0 ≤ k) && decide (k < (t.length : Int))) = false := by
                by_cases hk1 : 0 ≤ k
                · simp [hk1, fun h => hk ⟨hk1, h⟩]
                  omega
                · simp [hk1]
              rcases (by omega : k < 0 ∨ (t.length : Int) ≤ k) with hk1 | hk1
              · have f1 : decide (0 ≤ k) = false := decide_eq_false (by omega)
                clear fk
                go_enter Try.func9, Try.ntmps9
                go_wp2_with (first | (go_at_call 10; (with_reducible refine (catchwordlaw10_awake.calls ka true _ HA.out).mono ?_); rintro e W1 ⟨rfl, hB⟩; have HB1 := Aside0.mk hB; have K1 := Aside0.mk (Kd.C_below HR1.out hB); have K2 := Aside0.mk (Kd.C_below HR2.out hB); have K3 := Aside0.mk (Kd.C_below HR3.out hB); clear hB HR1 HR2 HR3) | (go_at_call 23; (with_reducible refine (carry_lit kc _ n t was was t.length rfl E2.out E2.out A1 A2 A2 c1 c2 c2 s K1.out K2.out K2.out hc1 hc2 hc2 HS.out).mono ?_); rintro e W2 ⟨As, cs, rfl, hC, hG, hB⟩; have CS := Aside0.mk hC; have G1 := Aside0.mk hG; have K1n := Aside0.mk (Kd.C_below K1.out hB); have K2n := Aside0.mk (Kd.C_below K2.out hB); have K3n := Aside0.mk (Kd.C_below K3.out hB); clear K1 K2 K3; have K1 := K1n; have K2 := K2n; have K3 := K3n; clear K1n K2n K3n; have HB1n := Aside0.mk (below_step HB1.out hB); clear HB1; have HB1 := HB1n; clear HB1n; clear hC hG hB) | (go_at_call 23; (with_reducible refine (carry_lit2 kc _ _ n t was now t.length rfl E2.out E3.out A1 A2 A3 c1 c2 c3 x G1.out K1.out K2.out K3.out hc1 hc2 hc3 HX.out).mono ?_); rintro e W3 ⟨Ax, cx, rfl, hC, hG, hB⟩; have CX := Aside0.mk hC; have CSn := Aside0.mk (Kd.C_below CS.out hB); clear CS; have CS := CSn; clear CSn; clear G1; have G1 := Aside0.mk hG; have K1n := Aside0.mk (Kd.C_below K1.out hB); have K2n := Aside0.mk (Kd.C_below K2.out hB); have K3n := Aside0.mk (Kd.C_below K3.out hB); clear K1 K2 K3; have K1 := K1n; have K2 := K2n; have K3 := K3n; clear K1n K2n K3n; have HB1n := Aside0.mk (below_step HB1.out hB); clear HB1; have HB1 := HB1n; clear HB1n; clear hC hG hB) | ((with_reducible refine gate_builtin (b := .append) (xs := #[.const (.slice none 0 0), .tmp 65]) rfl ?_); at_builtin; refine Kd.R_append_rows Kd.bool (w0 := w) w.heap.size rfl (.const (.slice none 0 0)) (.tmp 65) 22 4 (.bool false) 1 rfl Try.underlying22 info4 rfl (by decide) (by omega) (.slice none 0 0) ([] : List Bool) now A3 t.length c3 (fun _ => True) (fun _ => False) rfl rfl (Kd.R_nil _ _ _ _ _) K3.out (fun _ _ h => h) (fun _ h => h.elim) (fun _ _ => trivial) HB1.out (below_size HB1.out) (by simp only [List.length_nil]; omega) ?_; intro v15 W4 ho hb hg hat; rw [List.nil_append] at ho; have hB := Below.grown (Below.refl W3.heap.size W3) hg (Nat.le_refl _) (fun k hk => by cases hk); have K1n := Aside0.mk (Kd.C_below K1.out hB); have K2n := Aside0.mk (Kd.C_below K2.out hB); have K3n := Aside0.mk (Kd.C_below K3.out hB); clear K1 K2 K3; have K1 := K1n; have K2 := K2n; have K3 := K3n; clear K1n K2n K3n; have CSn := Aside0.mk (Kd.C_below CS.out hB); clear CS; have CS := CSn; clear CSn; have CXn := Aside0.mk (Kd.C_below CX.out hB); clear CX; have CX := CXn; clear CXn; have G1n := Aside0.mk (blk_below G1.out hB); clear G1; have G1 := G1n; clear G1n; clear HB1; have HB1 := Aside0.mk hb; have EL := Aside0.mk (show (lessOf now k).length = t.length by rw [lessOf, if_neg (by rw [E3.out]; exact hk)]; exact E3.out); obtain ⟨A15, c15, e15, hl15, hC15⟩ := Kd.R_reads ho; rw [E3.out] at e15 hl15 hC15; subst e15; have HL15 := Aside0.mk hl15; have KL := Aside0.mk (show Kd.C Kd.bool W4 A15 t.length (lessOf now k) by rw [lessOf, if_neg (by rw [E3.out]; exact hk)]; exact hC15); clear ho hl15 hC15; clear hb hg hat hB) | (go_at_call 23; (with_reducible refine (carry_lit3 kc _ W4.heap.size rfl _ n t was (lessOf now k) t.length rfl E2.out EL.out A1 A2 A15 c1 c2 c15 y G1.out K1.out K2.out KL.out hc1 hc2 HL15.out HY.out).mono ?_); rintro e W5 ⟨Ay, cy, rfl, hC, hG, hB⟩; have CY := Aside0.mk hC; have CSn := Aside0.mk (Kd.C_below CS.out hB); have CXn := Aside0.mk (Kd.C_below CX.out hB); clear CS CX; have CS := CSn; have CX := CXn; clear CSn CXn; have HBn := Aside0.mk (below_step HB1.out hB); clear HB1; have HB1 := HBn; clear HBn hC hG hB))
                all_goals first
                  | (exact absurd LS.out (by assumption))
                  | (exact absurd LX.out (by assumption))
                  | (exact absurd (bne_no LY.out) (by simp only [*]; decide))
                  | skip
                go_loopg [17] n.toNat (fun kq v17 w' => ∃ i : Nat, v17 = .int .i64 (i : Int) ∧ Aside0 (n ≤ (kq : Int) + i) ∧ Aside0 ((i : Int) ≤ n) ∧ w' = W5)
                case atStart => exact ⟨0, rfl, ⟨by omega⟩, ⟨by omega⟩, rfl⟩
                case round =>
                  obtain ⟨i, rfl, HK, HI, rfl⟩ := hrel
                  by_cases hlt : (i : Int) < n
                  · have q1 : decide ((i : Int) < n) = true := decide_eq_true hlt
                    obtain ⟨kj, rfl⟩ : ∃ m, gk = m + 1 := ⟨gk - 1, by have := HK.out; omega⟩
                    have l1 : (i : Int) < (s.length : Int) := by have := of_decide_eq_true d1; omega
                    have l2 : (i : Int) < (x.length : Int) := by have := of_decide_eq_true d2; omega
                    have l3 : (i : Int) < (y.length : Int) := by have := of_decide_eq_true d3; omega
                    obtain ⟨as1, ea1, hs1⟩ := Kd.at_bool CS.out (i : Int) (by omega) l1
                    obtain ⟨ax1, ea2, hx1⟩ := Kd.at_bool CX.out (i : Int) (by omega) l2
                    obtain ⟨ay1, ea3, hy1⟩ := Kd.at_bool CY.out (i : Int) (by omega) l3
                    obtain ⟨v1, v2⟩ := HALL.out (i : Int) (by omega) hlt
                    subst ea1; subst ea2; subst ea3
                    rw [Int.toNat_natCast] at hs1 hx1 hy1
                    rw [v1] at hs1
                    have m1 : decide ((i : Int) < (s.length : Int)) = true := decide_eq_true l1
                    have m2 : decide ((i : Int) < (x.length : Int)) = true := decide_eq_true l2
                    have m3 : decide ((i : Int) < (y.length : Int)) = true := decide_eq_true l3
                    have m0 : decide ((0 : Int) ≤ (i : Int)) = true := decide_eq_true (by omega)
                    cases hyi : rdOf false y (i : Int) with
                    | false =>
                      rw [hyi] at hy1
                      clear v1 v2 hyi
                      go_wp2
                      go_roundg kj
                      case measure => omega
                      case rel => exact ⟨i + 1, congrArg (Value.int .i64) (by omega), ⟨by have := HK.out; omega⟩, ⟨by omega⟩, rfl⟩
                    | true =>
                      rw [hyi] at hy1
                      rw [v2 hyi] at hx1
                      clear v1 v2 hyi
                      go_wp2
                      go_roundg kj
                      case measure => omega
                      case rel => exact ⟨i + 1, congrArg (Value.int .i64) (by omega), ⟨by have := HK.out; omega⟩, ⟨by omega⟩, rfl⟩
                  · have q1 : decide ((i : Int) < n) = false := decide_eq_false hlt
                    go_wp2
                    go_ret
                    exact ⟨rfl, HB1.out⟩
              · have f1 : decide (0 ≤ k) = true := decide_eq_true (by omega)
                have f2 : decide (k < (t.length : Int)) = false := decide_eq_false (by omega)
                clear fk
                go_enter Try.func9, Try.ntmps9
                go_wp2_with (first | (go_at_call 10; (with_reducible refine (catchwordlaw10_awake.calls ka true _ HA.out).mono ?_); rintro e W1 ⟨rfl, hB⟩; have HB1 := Aside0.mk hB; have K1 := Aside0.mk (Kd.C_below HR1.out hB); have K2 := Aside0.mk (Kd.C_below HR2.out hB); have K3 := Aside0.mk (Kd.C_below HR3.out hB); clear hB HR1 HR2 HR3) | (go_at_call 23; (with_reducible refine (carry_lit kc _ n t was was t.length rfl E2.out E2.out A1 A2 A2 c1 c2 c2 s K1.out K2.out K2.out hc1 hc2 hc2 HS.out).mono ?_); rintro e W2 ⟨As, cs, rfl, hC, hG, hB⟩; have CS := Aside0.mk hC; have G1 := Aside0.mk hG; have K1n := Aside0.mk (Kd.C_below K1.out hB); have K2n := Aside0.mk (Kd.C_below K2.out hB); have K3n := Aside0.mk (Kd.C_below K3.out hB); clear K1 K2 K3; have K1 := K1n; have K2 := K2n; have K3 := K3n; clear K1n K2n K3n; have HB1n := Aside0.mk (below_step HB1.out hB); clear HB1; have HB1 := HB1n; clear HB1n; clear hC hG hB) | (go_at_call 23; (with_reducible refine (carry_lit2 kc _ _ n t was now t.length rfl E2.out E3.out A1 A2 A3 c1 c2 c3 x G1.out K1.out K2.out K3.out hc1 hc2 hc3 HX.out).mono ?_); rintro e W3 ⟨Ax, cx, rfl, hC, hG, hB⟩; have CX := Aside0.mk hC; have CSn := Aside0.mk (Kd.C_below CS.out hB); clear CS; have CS := CSn; clear CSn; clear G1; have G1 := Aside0.mk hG; have K1n := Aside0.mk (Kd.C_below K1.out hB); have K2n := Aside0.mk (Kd.C_below K2.out hB); have K3n := Aside0.mk (Kd.C_below K3.out hB); clear K1 K2 K3; have K1 := K1n; have K2 := K2n; have K3 := K3n; clear K1n K2n K3n; have HB1n := Aside0.mk (below_step HB1.out hB); clear HB1; have HB1 := HB1n; clear HB1n; clear hC hG hB) | ((with_reducible refine gate_builtin (b := .append) (xs := #[.const (.slice none 0 0), .tmp 65]) rfl ?_); at_builtin; refine Kd.R_append_rows Kd.bool (w0 := w) w.heap.size rfl (.const (.slice none 0 0)) (.tmp 65) 22 4 (.bool false) 1 rfl Try.underlying22 info4 rfl (by decide) (by omega) (.slice none 0 0) ([] : List Bool) now A3 t.length c3 (fun _ => True) (fun _ => False) rfl rfl (Kd.R_nil _ _ _ _ _) K3.out (fun _ _ h => h) (fun _ h => h.elim) (fun _ _ => trivial) HB1.out (below_size HB1.out) (by simp only [List.length_nil]; omega) ?_; intro v15 W4 ho hb hg hat; rw [List.nil_append] at ho; have hB := Below.grown (Below.refl W3.heap.size W3) hg (Nat.le_refl _) (fun k hk => by cases hk); have K1n := Aside0.mk (Kd.C_below K1.out hB); have K2n := Aside0.mk (Kd.C_below K2.out hB); have K3n := Aside0.mk (Kd.C_below K3.out hB); clear K1 K2 K3; have K1 := K1n; have K2 := K2n; have K3 := K3n; clear K1n K2n K3n; have CSn := Aside0.mk (Kd.C_below CS.out hB); clear CS; have CS := CSn; clear CSn; have CXn := Aside0.mk (Kd.C_below CX.out hB); clear CX; have CX := CXn; clear CXn; have G1n := Aside0.mk (blk_below G1.out hB); clear G1; have G1 := G1n; clear G1n; clear HB1; have HB1 := Aside0.mk hb; have EL := Aside0.mk (show (lessOf now k).length = t.length by rw [lessOf, if_neg (by rw [E3.out]; exact hk)]; exact E3.out); obtain ⟨A15, c15, e15, hl15, hC15⟩ := Kd.R_reads ho; rw [E3.out] at e15 hl15 hC15; subst e15; have HL15 := Aside0.mk hl15; have KL := Aside0.mk (show Kd.C Kd.bool W4 A15 t.length (lessOf now k) by rw [lessOf, if_neg (by rw [E3.out]; exact hk)]; exact hC15); clear ho hl15 hC15; clear hb hg hat hB) | (go_at_call 23; (with_reducible refine (carry_lit3 kc _ W4.heap.size rfl _ n t was (lessOf now k) t.length rfl E2.out EL.out A1 A2 A15 c1 c2 c15 y G1.out K1.out K2.out KL.out hc1 hc2 HL15.out HY.out).mono ?_); rintro e W5 ⟨Ay, cy, rfl, hC, hG, hB⟩; have CY := Aside0.mk hC; have CSn := Aside0.mk (Kd.C_below CS.out hB); have CXn := Aside0.mk (Kd.C_below CX.out hB); clear CS CX; have CS := CSn; have CX := CXn; clear CSn CXn; have HBn := Aside0.mk (below_step HB1.out hB); clear HB1; have HB1 := HBn; clear HBn hC hG hB))
                all_goals first
                  | (exact absurd LS.out (by assumption))
                  | (exact absurd LX.out (by assumption))
                  | (exact absurd (bne_no LY.out) (by simp only [*]; decide))
                  | skip
                go_loopg [17] n.toNat (fun kq v17 w' => ∃ i : Nat, v17 = .int .i64 (i : Int) ∧ Aside0 (n ≤ (kq : Int) + i) ∧ Aside0 ((i : Int) ≤ n) ∧ w' = W5)
                case atStart => exact ⟨0, rfl, ⟨by omega⟩, ⟨by omega⟩, rfl⟩
                case round =>
                  obtain ⟨i, rfl, HK, HI, rfl⟩ := hrel
                  by_cases hlt : (i : Int) < n
                  · have q1 : decide ((i : Int) < n) = true := decide_eq_true hlt
                    obtain ⟨kj, rfl⟩ : ∃ m, gk = m + 1 := ⟨gk - 1, by have := HK.out; omega⟩
                    have l1 : (i : Int) < (s.length : Int) := by have := of_decide_eq_true d1; omega
                    have l2 : (i : Int) < (x.length : Int) := by have := of_decide_eq_true d2; omega
                    have l3 : (i : Int) < (y.length : Int) := by have := of_decide_eq_true d3; omega
                    obtain ⟨as1, ea1, hs1⟩ := Kd.at_bool CS.out (i : Int) (by omega) l1
                    obtain ⟨ax1, ea2, hx1⟩ := Kd.at_bool CX.out (i : Int) (by omega) l2
                    obtain ⟨ay1, ea3, hy1⟩ := Kd.at_bool CY.out (i : Int) (by omega) l3
                    obtain ⟨v1, v2⟩ := HALL.out (i : Int) (by omega) hlt
                    subst ea1; subst ea2; subst ea3
                    rw [Int.toNat_natCast] at hs1 hx1 hy1
                    rw [v1] at hs1
                    have m1 : decide ((i : Int) < (s.length : Int)) = true := decide_eq_true l1
                    have m2 : decide ((i : Int) < (x.length : Int)) = true := decide_eq_true l2
                    have m3 : decide ((i : Int) < (y.length : Int)) = true := decide_eq_true l3
                    have m0 : decide ((0 : Int) ≤ (i : Int)) = true := decide_eq_true (by omega)
                    cases hyi : rdOf false y (i : Int) with
                    | false =>
                      rw [hyi] at hy1
                      clear v1 v2 hyi
                      go_wp2
                      go_roundg kj
                      case measure => omega
                      case rel => exact ⟨i + 1, congrArg (Value.int .i64) (by omega), ⟨by have := HK.out; omega⟩, ⟨by omega⟩, rfl⟩
                    | true =>
                      rw [hyi] at hy1
                      rw [v2 hyi] at hx1
                      clear v1 v2 hyi
                      go_wp2
                      go_roundg kj
                      case measure => omega
                      case rel => exact ⟨i + 1, congrArg (Value.int .i64) (by omega), ⟨by have := HK.out; omega⟩, ⟨by omega⟩, rfl⟩
                  · have q1 : decide ((i : Int) < n) = false := decide_eq_false hlt
                    go_wp2
                    go_ret
                    exact ⟨rfl, HB1.out⟩
      · have b3 : decide ((now.length : Int) = (t.length : Int)) = false := decide_eq_false (by omega)
        rw [h2]
        go_enter Try.func9, Try.ntmps9
        go_wp2_with (go_at_call 10; (with_reducible refine (catchwordlaw10_awake.calls ka true _ HA.out).mono ?_); rintro e w' ⟨rfl, hB⟩; have HB := Aside0.mk hB; clear hB)
        go_ret
        exact ⟨rfl, HB.out⟩
    · have b2 : decide ((was.length : Int) = (t.length : Int)) = false := decide_eq_false (by omega)
      go_enter Try.func9, Try.ntmps9
      go_wp2_with (go_at_call 10; (with_reducible refine (catchwordlaw10_awake.calls ka true _ HA.out).mono ?_); rintro e w' ⟨rfl, hB⟩; have HB := Aside0.mk hB; clear hB)
      go_ret
      exact ⟨rfl, HB.out⟩
  · have b1 : decide (64 < (t.length : Int)) = true := decide_eq_true (by omega)
    go_enter Try.func9, Try.ntmps9
    go_wp2_with (go_at_call 10; (with_reducible refine (catchwordlaw10_awake.calls ka true _ HA.out).mono ?_); rintro e w' ⟨rfl, hB⟩; have HB := Aside0.mk hB; clear hB)
    go_ret
    exact ⟨rfl, HB.out⟩

end Go.Proofs.Ytldojbonaecngaa.T

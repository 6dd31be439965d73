import Derived.Test.YtbbmdakdghefnaaGreatDoorCards
import Derived.Test.YtbbmdakdghefnaaGreatDoorTie
import Derived.Test.YtbbmdakdghefnaaGreatDoorQGC
import Derived.Test.YtbbmdakdghefnaaGreatDoorQGYD
import Derived.Lib.LaidIn
import Derived.Lib.LaidU8T
import Derived.Deep.DeepWitnessRowRef
import Derived.ShutString
/- The law QueryWeighs: its statement holds for every input; no condition is added. -/
/- 'catchword/catchwordlaw18.QueryWeighs', for every input: it returns true, and its arguments read as before: the law's row and its tied card. Conditions: the row's own cells alone (the two listed tables of unicode/utf8 are tied by the card). -/
namespace Go.Proofs.YtbbmdakdghefnaaGreatDoor.queryWeighs
open Go.Proofs.YtbbmdakdghefnaaGreatDoorW.PrintLast
open Go.Shelf Go.ChangeShapes Go.WideShapes Go.ChangeAt Go.RowKit Go.Lib
open Go.ChangeMaps (open_string shut_string)
set_option linter.unusedVariables false
theorem own : ownKnob Tryz.prog.godebug = none := by kernel_rfl
theorem laidOut : laidOutB Tryz.prog = true := by kernel_rfl
noncomputable def laidWorld (os : Os) : World :=
 let w0 := World.holding Tryz.prog os ⟨#[], #[], []⟩
 let put (h : Array Obj) (g : Nat) (cs : Array Value) : Array Obj := h.modify g fun
  | .cells _ t frozen => .cells cs t frozen
  | o => o
 let h1 := put w0.heap 1 (Lib.firstTab.map fun z => Value.int .u8 z).toArray
 let h2 := put h1 2 ((List.range 16).flatMap fun i => [Value.int .u8 (Lib.accLo i), Value.int .u8 (Lib.accHi i)]).toArray
 { w0 with heap := h2 }
theorem laid_met (os : Os) (args : Array Value) : laidMet Tryz.prog Rows.queryWeighsRow.laid ((laidWorld os).forCall (fun _ _ => 0) ⟨#[], args, []⟩).memory :=
 (LaidIn.of_run (l := [("unicode/utf8.acceptRanges", Rows.laid_unicode_utf8_acceptRanges), ("unicode/utf8.first", Rows.laid_unicode_utf8_first)]) [2, 1] 8 z128_ z128_ z128_ z128_).met
theorem witness_row (os : Os) {H : Type} (enc : TypeId × Value → H) :
  (OpenSpec.ofChange Rows.queryWeighsSpec).preRow enc Tryz.prog Tryz.f6 Rows.queryWeighsRow.domain false Rows.queryWeighsRow.laid ((laidWorld os).forCall (fun _ _ => 0) ⟨#[], #[.slice none 0 0, .slice none 0 0, .slice none 0 0], []⟩).memory #[.slice none 0 0, .slice none 0 0, .slice none 0 0] := by
 have hw : (DataW.whole enc Tryz.prog ((laidWorld os).forCall (fun _ _ => 0) ⟨#[], #[.slice none 0 0, .slice none 0 0, .slice none 0 0], []⟩).memory Tryz.f6.params.toList (OpenSpec.ofChange Rows.queryWeighsSpec).vars false #[.slice none 0 0, .slice none 0 0, .slice none 0 0].toList 8).map (fun x => (x.1, x.2.1)) =
   some ([.nil, .nil, .nil], []) := by kernel_rfl
 obtain ⟨⟨x1, x2, x3⟩, hx, hx1⟩ := Option.map_eq_some_iff.1 hw; simp only [Prod.mk.injEq] at hx1; obtain ⟨rfl, rfl⟩ := hx1; exact OpenSpec.preRow_of_cond 8 hx z128_ (fun k hk => by cases hk) z128_ (laid_met os _)
theorem acc_eq : (Rows.laid_unicode_utf8_acceptRanges : DataW Unit) = acceptData := by kernel_rfl
theorem fst_eq : Rows.laid_unicode_utf8_first = firstData := by kernel_rfl
set_option maxRecDepth 100000 in
set_option maxHeartbeats 2000000 in
theorem lifted (os : Os) (started : os.Started) (H : Type) (enc : TypeId × Value → H) (F : Stop.Interp) :
  ReturnsInHanded {} Tryz.checked os 6 .any ((OpenSpec.ofChange Rows.queryWeighsSpec).preRow enc Tryz.prog Tryz.f6 Rows.queryWeighsRow.domain false Rows.queryWeighsRow.laid) (((OpenSpec.ofChange Rows.queryWeighsSpec).at F).post enc Tryz.prog Tryz.f6 false true false false) := by
 refine returnsInHanded_of_row (C := Tryz.checked) (s := OpenSpec.ofChange Rows.queryWeighsSpec) own started z128_ Tryz.func6
  (witness_row_atRef (enc := enc) (C := Tryz.checked) false (laidWorld os) #[.slice none 0 0, .slice none 0 0, .slice none 0 0] rfl z128_ z128_ z128_ (witness_row os enc)) ?_
 intro W base args ds gs before hval0 hW _ _ hsz0 hL _ _; have hsz : (DataW.weightsEach Tryz.prog (Tryz.f6.params.toList ++ Rows.queryWeighsSpec.plain.varTypes Tryz.prog) (ds ++ gs)).all (· ≤ reachBytes) = true := hsz0; have hval : ∀ (j : Nat) t v, Tryz.f6.params[j]? = some t → args[j]? = some v → Value.okWide Tryz.prog W .any base t v := hval0; have hW' := hW; obtain ⟨p, q, hA0, hV, rfl, hfz, hnd⟩ := hW; have hA : DataW.TrodAll enc Tryz.prog W 0 (fun _ => true) true Tryz.f6.params.toList args.toList ds p := hA0; rw [Tryz.params6] at hA hval hsz; obtain ⟨v0, vs0, d0, ds0, p0, q0, hargs, rfl, rfl, h0, r0⟩ := trodAll_cons hA; obtain ⟨v1, vs1, d1, ds1, p1, q1, rfl, rfl, rfl, h1, r1⟩ := trodAll_cons r0; obtain ⟨v2, vs2, d2, ds2, p2, q2, rfl, rfl, rfl, h2, r2⟩ := trodAll_cons r1; obtain ⟨rfl, rfl, rfl⟩ := trodAll_nil r2
 obtain rfl : args = #[v0, v1, v2] := by cases args; simp_all
 obtain ⟨rfl, rfl⟩ := trodVars_none hV; have k0 := h0
 have lt0 : ∀ x ∈ p0, x.block < W.heap.size := by obtain ⟨m, hm⟩ := k0; exact DataW.trod_lt m _ _ _ hm
 obtain ⟨A0, len0, cap0, rfl⟩ := okWide_slice Tryz.underlying22 (hval 0 22 v0 rfl rfl); obtain ⟨l0, rfl, c0, b0, g0⟩ := T.opens_slice_arg T.opNodes h0; have k1 := h1
 have lt1 : ∀ x ∈ p1, x.block < W.heap.size := by obtain ⟨m, hm⟩ := k1; exact DataW.trod_lt m _ _ _ hm
 obtain ⟨A1, len1, cap1, rfl⟩ := okWide_slice Tryz.underlying23 (hval 1 23 v1 rfl rfl); obtain ⟨l1, rfl, c1, b1, g1⟩ := T.opens_slice_arg T.opStrs h1; have k2 := h2
 have lt2 : ∀ x ∈ p2, x.block < W.heap.size := by obtain ⟨m, hm⟩ := k2; exact DataW.trod_lt m _ _ _ hm
 obtain ⟨A2, len2, cap2, rfl⟩ := okWide_slice Tryz.underlying23 (hval 2 23 v2 rfl rfl); obtain ⟨l2, rfl, c2, b2, g2⟩ := T.opens_slice_arg T.opStrs h2; clear hA0 hval0 hsz0 hsz
 have hG : T.GG W :=
  utf8Tabs_of_readsT (U8Types.of196 Tryz.lays196) ⟨z128_, z128_, z128_, z128_, z128_, z128_, z128_⟩ (by rw [← fst_eq]; exact Lib.laidMet.reads hL (.tail _ (.head _))) (by rw [← acc_eq]; exact Lib.laidMet.reads hL (.head _))
 obtain ⟨kk, hkk⟩ := Plain.QueryWeighs l0 l1 l2; refine (T.catchwordlaw18_QueryWeighs.calls kk A0 cap0 l0 A1 cap1 l1 A2 cap2 l2 true W c0 b0 c1 b1 c2 b2 hG hkk).mono fun e W' ⟨he, bel⟩ => ?_; subst he; exact ⟨_, rfl, _, _, _, [], _, [], hW', trodAll_mk1 (shut_bool Tryz.underlying4 _), (trodAll_cons_mk (Below.trod laidOut z128_ (of_decide_eq_true z128_) k0 bel lt0) (trodAll_cons_mk (Below.trod laidOut z128_ (of_decide_eq_true z128_) k1 bel lt1) (trodAll_cons_mk (Below.trod laidOut z128_ (of_decide_eq_true z128_) k2 bel lt2) trodAll_mk0))), rfl, bel.frame _, fun h => by cases h⟩
theorem said : Rows.QueryWeighsSaid :=
 OpenClaim.holds_of_cond 6 Tryz.f6 rfl rfl rfl rfl rfl rfl rfl ⟨rfl, rfl, rfl, rfl, rfl⟩ rfl rfl rfl rfl rfl z128_ Tryz.func6 z128_
  (of_decide_eq_true z128_) (by unfold Func.isWrapper; first | (rw [if_pos (by decide +kernel)]; kernel_rfl) | (rw [if_neg (by decide +kernel)]; exact ⟨rfl, rfl⟩))
  (fun os started H enc _ F => by rw [OpenClaim.pre_eq_preRow]; exact lifted os started H enc F)
theorem plain (f : FuncId) (fn : Func) (hf : Tryz.pinned.checked.prog.funcNamed "catchword/catchwordlaw18.QueryWeighs" = some f) (hfn : Tryz.pinned.checked.prog.funcs[f]? = some fn) :
  false = Tryz.pinned.checked.prog.looks [] ∧ ∀ (j : Nat) t, fn.params[j]? = some t → Tryz.pinned.checked.prog.wantsStandIn t = false := by
 obtain rfl : f = 6 := Option.some.inj ((show Tryz.prog.funcNamed "catchword/catchwordlaw18.QueryWeighs" = some 6 from z128_).symm.trans hf) |>.symm; obtain rfl : fn = Tryz.f6 := (Option.some.inj (Tryz.func6.symm.trans hfn)).symm; refine ⟨z128_, fun j t ht => ?_⟩; rw [Tryz.params6] at ht; have hm := Array.mem_of_getElem? ht
 have h3 : t = 22 ∨ t = 23 := by
  simp at hm; first | (rcases hm with h | h | h <;> simp [h]) | (rcases hm with h | h <;> simp [h]) | simp [hm]
 rcases h3 with rfl | rfl
 · exact (show Tryz.prog.wantsStandIn 22 = false from z128_)
 · exact (show Tryz.prog.wantsStandIn 23 = false from z128_)
theorem card : Rows.QueryWeighsCardSaid :=
 Claim7.holds_tied_plain_at .later [] _ _ _ _ said (fun _ h => by cases h) z128_ (fun _ h => by cases h) queryWeighs_row_tie rfl ⟨rfl, rfl⟩ z128_ rfl plain z128_
#print axioms card
end Go.Proofs.YtbbmdakdghefnaaGreatDoor.queryWeighs
namespace Go.Proofs.YtbbmdakdghefnaaGreatDoor
open Go.Proofs.YtbbmdakdghefnaaGreatDoorW.PrintLast
/-- The card, under a short name, for the claim. -/
theorem queryWeighs_holds : Rows.QueryWeighsCardSaid := queryWeighs.card
end Go.Proofs.YtbbmdakdghefnaaGreatDoor

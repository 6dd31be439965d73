import Derived.Test.YtbbmdakdghefnaaGreatDoorCards
import Derived.Test.YtbbmdakdghefnaaGreatDoorTie
import Derived.Test.YtbbmdakdghefnaaGreatDoorQPYH
import Derived.Lib.LaidIn
import Derived.Lib.LaidU8T
import Derived.Deep.DeepWitnessRowRef
import Derived.ShutString
/- The law QueryPuts: its statement holds for every input; no condition is added. -/
/- 'catchword/catchwordlaw18.QueryPuts', for every input: it returns true, and its arguments read as before: the law's row and its tied card. Conditions: the row's own cells alone (the two listed tables of unicode/utf8 are tied by the card). -/
namespace Go.Proofs.YtbbmdakdghefnaaGreatDoor.queryPuts
open Go.Proofs.YtbbmdakdghefnaaGreatDoorW.PrintLast
open Go.Shelf Go.ChangeShapes Go.WideShapes Go.ChangeAt Go.RowKit Go.Lib
open Go.ChangeMaps (open_string shut_string)
set_option linter.unusedVariables false
theorem own : ownKnob Tryz.prog.godebug = none := by kernel_rfl
theorem laidOut : laidOutB Tryz.prog = true := by kernel_rfl
noncomputable def laidWorld (os : Os) : World :=
 let w0 := World.holding Tryz.prog os ⟨#[], #[], []⟩
 let put (h : Array Obj) (g : Nat) (cs : Array Value) : Array Obj := h.modify g fun
  | .cells _ t frozen => .cells cs t frozen
  | o => o
 let h1 := put w0.heap 1 (Lib.firstTab.map fun z => Value.int .u8 z).toArray
 let h2 := put h1 2 ((List.range 16).flatMap fun i => [Value.int .u8 (Lib.accLo i), Value.int .u8 (Lib.accHi i)]).toArray
 { w0 with heap := h2 }
theorem laid_met (os : Os) (args : Array Value) : laidMet Tryz.prog Rows.queryPutsRow.laid ((laidWorld os).forCall (fun _ _ => 0) ⟨#[], args, []⟩).memory :=
 (LaidIn.of_run (l := [("unicode/utf8.acceptRanges", Rows.laid_unicode_utf8_acceptRanges), ("unicode/utf8.first", Rows.laid_unicode_utf8_first)]) [2, 1] 8 z159_ z159_ z159_ z159_).met
theorem witness_row (os : Os) {H : Type} (enc : TypeId × Value → H) :
  (OpenSpec.ofChange Rows.queryPutsSpec).preRow enc Tryz.prog Tryz.f7 Rows.queryPutsRow.domain false Rows.queryPutsRow.laid ((laidWorld os).forCall (fun _ _ => 0) ⟨#[], #[.string ⟨#[]⟩, .string ⟨#[]⟩], []⟩).memory #[.string ⟨#[]⟩, .string ⟨#[]⟩] := by
 have hw : (DataW.whole enc Tryz.prog ((laidWorld os).forCall (fun _ _ => 0) ⟨#[], #[.string ⟨#[]⟩, .string ⟨#[]⟩], []⟩).memory Tryz.f7.params.toList (OpenSpec.ofChange Rows.queryPutsSpec).vars false #[.string ⟨#[]⟩, .string ⟨#[]⟩].toList 8).map (fun x => (x.1, x.2.1)) =
   some ([.lit (.string []), .lit (.string [])], []) := by kernel_rfl
 obtain ⟨⟨x1, x2, x3⟩, hx, hx1⟩ := Option.map_eq_some_iff.1 hw; simp only [Prod.mk.injEq] at hx1; obtain ⟨rfl, rfl⟩ := hx1; exact OpenSpec.preRow_of_cond 8 hx z159_ (fun k hk => by cases hk) z159_ (laid_met os _)
theorem acc_eq : (Rows.laid_unicode_utf8_acceptRanges : DataW Unit) = acceptData := by kernel_rfl
theorem fst_eq : Rows.laid_unicode_utf8_first = firstData := by kernel_rfl
set_option maxRecDepth 100000 in
set_option maxHeartbeats 2000000 in
theorem lifted (os : Os) (started : os.Started) (H : Type) (enc : TypeId × Value → H) (F : Stop.Interp) :
  ReturnsInHanded {} Tryz.checked os 7 .any ((OpenSpec.ofChange Rows.queryPutsSpec).preRow enc Tryz.prog Tryz.f7 Rows.queryPutsRow.domain false Rows.queryPutsRow.laid) (((OpenSpec.ofChange Rows.queryPutsSpec).at F).post enc Tryz.prog Tryz.f7 false true false false) := by
 refine returnsInHanded_of_row (C := Tryz.checked) (s := OpenSpec.ofChange Rows.queryPutsSpec) own started z159_ Tryz.func7
  (witness_row_atRef (enc := enc) (C := Tryz.checked) false (laidWorld os) #[.string ⟨#[]⟩, .string ⟨#[]⟩] rfl z159_ z159_ z159_ (witness_row os enc)) ?_
 intro W base args ds gs before hval0 hW _ _ hsz0 hL _ _; have hsz : (DataW.weightsEach Tryz.prog (Tryz.f7.params.toList ++ Rows.queryPutsSpec.plain.varTypes Tryz.prog) (ds ++ gs)).all (· ≤ reachBytes) = true := hsz0; have hval : ∀ (j : Nat) t v, Tryz.f7.params[j]? = some t → args[j]? = some v → Value.okWide Tryz.prog W .any base t v := hval0; have hW' := hW; obtain ⟨p, q, hA0, hV, rfl, hfz, hnd⟩ := hW; have hA : DataW.TrodAll enc Tryz.prog W 0 (fun _ => true) true Tryz.f7.params.toList args.toList ds p := hA0; rw [Tryz.params7] at hA hval hsz; obtain ⟨v0, vs0, d0, ds0, p0, q0, hargs, rfl, rfl, h0, r0⟩ := trodAll_cons hA; obtain ⟨v1, vs1, d1, ds1, p1, q1, rfl, rfl, rfl, h1, r1⟩ := trodAll_cons r0; obtain ⟨rfl, rfl, rfl⟩ := trodAll_nil r1
 obtain rfl : args = #[v0, v1] := by cases args; simp_all
 obtain ⟨rfl, rfl⟩ := trodVars_none hV; obtain ⟨a0, rfl, rfl, rfl, y0⟩ := open_string Tryz.underlying9 (hval 0 9 v0 rfl rfl) h0
 have w0 : a0.size ≤ 140737488351232 := by
  have z := sized_string hsz (j := 0) (t := 9) rfl rfl; rw [Array.length_toList] at z; exact z
 obtain ⟨a1, rfl, rfl, rfl, y1⟩ := open_string Tryz.underlying9 (hval 1 9 v1 rfl rfl) h1
 have w1 : a1.size ≤ 140737488351232 := by
  have z := sized_string hsz (j := 1) (t := 9) rfl rfl; rw [Array.length_toList] at z; exact z
 clear hA0 hval0 hsz0 hsz
 have hG : T.GG W :=
  utf8Tabs_of_readsT (U8Types.of196 Tryz.lays196) ⟨z159_, z159_, z159_, z159_, z159_, z159_, z159_⟩ (by rw [← fst_eq]; exact Lib.laidMet.reads hL (.tail _ (.head _))) (by rw [← acc_eq]; exact Lib.laidMet.reads hL (.head _))
 obtain ⟨kk, hkk⟩ := Plain.QueryPuts a0 w0 a1 w1; refine (T.catchwordlaw18_QueryPuts.calls kk a0 a1 true W hG hkk).mono fun e W' ⟨he, bel⟩ => ?_; subst he; exact ⟨_, rfl, _, _, _, [], _, [], hW', trodAll_mk1 (shut_bool Tryz.underlying4 _), (trodAll_cons_mk (shut_string Tryz.underlying9 y0) (trodAll_cons_mk (shut_string Tryz.underlying9 y1) trodAll_mk0)), rfl, bel.frame _, fun h => by cases h⟩
theorem said : Rows.QueryPutsSaid :=
 OpenClaim.holds_of_cond 7 Tryz.f7 rfl rfl rfl rfl rfl rfl rfl ⟨rfl, rfl, rfl, rfl, rfl⟩ rfl rfl rfl rfl rfl z159_ Tryz.func7 z159_
  (of_decide_eq_true z159_) (by unfold Func.isWrapper; first | (rw [if_pos (by decide +kernel)]; kernel_rfl) | (rw [if_neg (by decide +kernel)]; exact ⟨rfl, rfl⟩))
  (fun os started H enc _ F => by rw [OpenClaim.pre_eq_preRow]; exact lifted os started H enc F)
theorem plain (f : FuncId) (fn : Func) (hf : Tryz.pinned.checked.prog.funcNamed "catchword/catchwordlaw18.QueryPuts" = some f) (hfn : Tryz.pinned.checked.prog.funcs[f]? = some fn) :
  false = Tryz.pinned.checked.prog.looks [] ∧ ∀ (j : Nat) t, fn.params[j]? = some t → Tryz.pinned.checked.prog.wantsStandIn t = false := by
 obtain rfl : f = 7 := Option.some.inj ((show Tryz.prog.funcNamed "catchword/catchwordlaw18.QueryPuts" = some 7 from z159_).symm.trans hf) |>.symm; obtain rfl : fn = Tryz.f7 := (Option.some.inj (Tryz.func7.symm.trans hfn)).symm; refine ⟨z159_, fun j t ht => ?_⟩; rw [Tryz.params7] at ht; have hm := Array.mem_of_getElem? ht
 have h3 : t = 9 := by
  simpa using hm
 rcases h3 with rfl
 · exact (show Tryz.prog.wantsStandIn 9 = false from z159_)
theorem card : Rows.QueryPutsCardSaid :=
 Claim7.holds_tied_plain_at .later [] _ _ _ _ said (fun _ h => by cases h) z159_ (fun _ h => by cases h) queryPuts_row_tie rfl ⟨rfl, rfl⟩ z159_ rfl plain z159_
#print axioms card
end Go.Proofs.YtbbmdakdghefnaaGreatDoor.queryPuts
namespace Go.Proofs.YtbbmdakdghefnaaGreatDoor
open Go.Proofs.YtbbmdakdghefnaaGreatDoorW.PrintLast
/-- The card, under a short name, for the claim. -/
theorem queryPuts_holds : Rows.QueryPutsCardSaid := queryPuts.card
end Go.Proofs.YtbbmdakdghefnaaGreatDoor

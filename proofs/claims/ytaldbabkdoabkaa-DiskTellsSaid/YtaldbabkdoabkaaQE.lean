import Derived.Test.YtaldbabkdoabkaaProg
import Derived.Test.YtaldbabkdoabkaaQV
import Derived.Test.YtaldbabkdoabkaaQA
import Derived.Test.YtaldbabkdoabkaaQD
import Derived.Maps.Views
import Derived.Maps.OwnSet
import Derived.Maps.OwnOps
import Derived.Maps.Own
namespace Go.Proofs.Ytaldbabkdoabkaa.T
open Go.RowKit Go.Proofs.YtaldbabkdoabkaaW.PrintWords Go.Proofs.YtaldbabkdoabkaaW.PrintLast Go.Proofs.YtaldbabkdoabkaaW.PrintMore
attribute [local go_sem] max2_int min2_int max_two min_two max_three min_three max_four min_four   -- for this text's walks alone
set_option linter.unusedVariables false
set_option linter.unusedSimpArgs false
/-! ### disk.places (function 35): where names stand, as a map; by hand -/
section
open Go.Maps Go.WideMaps
theorem mlaw : Keyed Try.prog 9 := string_keyed Try.underlying9
theorem mzero (w : World) : (zeroValue 3).run Try.prog w = .ok (.int .i64 0) w := by kernel_rfl
def namesOf (l : List S48) : List (List UInt8) := l.map fun x => x.f0.data.toList
structure PlacesOf (Dm : DataW Unit) (ns : List (List UInt8)) : Prop where
  tidy : Tidy Dm
  has_ : ∀ y, Go.Maps.has Dm (.string y) = decide (y ∈ ns)
  at_ : ns.Nodup → ∀ (i : Nat) (y : List UInt8), ns[i]? = some y → Dm.atKey (.string y) (.lit (.int .i64 0)) = .lit (.int .i64 (i : Int))
theorem PlacesOf.nil : PlacesOf (.map []) [] := ⟨tidy_empty, fun y => rfl, fun _ i y h => by simp at h⟩
theorem PlacesOf.put {Dm : DataW Unit} {ns : List (List UInt8)} (h : PlacesOf Dm ns) (y : List UInt8) : PlacesOf (Dm.put (.string y) (.lit (.int .i64 (ns.length : Int)))) (ns ++ [y]) := by
  refine ⟨h.tidy.put (k := .string y) (show WideAt.IsKeyLit (.string y) from trivial) _, fun z => ?_, fun hn i z hz => ?_⟩
  · by_cases e : z = y
    · subst e; rw [has_put_same h.tidy.isMap (show WideAt.IsKeyLit (.string z) from trivial)]; simp
    · rw [has_put_other (by intro e2; injection e2 with e2; exact e e2), h.has_]
      simp [e]
  · obtain ⟨hn1, _, hn2⟩ := List.nodup_append.1 hn
    by_cases hi : i < ns.length
    · rw [List.getElem?_append_left hi] at hz
      have hm : z ∈ ns := List.mem_of_getElem? hz
      have hne : z ≠ y := fun e => hn2 z hm y (by simp) e
      rw [atKey_put_other (by intro e2; injection e2 with e2; exact hne e2)]
      exact h.at_ hn1 i z hz
    · have hi2 : i = ns.length := by
        have := (List.getElem?_eq_some_iff.1 hz).1
        rw [List.length_append, List.length_singleton] at this
        omega
      subst hi2
      rw [List.getElem?_append_right (Nat.le_refl _), Nat.sub_self] at hz
      have hz' : y = z := by simpa using hz
      subst hz'
      rw [atKey_put_same h.tidy.isMap (show WideAt.IsKeyLit (.string y) from trivial)]
theorem namesOf_take (l : List S48) (i : Nat) (hi : i < l.length) : namesOf (l.take (i + 1)) = namesOf (l.take i) ++ [(rd_T48 l (i : Int)).f0.data.toList] := by
  unfold namesOf rd_T48
  rw [List.take_succ_eq_append_getElem hi, List.map_append, Int.toNat_natCast, List.getD_eq_getElem?_getD, List.getElem?_eq_getElem hi]
  rfl
theorem owns_of {w w1 : World} {P : Program} {k : TypeId} {R : Value → Option (DataW Unit × List MemPlace)} {b n : Nat} {D : DataW Unit} (h : w.ownsMap P k R b n D) (hb : w1.heap[b]? = w.heap[b]?) : w1.ownsMap P k R b n D := by
  obtain ⟨es, clock, h1, h2⟩ := h
  exact ⟨es, clock, hb.trans h1, h2⟩
theorem owns_lt {w : World} {P : Program} {k : TypeId} {R : Value → Option (DataW Unit × List MemPlace)} {b n : Nat} {D : DataW Unit} (h : w.ownsMap P k R b n D) : b < w.heap.size := by
  obtain ⟨es, clock, h1, h2⟩ := h
  exact blk_lt h1
theorem owns_alloc {w : World} {P : Program} {k : TypeId} {R : Value → Option (DataW Unit × List MemPlace)} {b n : Nat} {D : DataW Unit} (h : w.ownsMap P k R b n D) (o : Obj) : (w.alloc o).ownsMap P k R b n D :=
  owns_of h ((below_alloc (Below.refl w.heap.size w) o).block b (owns_lt h))
theorem owns_below {w w1 : World} {P : Program} {k : TypeId} {R : Value → Option (DataW Unit × List MemPlace)} {b n : Nat} {D : DataW Unit} (h : w.ownsMap P k R b n D) (hb : Below w.heap.size w w1) : w1.ownsMap P k R b n D :=
  owns_of h (hb.block b (owns_lt h))
set_option maxHeartbeats 8000000 in
set_option maxRecDepth 100000 in
theorem places_calls (A0 : Option Addr) (c0 : Nat) (l0 : List S48) (w : World) (hr0 : Kd.C k48 w A0 l0.length l0) (hc0 : l0.length ≤ c0) (hs : ∀ x ∈ l0, x.f0.size ≤ 9223372036854775807) :
    Calls Try.prog 35 #[.slice A0 l0.length c0] w fun e w' => e = .returned (.map (some w.heap.size)) ∧ ∃ Dm : DataW Unit, w'.ownsMap Try.prog 9 (plainElem Try.prog 3) w.heap.size l0.length Dm ∧ PlacesOf Dm (namesOf l0) ∧ Below w.heap.size w w' := by
  have hmm := @run_makeMap Try.prog
  have hu48 := Try.underlying48
  have hlm : l0.length ≤ 9223372036854775807 := hr0.2.1
  have HS := Aside0.mk hs
  have HR := Aside0.mk hr0
  clear hs hr0
  go_enter Try.func35, Try.ntmps35
  go_wp2
  go_loopg [9] l0.length (fun kq v9 w' => ∃ (i : Nat) (Dm : DataW Unit), v9 = .int .i64 (i : Int) ∧ Aside0 (l0.length ≤ kq + i) ∧ Aside0 (i ≤ l0.length) ∧ Aside0 (w'.ownsMap Try.prog 9 (plainElem Try.prog 3) w.heap.size i Dm) ∧ Aside0 (PlacesOf Dm (namesOf (l0.take i))) ∧ Aside0 (Below w.heap.size w w'))
  case atStart => exact ⟨0, .map [], rfl, ⟨Nat.le_refl _⟩, ⟨Nat.zero_le _⟩, ⟨World.ownsMap_made _ _ _ _⟩, ⟨PlacesOf.nil⟩, ⟨below_alloc (Below.refl _ _) _⟩⟩
  case round =>
    obtain ⟨i, Dm, rfl, HK, HI, HM, HKS, HB⟩ := hrel
    obtain ⟨wo, rfl⟩ : ∃ wo : World, wo = wr := ⟨_, rfl⟩
    by_cases hlt : i < l0.length
    · obtain ⟨kj, rfl⟩ : ∃ m, gk = m + 1 := ⟨gk - 1, by have := HK.out; omega⟩
      have d1 : decide ((i : Int) < (l0.length : Int)) = true := decide_eq_true (by omega)
      obtain ⟨ad, A1, c1, e1, g0, g1, g2, _, _⟩ := at_T48 (Kd.C_below HR.out HB.out) (i : Int) (by omega) (by omega)
      subst e1
      rw [Int.toNat_natCast] at g0 g1 g2
      have HIT := Aside0.mk (namesOf_take l0 i hlt)
      have HX := Aside0.mk (HS.out (rd_T48 l0 (i : Int)) (by
        unfold rd_T48
        rw [Int.toNat_natCast, List.getD_eq_getElem?_getD, List.getElem?_eq_getElem hlt]
        exact List.getElem_mem hlt))
      have HLN := Aside0.mk (show ((namesOf (l0.take i)).length : Int) = (i : Int) by unfold namesOf; rw [List.length_map, List.length_take]; omega)
      generalize rd_T48 l0 (i : Int) = x at g0 g1 g2 HIT HX
      have HKEY := Aside0.mk (show keyOf Try.prog 9 (.string x.f0) = some (.string x.f0.data.toList) from keyOf_string_mk Try.underlying9 HX.out)
      have hwf := Aside0.mk (show (Lit.int .i64 (i : Int)).wf = true by have h := wrap64_wf (i : Int); rwa [show wrap64 (i : Int) = (i : Int) by unfold wrap64; omega] at h)
      go_wp2_with (first | (at_mapUpdate; refine wpList_mapUpdate_own _ rfl _ _ _ 57 rfl 9 3 mlaw Try.underlying57 _ w.heap.size i _ rfl (owns_alloc HM.out _) (by unfold maxLen; omega) _ _ _ rfl rfl HKEY.out _ [] (plainElem_int Try.underlying3 hwf.out) ?_; intro w1 hown1 hgrow1; have HM1 := Aside0.mk hown1; have HB1 := Aside0.mk ((below_alloc HB.out _).grown hgrow1 (below_size (below_alloc HB.out _)) (fun k hk => by injection hk with hk; omega)); clear hown1 hgrow1))
      go_roundg kj
      case measure => omega
      case rel => exact ⟨i + 1, _, congrArg (Value.int .i64) (by omega), ⟨by have := HK.out; omega⟩, ⟨by omega⟩, HM1, ⟨by rw [HIT.out, ← HLN.out]; exact HKS.out.put _⟩, HB1⟩
    · have d1 : decide ((i : Int) < (l0.length : Int)) = false := decide_eq_false (by omega)
      have ei : i = l0.length := by have := HI.out; omega
      subst ei
      have HK2 := Aside0.mk (show PlacesOf Dm (namesOf l0) by have := HKS.out; rwa [List.take_length] at this)
      go_wp2
      go_ret
      exact ⟨rfl, Dm, HM.out, HK2.out, HB.out⟩
end
/-! ### disk.Find (function 21), by hand -/
section
open Go.Maps Go.WideMaps
def sizesOk (l : List S48) : Bool := l.all (fun x => decide (x.f0.size ≤ 9223372036854775807))
def disk_Find.f (k : Nat) (a0_0 : Int) (l : List S48) (a1 : ByteArray) : Option Int :=
  if sizesOk l = true then (if a1.size ≤ 9223372036854775807 then (if a1.data.toList ∈ namesOf l then ((disk_May.f k a0_0 l).bind fun m => if m = true then (if (namesOf l).Nodup then some (((namesOf l).idxOf a1.data.toList : Nat) : Int) else none) else some (-1)) else some (-1)) else none) else none
theorem disk_Find.mono : ∀ a0 l a1 k, LeO (disk_Find.f k a0 l a1) (disk_Find.f (k + 1) a0 l a1) := by
  intro a0 l a1 k
  unfold disk_Find.f
  exact LeO.ite (LeO.ite (LeO.ite (LeO.bind (disk_May.mono _ _ _) (fun m => LeO.refl _)) (LeO.refl _)) (LeO.refl _)) (LeO.refl _)
set_option maxHeartbeats 8000000 in
set_option maxRecDepth 100000 in
theorem disk_Find.calls (k : Nat) (a0_0 : Int) (A0_1 : Option Addr) (c0_1 : Nat) (l0_1 : List (S48)) (a1 : ByteArray) (r : Int) (w : World) (hr0_1 : Kd.C k48 w A0_1 l0_1.length l0_1) (hc0_1 : l0_1.length ≤ c0_1) (h : disk_Find.f k a0_0 l0_1 a1 = some r) :
    Calls Try.prog 21 #[.agg #[.int .i64 a0_0, .slice A0_1 l0_1.length c0_1], .string a1] w fun e w' => e = .returned (.int .i64 r) ∧ Below w.heap.size w w' := by
  have hu24 := Try.underlying24
  unfold disk_Find.f at h
  by_cases hs : sizesOk l0_1 = true
  · rw [if_pos hs] at h
    by_cases hs1 : a1.size ≤ 9223372036854775807
    · rw [if_pos hs1] at h
      have HS := Aside0.mk (fun x (hx : x ∈ l0_1) => of_decide_eq_true (List.all_eq_true.1 hs x hx))
      have HKEY := Aside0.mk (show keyOf Try.prog 9 (.string a1) = some (.string a1.data.toList) from keyOf_string_mk Try.underlying9 hs1)
      have HR := Aside0.mk hr0_1
      clear hs hs1 hr0_1
      have A35 : ∀ w1 : World, Below w.heap.size w w1 → Calls Try.prog 35 #[.slice A0_1 l0_1.length c0_1] w1 _ := fun w1 hb => places_calls A0_1 c0_1 l0_1 w1 (Kd.C_below HR.out hb) hc0_1 HS.out
      have hsz_ : ∀ o : Obj, (w.alloc o).heap.size = w.heap.size + 1 := fun o => by unfold World.alloc; exact Array.size_push _
      by_cases hm : a1.data.toList ∈ namesOf l0_1
      · rw [if_pos hm] at h
        obtain ⟨m, hmay, h⟩ := Option.bind_eq_some_iff.mp h
        have HM := Aside0.mk hmay
        have HMEM := Aside0.mk hm
        clear hmay
        cases m with
        | true =>
          rw [if_pos rfl] at h
          by_cases hn : (namesOf l0_1).Nodup
          · rw [if_pos hn] at h
            have HN := Aside0.mk hn
            have ER := Aside0.mk (Option.some.inj h)
            clear h hn hm
            go_enter Try.func21, Try.ntmps21
            go_wp2_with (first | (go_at_call 35; (refine (A35 _ (below_alloc (Below.refl _ _) _)).mono ?_); rintro e w1 ⟨rfl, Dm, hM, hP, hb⟩; rw [hsz_] at hM; have HMAP := Aside0.mk hM; have HPL := Aside0.mk hP; have HB := Aside0.mk (below_step (below_alloc (Below.refl _ _) _) hb); have BX := Aside0.mk (blk_below (blk_new w _) hb); have c0_ : w1.cell? ⟨w.heap.size, 0, none⟩ = some (.int .i64 a0_0) := (blk_cell BX.out 0).trans rfl; have c1_ : w1.cell? ⟨w.heap.size, 1, none⟩ = some (.slice A0_1 l0_1.length c0_1) := (blk_cell BX.out 1).trans rfl; clear hM hP hb) | (at_lookup; refine wpList_lookup_own_ok_int _ rfl _ _ 57 rfl 9 3 .i64 mlaw Try.underlying57 Try.underlying3 (mzero _) _ _ _ rfl HMAP.out _ _ rfl HKEY.out ?_; intro c hat hwc; have HAT := Aside0.mk hat; clear hat hwc; have hhas : Go.Maps.has Dm (.string a1.data.toList) = true := by rw [HPL.out.has_]; exact decide_eq_true HMEM.out) | (go_at_call 18; (refine (disk_May.calls k _ _ _ l0_1 true _ (Kd.C_below HR.out HB.out) hc0_1 HM.out).mono ?_); rintro e w2 ⟨rfl, hb2⟩; have HB2 := Aside0.mk (below_step HB.out hb2); clear hb2))
            go_ret
            refine ⟨?_, HB2.out⟩
            have hx := HPL.out.at_ HN.out ((namesOf l0_1).idxOf a1.data.toList) a1.data.toList (by rw [List.getElem?_eq_getElem (List.idxOf_lt_length_of_mem HMEM.out), List.getElem_idxOf])
            rw [HAT.out] at hx
            injection hx with hx
            injection hx with _ hx
            rw [hx, ER.out]
            rfl
          · rw [if_neg hn] at h
            exact absurd h (by simp)
        | false =>
          rw [if_neg (by simp)] at h
          have ER := Aside0.mk (Option.some.inj h)
          clear h hm
          go_enter Try.func21, Try.ntmps21
          go_wp2_with (first | (go_at_call 35; (refine (A35 _ (below_alloc (Below.refl _ _) _)).mono ?_); rintro e w1 ⟨rfl, Dm, hM, hP, hb⟩; rw [hsz_] at hM; have HMAP := Aside0.mk hM; have HPL := Aside0.mk hP; have HB := Aside0.mk (below_step (below_alloc (Below.refl _ _) _) hb); have BX := Aside0.mk (blk_below (blk_new w _) hb); have c0_ : w1.cell? ⟨w.heap.size, 0, none⟩ = some (.int .i64 a0_0) := (blk_cell BX.out 0).trans rfl; have c1_ : w1.cell? ⟨w.heap.size, 1, none⟩ = some (.slice A0_1 l0_1.length c0_1) := (blk_cell BX.out 1).trans rfl; clear hM hP hb) | (at_lookup; refine wpList_lookup_own_ok_int _ rfl _ _ 57 rfl 9 3 .i64 mlaw Try.underlying57 Try.underlying3 (mzero _) _ _ _ rfl HMAP.out _ _ rfl HKEY.out ?_; intro c hat hwc; have HAT := Aside0.mk hat; clear hat hwc; have hhas : Go.Maps.has Dm (.string a1.data.toList) = true := by rw [HPL.out.has_]; exact decide_eq_true HMEM.out) | (go_at_call 18; (refine (disk_May.calls k _ _ _ l0_1 false _ (Kd.C_below HR.out HB.out) hc0_1 HM.out).mono ?_); rintro e w2 ⟨rfl, hb2⟩; have HB2 := Aside0.mk (below_step HB.out hb2); clear hb2))
          go_ret
          exact ⟨by rw [← ER.out]; rfl, HB2.out⟩
      · rw [if_neg hm] at h
        have HMEM := Aside0.mk hm
        have ER := Aside0.mk (Option.some.inj h)
        clear h hm
        go_enter Try.func21, Try.ntmps21
        go_wp2_with (first | (go_at_call 35; (refine (A35 _ (below_alloc (Below.refl _ _) _)).mono ?_); rintro e w1 ⟨rfl, Dm, hM, hP, hb⟩; rw [hsz_] at hM; have HMAP := Aside0.mk hM; have HPL := Aside0.mk hP; have HB := Aside0.mk (below_step (below_alloc (Below.refl _ _) _) hb); have BX := Aside0.mk (blk_below (blk_new w _) hb); have c0_ : w1.cell? ⟨w.heap.size, 0, none⟩ = some (.int .i64 a0_0) := (blk_cell BX.out 0).trans rfl; have c1_ : w1.cell? ⟨w.heap.size, 1, none⟩ = some (.slice A0_1 l0_1.length c0_1) := (blk_cell BX.out 1).trans rfl; clear hM hP hb) | (at_lookup; refine wpList_lookup_own_ok_int _ rfl _ _ 57 rfl 9 3 .i64 mlaw Try.underlying57 Try.underlying3 (mzero _) _ _ _ rfl HMAP.out _ _ rfl HKEY.out ?_; intro c hat hwc; have HAT := Aside0.mk hat; clear hat hwc; have hhas : Go.Maps.has Dm (.string a1.data.toList) = false := by rw [HPL.out.has_]; exact decide_eq_false HMEM.out))
        go_ret
        exact ⟨by rw [← ER.out]; rfl, HB.out⟩
    · rw [if_neg hs1] at h
      exact absurd h (by simp)
  · rw [if_neg hs] at h
    exact absurd h (by simp)
end
end Go.Proofs.Ytaldbabkdoabkaa.T

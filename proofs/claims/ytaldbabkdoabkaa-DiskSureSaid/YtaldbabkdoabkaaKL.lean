import Derived.Test.YtaldbabkdoabkaaProg
import Derived.Test.YtaldbabkdoabkaaQV
import Derived.Test.YtaldbabkdoabkaaQA
import Derived.Test.YtaldbabkdoabkaaQJ
import Derived.Test.YtaldbabkdoabkaaQL
import Derived.Test.YtaldbabkdoabkaaQU
import Derived.Test.YtaldbabkdoabkaaQW
import Derived.Test.YtaldbabkdoabkaaP0
namespace Go.Proofs.Ytaldbabkdoabkaa.T
open Go.RowKit Go.Proofs.YtaldbabkdoabkaaW.PrintWords Go.Proofs.YtaldbabkdoabkaaW.PrintLast Go.Proofs.YtaldbabkdoabkaaW.PrintMore
attribute [local go_sem] max2_int min2_int max_two min_two max_three min_three max_four min_four   -- for this text's walks alone
set_option linter.unusedVariables false
set_option linter.unusedSimpArgs false
/-! ### DiskKeeps, in plain words -/
open Go.Proofs.Ytaldbabkdoabkaa.Plain
theorem at_unique {l : List S48} {a : ByteArray} (hs : l.Pairwise (fun a b => ltX a b = true)) (hx : isX a l = true) {y : S48} (hy : y ∈ l) (e : y.f0.toList = a.toList) : y = atX a l := by
  obtain ⟨l1, l2, el, _, hn, g1, g2⟩ := split_at hs hx
  rw [el] at hy
  rcases List.mem_append.1 hy with h | h
  · exact absurd (e.trans hn.symm) (lt_ne (g1 y h))
  · rcases List.mem_cons.1 h with h | h
    · exact h
    · exact absurd (hn.trans e.symm) (lt_ne (g2 y h))
theorem at_name {l : List S48} {a : ByteArray} (hs : l.Pairwise (fun a b => ltX a b = true)) (hx : isX a l = true) : (atX a l).f0.toList = a.toList := (split_at hs hx).choose_spec.choose_spec.2.2.1
theorem isX_of {l : List S48} {a : ByteArray} {y : S48} (hy : y ∈ l) (e : y.f0.toList = a.toList) : isX a l = true := decide_eq_true (isX_iff.2 ⟨y, hy, e⟩)
theorem delX_mem {a : ByteArray} {l : List S48} {y : S48} : y ∈ delX a l ↔ y ∈ l ∧ y.f0.toList ≠ a.toList := by
  unfold delX keepX
  rw [List.mem_filter]
  simp
/-- what is done leaves every other name's file -/
theorem doP_keeps (cap : Int) (l : List S48) (kind : Int) (a b : ByteArray) (d : List Int) (hs : l.Pairwise (fun a b => ltX a b = true)) (hkd : ¬ (kind < 0 ∨ 4 ≤ kind)) (u : Bool) (v : Int) (x : S48) (e1 : ¬ x.f0.toList = a.toList) (e2 : ¬ (x.f0.toList = b.toList ∧ kind = 2)) :
    x ∈ (doP cap l kind a b d v u).1 ↔ x ∈ l := by
  unfold doP
  by_cases k0 : kind = 0
  · rw [if_pos k0]
    split
    · exact Iff.rfl
    · split
      · exact Iff.rfl
      · rw [insX_mem]
        exact ⟨fun h => h.resolve_right (fun e => e1 (by rw [e])), .inl⟩
  rw [if_neg k0]
  by_cases k1 : kind = 1
  · rw [if_pos k1]
    split
    · rename_i hx
      have hp := posX_lt hx
      have hne : ∀ y : S48, y.f0.toList = a.toList → x ≠ y := fun y hy e => e1 (by rw [e, hy])
      have hat := at_name hs hx
      refine ⟨fun h => ?_, fun h => ?_⟩
      · rcases List.mem_or_eq_of_mem_set h with h | h
        · exact h
        · exact absurd h (hne _ hat)
      · obtain ⟨j, hj⟩ := List.mem_iff_getElem?.1 h
        refine List.mem_iff_getElem?.2 ⟨j, ?_⟩
        rw [List.getElem?_set_ne]
        · exact hj
        · intro e
          rw [← e, atX_at hx] at hj
          exact hne _ hat (Option.some.inj hj).symm
    · exact Iff.rfl
  rw [if_neg k1]
  by_cases k2 : kind = 2
  · rw [if_pos k2]
    have e3 : x.f0.toList ≠ b.toList := fun h => e2 ⟨h, k2⟩
    split
    · exact Iff.rfl
    · split
      · split
        · exact Iff.rfl
        · rw [insX_mem, delX_mem, delX_mem]
          exact ⟨fun h => (h.resolve_right (fun e => e3 (by rw [e]))).1.1, fun h => .inl ⟨⟨h, e1⟩, e3⟩⟩
      · exact Iff.rfl
  · rw [if_neg k2]
    split
    · rw [delX_mem]
      exact ⟨fun h => h.1, fun h => ⟨h, e1⟩⟩
    · exact Iff.rfl
theorem same_at {l m : List S48} {nm : ByteArray} (hl : l.Pairwise (fun a b => ltX a b = true)) (hm : m.Pairwise (fun a b => ltX a b = true)) (h : ∀ x : S48, x.f0.toList = nm.toList → (x ∈ m ↔ x ∈ l)) : isX nm l = isX nm m ∧ (isX nm l = true → atX nm l = atX nm m) := by
  have key : isX nm l = true → isX nm m = true := fun hx => isX_of ((h _ (at_name hl hx)).2 (atX_mem hx)) (at_name hl hx)
  have key2 : isX nm m = true → isX nm l = true := fun hx => isX_of ((h _ (at_name hm hx)).1 (atX_mem hx)) (at_name hm hx)
  refine ⟨?_, fun hx => at_unique hm (key hx) ((h _ (at_name hl hx)).2 (atX_mem hx)) (at_name hl hx)⟩
  cases h1 : isX nm l with
  | true => exact (key h1).symm
  | false =>
    cases h2 : isX nm m with
    | true => rw [key2 h2] at h1; cases h1
    | false => rfl
theorem read_len {cap : Int} {l : List S48} {nm : ByteArray} (hs : Sm l) : (readQ cap l nm).1.length ≤ 500 := by
  unfold readQ
  split
  · split
    · rename_i hx
      have := (hs.2 _ (atX_mem hx)).1
      show (atX nm l).f1.length ≤ 500
      omega
    · exact Nat.zero_le _
  · exact Nat.zero_le _
theorem keeps_of {cap : Int} {l m : List S48} {nm : ByteArray} (h1 : mayB cap l = true) (h2 : mayB cap m = true) (h : ∀ x : S48, x.f0.toList = nm.toList → (x ∈ m ↔ x ∈ l)) :
    readQ cap l nm = readQ cap m nm ∧ ((findQ cap l nm < 0 ∧ findQ cap m nm < 0) ∨ ∃ i k : Nat, findQ cap l nm = (i : Int) ∧ findQ cap m nm = (k : Int) ∧ i < l.length ∧ k < m.length ∧ (rd_T48 l (i : Int)).f2 = (rd_T48 m (k : Int)).f2) := by
  obtain ⟨g1, g2⟩ := same_at (may_parts h1).2.1 (may_parts h2).2.1 h
  unfold readQ findQ findI
  rw [if_pos h1, if_pos h2, if_pos h1, if_pos h2]
  cases hx : isX nm l with
  | false =>
    rw [hx] at g1
    rw [← g1]
    exact ⟨by rw [if_neg (by simp), if_neg (by simp)], .inl ⟨by simp, by simp⟩⟩
  | true =>
    have e := g2 hx
    rw [hx] at g1
    rw [← g1, if_pos rfl, if_pos rfl, if_pos rfl, if_pos rfl]
    refine ⟨by rw [e], .inr ⟨posX nm l, posX nm m, rfl, rfl, posX_lt hx, posX_lt g1.symm, ?_⟩⟩
    show (atX nm l).f2 = (atX nm m).f2
    rw [e]
theorem keeps_law {cap : Int} {l : List S48} {kind : Int} {a b : ByteArray} {d : List Int} {nm : ByteArray} (hf : fewB l = true) (hfo : fewO a b d = true) (e1 : ¬ nm.toList = a.toList) (e2 : ¬ (nm.toList = b.toList ∧ kind = 2)) :
    Sm (doQ cap l kind a b d).1 ∧ (readQ cap l nm = readQ cap (doQ cap l kind a b d).1 nm ∧ (readQ cap l nm).1.length ≤ 500) ∧
      ((findQ cap l nm < 0 ∧ findQ cap (doQ cap l kind a b d).1 nm < 0) ∨ ∃ i k : Nat, findQ cap l nm = (i : Int) ∧ findQ cap (doQ cap l kind a b d).1 nm = (k : Int) ∧ i < l.length ∧ k < (doQ cap l kind a b d).1.length ∧ (rd_T48 l (i : Int)).f2 = (rd_T48 (doQ cap l kind a b d).1 (k : Int)).f2) := by
  obtain ⟨h70, hx⟩ := few_sm hf
  have hs := sm_of_few hf
  have hq := doQ_small cap l kind a b d (fun x hxx => hx x hxx) hfo
  refine ⟨sm_okf (by omega) hq.2, ?_⟩
  have hl := read_len (cap := cap) (nm := nm) hs
  by_cases he : (doQ cap l kind a b d).2 = 0
  · obtain ⟨m1, m2, _, m4, m5⟩ := doQ_may cap l kind a b d he
    have hk : ∀ x : S48, x.f0.toList = nm.toList → (x ∈ (doQ cap l kind a b d).1 ↔ x ∈ l) := fun x hx => by
      rw [m5]
      exact doP_keeps cap l kind a b d (may_parts m1).2.1 m4 _ _ x (by rw [hx]; exact e1) (by rw [hx]; exact e2)
    obtain ⟨g1, g2⟩ := keeps_of m1 m2 hk
    exact ⟨⟨g1, hl⟩, g2⟩
  · rw [doQ_same cap l kind a b d he]
    refine ⟨⟨rfl, hl⟩, ?_⟩
    unfold findQ findI
    split
    · split
      · rename_i hx
        exact .inr ⟨posX nm l, posX nm l, rfl, rfl, posX_lt hx, posX_lt hx, rfl⟩
      · exact .inl ⟨by omega, by omega⟩
    · exact .inl ⟨by omega, by omega⟩
end Go.Proofs.Ytaldbabkdoabkaa.T

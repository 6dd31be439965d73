import Derived.Test.YtkdbfeapfcflmaaPB
import Derived.Test.YtkdbfeapfcflmaaMa
/- Plain facts for Best: the two orders of hits. -/
namespace Go.Proofs.Ytkdbfeapfcflmaa.Plain
set_option linter.unusedVariables false
set_option linter.unusedSimpArgs false
open Go.RowKit Go.Proofs.Ytkdbfeapfcflmaa.T Go.Proofs.YtkdbfeapfcflmaaW.PrintWords Go.Proofs.YtkdbfeapfcflmaaW.PrintLast
theorem toList_data (a : ByteArray) : a.toList = a.data.toList := ByteArray.toList_eq a
theorem u8_eq_of (x y : UInt8) (h1 : ¬ x < y) (h2 : ¬ y < x) : x = y := by
  rw [UInt8.lt_iff_toNat_lt] at h1 h2
  exact UInt8.toNat_inj.1 (by omega)
theorem bl_cons (x y : UInt8) (r s : List UInt8) : Op.bytesLess (x :: r) (y :: s) = true ↔ x < y ∨ x = y ∧ Op.bytesLess r s = true := by
  rw [Op.bytesLess]
  by_cases h1 : x < y
  · simp [h1]
  · by_cases h2 : y < x
    · have h3 : ¬ x = y := by intro e; subst e; exact h1 h2
      simp [h1, h2, h3]
    · obtain rfl := u8_eq_of _ _ h1 h2
      simp [h1]
theorem bl_nil (s : List UInt8) : Op.bytesLess s [] = false := by cases s <;> simp [Op.bytesLess]
theorem bl_irr : ∀ a : List UInt8, Op.bytesLess a a = false
  | [] => bl_nil _
  | x :: r => by
    rw [← Bool.not_eq_true, bl_cons]
    rintro (h | ⟨_, h⟩)
    · exact absurd h (UInt8.lt_irrefl x)
    · rw [bl_irr r] at h; cases h
theorem bl_tr : ∀ a b c : List UInt8, Op.bytesLess a b = true → Op.bytesLess b c = true → Op.bytesLess a c = true
  | _, _, [], _, h => by rw [bl_nil] at h; cases h
  | _, [], _, h, _ => by rw [bl_nil] at h; cases h
  | [], y :: s, z :: t, _, _ => by simp [Op.bytesLess]
  | x :: r, y :: s, z :: t, h1, h2 => by
    rw [bl_cons] at *
    rcases h1 with h1 | ⟨e1, h1⟩
    · rcases h2 with h2 | ⟨e2, h2⟩
      · exact .inl (UInt8.lt_trans h1 h2)
      · subst e2; exact .inl h1
    · subst e1
      rcases h2 with h2 | ⟨e2, h2⟩
      · exact .inl h2
      · exact .inr ⟨e2, bl_tr r s t h1 h2⟩
theorem bl_tot : ∀ a b : List UInt8, a ≠ b → Op.bytesLess a b = true ∨ Op.bytesLess b a = true
  | [], [], h => absurd rfl h
  | [], _ :: _, _ => by simp [Op.bytesLess]
  | _ :: _, [], _ => by simp [Op.bytesLess]
  | x :: r, y :: s, h => by
    rw [bl_cons, bl_cons]
    by_cases h1 : x < y
    · exact .inl (.inl h1)
    · by_cases h2 : y < x
      · exact .inr (.inl h2)
      · obtain rfl := u8_eq_of _ _ h1 h2
        rcases bl_tot r s (fun e => h (by rw [e])) with h | h
        · exact .inl (.inr ⟨rfl, h⟩)
        · exact .inr (.inr ⟨rfl, h⟩)
def aheadB (a b : S27) : Bool := lessB b.f2 a.f2 || (!lessB a.f2 b.f2 && Op.bytesLess a.f0.toList b.f0.toList)
def soonerB (a b : S27) : Bool := decide (a.f1 < b.f1) || (decide (a.f1 = b.f1) && Op.bytesLess a.f0.toList b.f0.toList)
/-- a hit whose weight may be (within a machine's numbers) -/
def Hit (x : S27) : Prop := (U x.f2.f0 ∧ U x.f2.f1) ∧ okF x.f2 = true
def Good (l : List S27) : Prop := (∀ x ∈ l, Hit x) ∧ (idsOf l).Nodup
theorem good_id {l : List S27} (h : Good l) {x y : S27} (hx : x ∈ l) (hy : y ∈ l) (hne : x ≠ y) : x.f0.data.toList ≠ y.f0.data.toList := by
  intro e
  apply hne
  have hn := h.2
  unfold idsOf at hn
  clear h hne
  induction l with
  | nil => cases hx
  | cons z l ih =>
    rw [List.map_cons, List.nodup_cons] at hn
    rcases List.mem_cons.1 hx with rfl | hx'
    · rcases List.mem_cons.1 hy with rfl | hy'
      · rfl
      · exact absurd (List.mem_map.2 ⟨y, hy', e.symm⟩) hn.1
    · rcases List.mem_cons.1 hy with rfl | hy'
      · exact absurd (List.mem_map.2 ⟨x, hx', e⟩) hn.1
      · exact ih hx' hy' hn.2
theorem ltF_asymm {a b : S25} (h : ltF a b = true) : ltF b a = false := by
  simp only [ltF, decide_eq_true_eq, decide_eq_false_iff_not] at *
  omega
theorem ahead_order {l : List S27} (hg : Good l) : Order aheadB (fun x => x ∈ l) := by
  have hok : ∀ x, x ∈ l → okF x.f2 = true := fun x hx => (hg.1 x hx).2
  have hL : ∀ x y, x ∈ l → y ∈ l → lessB x.f2 y.f2 = ltF x.f2 y.f2 := fun x y hx hy => by unfold lessB; rw [hok x hx, hok y hy]; simp
  have hpos : ∀ x, x ∈ l → 0 < x.f2.f1.toNat := fun x hx => by
    have := hok x hx
    simp only [okF, Bool.and_eq_true, decide_eq_true_eq] at this
    omega
  have hA : ∀ x y, x ∈ l → y ∈ l → (aheadB x y = true ↔ ltF y.f2 x.f2 = true ∨ ltF x.f2 y.f2 = false ∧ Op.bytesLess x.f0.toList y.f0.toList = true) := fun x y hx hy => by
    unfold aheadB; rw [hL x y hx hy, hL y x hy hx]; simp
  have heq : ∀ x y, x ∈ l → y ∈ l → ltF x.f2 y.f2 = false → ltF y.f2 x.f2 = false → x.f2 = y.f2 := fun x y hx hy h1 h2 => frac_tot _ _ (hg.1 x hx).1 (hg.1 y hy).1 (hok x hx) (hok y hy) h1 h2
  refine ⟨fun a ha => ?_, fun a b c ha hb hc h1 h2 => ?_, fun a b ha hb hne => ?_⟩
  · rw [← Bool.not_eq_true, hA a a ha ha, ltF_irr, bl_irr]; simp
  · rw [hA _ _ ha hb] at h1
    rw [hA _ _ hb hc] at h2
    rw [hA _ _ ha hc]
    rcases h1 with h1 | ⟨n1, h1⟩
    · rcases h2 with h2 | ⟨n2, h2⟩
      · exact .inl (ltF_trans _ _ _ (hpos b hb) h2 h1)
      · cases q : ltF c.f2 b.f2 with
        | true => exact .inl (ltF_trans _ _ _ (hpos b hb) q h1)
        | false => rw [heq b c hb hc n2 q] at h1; exact .inl h1
    · cases q1 : ltF b.f2 a.f2 with
      | true =>
        rcases h2 with h2 | ⟨n2, h2⟩
        · exact .inl (ltF_trans _ _ _ (hpos b hb) h2 q1)
        · cases q : ltF c.f2 b.f2 with
          | true => exact .inl (ltF_trans _ _ _ (hpos b hb) q q1)
          | false => rw [heq b c hb hc n2 q] at q1; exact .inl q1
      | false =>
        have e1 := heq a b ha hb n1 q1
        rcases h2 with h2 | ⟨n2, h2⟩
        · rw [← e1] at h2; exact .inl h2
        · refine .inr ⟨by rw [e1]; exact n2, bl_tr _ _ _ h1 h2⟩
  · rw [hA _ _ ha hb, hA _ _ hb ha]
    cases q1 : ltF b.f2 a.f2 with
    | true => exact .inl (.inl rfl)
    | false =>
      cases q2 : ltF a.f2 b.f2 with
      | true => exact .inr (.inl rfl)
      | false =>
        rcases bl_tot a.f0.toList b.f0.toList (by rw [toList_data, toList_data]; exact good_id hg ha hb hne) with h | h
        · exact .inl (.inr ⟨rfl, h⟩)
        · exact .inr (.inr ⟨rfl, h⟩)
theorem sooner_order {l : List S27} (hn : (idsOf l).Nodup) (hid : ∀ x y, x ∈ l → y ∈ l → x ≠ y → x.f0.data.toList ≠ y.f0.data.toList) : Order soonerB (fun x => x ∈ l) := by
  have hS : ∀ x y : S27, soonerB x y = true ↔ x.f1 < y.f1 ∨ x.f1 = y.f1 ∧ Op.bytesLess x.f0.toList y.f0.toList = true := fun x y => by unfold soonerB; simp
  refine ⟨fun a ha => ?_, fun a b c ha hb hc h1 h2 => ?_, fun a b ha hb hne => ?_⟩
  · rw [← Bool.not_eq_true, hS, bl_irr]; simp
  · rw [hS] at *
    rcases h1 with h1 | ⟨e1, h1⟩ <;> rcases h2 with h2 | ⟨e2, h2⟩
    · exact .inl (by omega)
    · exact .inl (by omega)
    · exact .inl (by omega)
    · exact .inr ⟨by omega, bl_tr _ _ _ h1 h2⟩
  · rw [hS, hS]
    rcases Int.lt_trichotomy a.f1 b.f1 with h | h | h
    · exact .inl (.inl h)
    · rcases bl_tot a.f0.toList b.f0.toList (by rw [toList_data, toList_data]; exact hid a b ha hb hne) with h2 | h2
      · exact .inl (.inr ⟨h, h2⟩)
      · exact .inr (.inr ⟨h.symm, h2⟩)
    · exact .inr (.inl h)
/-- more rounds than any divisor wants -/
def KB : Nat := 40000000000000000000
theorem ahead_eq (k : Nat) (a b : S27) (ha : U a.f2.f0 ∧ U a.f2.f1) (hb : U b.f2.f0 ∧ U b.f2.f1) (hk : KB ≤ k) : best_Ahead.f k a.f0 a.f1 a.f2.f0 a.f2.f1 b.f0 b.f1 b.f2.f0 b.f2.f1 = some (aheadB a b) := by
  have hk' : 40000000000000000000 ≤ k := hk
  obtain ⟨m, rfl⟩ : ∃ m, k = m + 1 := ⟨k - 1, by omega⟩
  have h1 := ha.2; have h2 := hb.2; have h3 := ha.1; have h4 := hb.1
  unfold U at h1 h2 h3 h4
  unfold best_Ahead.f aheadB
  rw [less_eq m b.f2 a.f2 hb ha (by omega) (by omega), less_eq m a.f2 b.f2 ha hb (by omega) (by omega)]
  cases lessB b.f2 a.f2 <;> cases lessB a.f2 b.f2 <;> simp
theorem sooner_eq (a b : S27) : best_Sooner.f a.f0 a.f1 a.f2.f0 a.f2.f1 b.f0 b.f1 b.f2.f0 b.f2.f1 = some (soonerB a b) := by
  unfold best_Sooner.f soonerB
  by_cases h1 : a.f1 < b.f1
  · simp [h1]
  · by_cases h2 : a.f1 = b.f1
    · simp [h1, h2]
    · simp [h1, h2]
end Go.Proofs.Ytkdbfeapfcflmaa.Plain

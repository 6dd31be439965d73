import Derived.Test.YtbbmdakdghefnaaGreatDoorQPI
import Derived.Test.YtbbmdakdghefnaaGreatDoorQPJ
/- Texts of this claim, laid together by a program (merge.py): PW, PV, PU, Tx7. -/
/- Plain facts for Query: which nodes may be, and what weighs. -/
set_option maxHeartbeats 8000000
set_option maxRecDepth 100000
namespace Go.Proofs.YtbbmdakdghefnaaGreatDoor.Plain
set_option linter.unusedVariables false
set_option linter.unusedSimpArgs false
open Go.RowKit Go.Proofs.YtbbmdakdghefnaaGreatDoor.T Go.Proofs.YtbbmdakdghefnaaGreatDoorW.PrintWords Go.Proofs.YtbbmdakdghefnaaGreatDoorW.PrintLast Go.Proofs.YtbbmdakdghefnaaGreatDoorW.PrintMore
theorem rd37 (l : List S37) (i : Nat) (h : i < l.length) : rd_T37 l (i : Int) = l[i] := by
 unfold rd_T37; rw [Int.toNat_natCast, List.getD_eq_getElem?_getD, List.getElem?_eq_getElem h]
 rfl
theorem rdL3_nat (l : List (List ByteArray)) (i : Nat) (h : i < l.length) : rd_L3 l (i : Int) = l[i] := by
 unfold rd_L3; rw [Int.toNat_natCast, List.getD_eq_getElem?_getD, List.getElem?_eq_getElem h]
 rfl
theorem right1_eq (t : ByteArray) : f79.f t = some (!wordOk t) := by
 unfold f79.f f103.f wordOk
 by_cases h1 : (t.size : Int) > 0
 ·
  rw [if_pos h1]; have : 1 ≤ t.size := z161_; have e : decide ((t.size : Int) ≤ 32) = decide (t.size ≤ 32) := decide_eq_decide.2 z161_; simp [this, e]
 ·
  rw [if_neg h1]; have : ¬ 1 ≤ t.size := z161_; simp [this]
theorem index66 (l : List ByteArray) (hl : l.length ≤ 1000000) : ∀ (d i k : Nat), i + d = l.length → d < k → ∃ r : Int, f13.l0 k l (l.length : Int) (i : Int) = some r ∧ decide (r ≥ 0) = (l.drop i).any (fun t => !wordOk t) := by
 intro d
 induction d with
 | zero =>
  intro i k hd hk; obtain ⟨k, rfl⟩ : ∃ m, k = m + 1 := ⟨k - 1, z161_⟩; refine ⟨-1, ?_, ?_⟩
  · rw [f13.l0, if_neg z161_]
  · rw [List.drop_eq_nil_of_le z161_]; rfl
 | succ d ih =>
  intro i k hd hk; obtain ⟨k, rfl⟩ : ∃ m, k = m + 1 := ⟨k - 1, z161_⟩; have hi : i < l.length := z161_; rw [f13.l0, if_pos z161_, if_pos z161_, if_pos z161_, rdOf_nat l i hi, right1_eq, List.drop_eq_getElem_cons hi]; simp only [Option.bind_some, List.any_cons]
  cases h : wordOk l[i]
  · exact ⟨(i : Int), z219_, z219_⟩
  ·
   rw [if_neg z106_, Plain.w1 i z161_]; obtain ⟨r, h1, h2⟩ := ih (i + 1) k z161_ z161_; exact ⟨r, h1, by rw [h2]; simp⟩
theorem contains66 (l : List ByteArray) (hl : l.length ≤ 1000000) (k : Nat) (hk : l.length < k) : f42.f k l = some (l.any fun t => !wordOk t) := by
 obtain ⟨r, h1, h2⟩ := index66 l hl l.length 0 k z161_ hk; unfold f42.f f13.f; rw [show (0 : Int) = ((0 : Nat) : Int) from rfl, h1]; simp only [Option.bind_some]; rw [List.drop_zero] at h2; rw [← h2]
 rfl
/-- May a node of this kind be, at a place (its words may be). -/
def kindP (x : S37) (p : Int) : Bool :=
 if x.f0 = 0 then decide (x.f1.length = 1) && (decide (x.f2 = 0) && decide (x.f3 = 0))
 else if x.f0 = 1 then decide (2 ≤ x.f1.length) && (decide (x.f1.length ≤ 6) && (decide (x.f2 = 0) && decide (x.f3 = 0)))
 else if x.f0 = 2 ∨ x.f0 = 3 ∨ x.f0 = 4 then decide (x.f1.length = 0) && (decide (0 ≤ x.f2) && (decide (x.f2 < p) && (decide (0 ≤ x.f3) && decide (x.f3 < p))))
 else false
theorem op_part (n : Nat) (a b p : Int) : (if (n : Int) = 0 then (if a ≥ 0 then (if a < p then (if b ≥ 0 then (some (decide (b < p))) else (some false)) else (some false)) else (some false)) else (some false)) = some (decide (n = 0) && (decide (0 ≤ a) && (decide (a < p) && (decide (0 ≤ b) && decide (b < p))))) := by
 by_cases h1 : n = 0 <;> by_cases h2 : 0 ≤ a <;> by_cases h3 : a < p <;> by_cases h4 : 0 ≤ b <;> simp [h1, h2, h3, h4]
def rightP (x : S37) (p : Int) : Bool := x.f1.all wordOk && kindP x p
theorem any_all (l : List ByteArray) : (l.any fun t => !wordOk t) = !l.all wordOk := by
 induction l with
 | nil => rfl
 | cons a r ih => simp [ih]
theorem qright_eq (x : S37) (p : Int) (hl : x.f1.length ≤ 1000000) (k : Nat) (hk : x.f1.length + 1 < k) : f52.f k x.f0 x.f1 x.f2 x.f3 p = some (rightP x p) := by
 obtain ⟨k, rfl⟩ : ∃ m, k = m + 1 := ⟨k - 1, z161_⟩; unfold f52.f rightP; rw [contains66 x.f1 hl (k + 1) z161_, any_all]; generalize hA : x.f1.all wordOk = A
 have hz : x.f1.length = 0 → A = true := fun h => by
  rw [← hA, List.eq_nil_of_length_eq_zero h]; rfl
 have hn : ∀ f, f52.j0 (k + 1) p f x.f0 x.f1 x.f2 x.f3 = some (if x.f0 = 0 then f && decide (x.f1.length = 1) else if x.f0 = 1 then f && (decide (2 ≤ x.f1.length) && decide (x.f1.length ≤ 6)) else if x.f0 = 2 ∨ x.f0 = 3 ∨ x.f0 = 4 then decide (x.f1.length = 0) && (decide (0 ≤ x.f2) && (decide (x.f2 < p) && (decide (0 ≤ x.f3) && decide (x.f3 < p)))) else false) := by
  intro f; rw [f52.j0, op_part]
  by_cases e0 : x.f0 = 0
  ·
   rw [if_pos e0, if_pos e0]; have e : ((x.f1.length : Int) == 1) = decide (x.f1.length = 1) := decide_eq_decide.2 z161_
   cases f <;> simp [e]
  ·
   rw [if_neg e0, if_neg e0]
   by_cases e1 : x.f0 = 1
   ·
    rw [if_pos e1, if_pos e1]; cases f
    · simp
    ·
     by_cases h1 : (x.f1.length : Int) ≥ 2
     ·
      have h1' : 2 ≤ x.f1.length := z161_; have e : decide ((x.f1.length : Int) ≤ 6) = decide (x.f1.length ≤ 6) := decide_eq_decide.2 z161_; simp [h1, h1', e]
     ·
      have h1' : ¬ 2 ≤ x.f1.length := z161_; simp [h1, h1']
   ·
    rw [if_neg e1, if_neg e1]
    by_cases e2 : x.f0 = 2
    · simp [e2]
    ·
     by_cases e3 : x.f0 = 3
     · simp [e3]
     ·
      by_cases e4 : x.f0 = 4
      · simp [e4]
      · simp [e2, e3, e4]
 have hk2 : (if x.f2 = 0 then (if x.f3 = 0 then ((some !A).bind fun t10 => (f52.j0 (k + 1) p (!t10) x.f0 x.f1 x.f2 x.f3)) else (f52.j0 (k + 1) p false x.f0 x.f1 x.f2 x.f3)) else (f52.j0 (k + 1) p false x.f0 x.f1 x.f2 x.f3)) = f52.j0 (k + 1) p (decide (x.f2 = 0) && (decide (x.f3 = 0) && A)) x.f0 x.f1 x.f2 x.f3 := by
  by_cases h1 : x.f2 = 0
  ·
   rw [if_pos h1, decide_eq_true h1]
   by_cases h2 : x.f3 = 0
   · rw [if_pos h2, decide_eq_true h2]; simp
   · rw [if_neg h2, decide_eq_false h2]; simp
  · rw [if_neg h1, decide_eq_false h1]; simp
 refine hk2.trans ?_; rw [hn]; unfold kindP
 congr 1
 by_cases e0 : x.f0 = 0
 ·
  rw [if_pos e0, if_pos e0]
  cases A <;> cases decide (x.f1.length = 1) <;> cases decide (x.f2 = 0) <;> cases decide (x.f3 = 0) <;> rfl
 ·
  rw [if_neg e0, if_neg e0]
  by_cases e1 : x.f0 = 1
  ·
   rw [if_pos e1, if_pos e1]
   cases A <;> cases decide (2 ≤ x.f1.length) <;> cases decide (x.f1.length ≤ 6) <;> cases decide (x.f2 = 0) <;> cases decide (x.f3 = 0) <;> rfl
  ·
   rw [if_neg e1, if_neg e1]
   split
   ·
    by_cases hz' : x.f1.length = 0
    · rw [hz hz', Bool.true_and]
    · rw [decide_eq_false hz']; simp
   · simp
end Go.Proofs.YtbbmdakdghefnaaGreatDoor.Plain
/- Plain facts for Query: what weighs, node by node, in the program and in the document's answer. -/
namespace Go.Proofs.YtbbmdakdghefnaaGreatDoor.Plain
set_option linter.unusedVariables false
set_option linter.unusedSimpArgs false
open Go.RowKit Go.Proofs.YtbbmdakdghefnaaGreatDoor.T Go.Proofs.YtbbmdakdghefnaaGreatDoorW.PrintWords Go.Proofs.YtbbmdakdghefnaaGreatDoorW.PrintLast Go.Proofs.YtbbmdakdghefnaaGreatDoorW.PrintMore
theorem fold_mem (l : List ByteArray) : ∀ (acc : List ByteArray) (t : ByteArray), t ∈ l.foldl addB acc ↔ t ∈ acc ∨ t ∈ l := by
 induction l with
 | nil => intro acc t; simp
 | cons a r ih =>
  intro acc t; rw [List.foldl_cons, ih, addB_mem, List.mem_cons]
  grind
theorem fold_asc (l : List ByteArray) : ∀ (acc : List ByteArray), Asc acc → Asc (l.foldl addB acc) := by
 induction l with
 | nil => intro acc h; exact h
 | cons a r ih => intro acc h; exact ih _ (addB_asc acc a h)
/-- The words that may weigh in a node, as they come. -/
def rowFrom (rows : List (List ByteArray)) (x : S37) : List ByteArray := x.f1 ++ (if x.f0 ≥ 2 then rd_L3 rows x.f2 else []) ++ (if x.f0 = 2 ∨ x.f0 = 3 then rd_L3 rows x.f3 else [])
def rowP (rows : List (List ByteArray)) (x : S37) : List ByteArray := (rowFrom rows x).foldl addB []
def rowsP (q : List S37) (rows : List (List ByteArray)) : List (List ByteArray) := q.foldl (fun rows x => rows ++ [rowP rows x]) rows
def InvW (W : List ByteArray) (rows : List (List ByteArray)) : Prop := ∀ r ∈ rows, Asc r ∧ ∀ t ∈ r, t ∈ W
theorem right_told {x : S37} {p : Int} (h : rightP x p = true) : (∀ t ∈ x.f1, wordOk t = true) ∧ ((x.f0 = 0 ∨ x.f0 = 1) ∧ x.f1.length ≤ 6 ∨ (x.f0 = 2 ∨ x.f0 = 3 ∨ x.f0 = 4) ∧ x.f1 = [] ∧ 0 ≤ x.f2 ∧ x.f2 < p ∧ 0 ≤ x.f3 ∧ x.f3 < p) := by
 unfold rightP kindP at h; rw [Bool.and_eq_true] at h; refine ⟨fun t ht => List.all_eq_true.1 h.1 t ht, ?_⟩; have h2 := h.2; clear h
 by_cases e0 : x.f0 = 0
 ·
  rw [if_pos e0] at h2; simp only [Bool.and_eq_true, decide_eq_true_eq] at h2; exact .inl ⟨.inl e0, z161_⟩
 ·
  rw [if_neg e0] at h2
  by_cases e1 : x.f0 = 1
  ·
   rw [if_pos e1] at h2; simp only [Bool.and_eq_true, decide_eq_true_eq] at h2; exact .inl ⟨.inr e1, z161_⟩
  ·
   rw [if_neg e1] at h2
   by_cases e2 : x.f0 = 2 ∨ x.f0 = 3 ∨ x.f0 = 4
   ·
    rw [if_pos e2] at h2; simp only [Bool.and_eq_true, decide_eq_true_eq] at h2; exact .inr ⟨e2, List.eq_nil_of_length_eq_zero h2.1, h2.2⟩
   ·
    rw [if_neg e2] at h2; cases h2
theorem from_told (W : List ByteArray) (hl : W.length ≤ 100) (x : S37) (rows : List (List ByteArray)) (i : Nat) (hrl : rows.length = i) (hr : rightP x (i : Int) = true) (hv : InvW W rows) (hfw : ∀ t ∈ x.f1, t ∈ W) :
  (rowFrom rows x).length ≤ 206 ∧ (∀ t ∈ rowFrom rows x, t ∈ W) ∧ x.f1.length ≤ 6 ∧ ∀ a : Int, 0 ≤ a → a < (rows.length : Int) → (rd_L3 rows a).length ≤ 100 ∧ Asc (rd_L3 rows a) ∧ ∀ t ∈ rd_L3 rows a, t ∈ W := by
 obtain ⟨hw, hop⟩ := right_told hr
 have hrow : ∀ a : Int, 0 ≤ a → a < (rows.length : Int) → (rd_L3 rows a).length ≤ 100 ∧ Asc (rd_L3 rows a) ∧ ∀ t ∈ rd_L3 rows a, t ∈ W := by
  intro a h0 h1; obtain ⟨n, rfl⟩ : ∃ n : Nat, a = (n : Int) := ⟨a.toNat, z161_⟩; have hn : n < rows.length := z161_; rw [rdL3_nat rows n hn]; obtain ⟨p, w⟩ := hv _ (List.getElem_mem hn); exact ⟨by have := asc_len p w; omega, p, w⟩
 have hf1 : x.f1.length ≤ 6 := by
  rcases hop with ⟨_, h⟩ | ⟨_, h, _⟩
  · exact h
  · rw [h]; simp
 have hA : x.f0 ≥ 2 → 0 ≤ x.f2 ∧ x.f2 < (rows.length : Int) ∧ 0 ≤ x.f3 ∧ x.f3 < (rows.length : Int) := by
  intro h
  rcases hop with ⟨h', _⟩ | ⟨_, _, h1, h2, h3, h4⟩
  · omega
  · exact ⟨h1, z161_, h3, z161_⟩
 refine ⟨?_, ?_, hf1, hrow⟩
 ·
  unfold rowFrom; rw [List.length_append, List.length_append]
  have h1 : (if x.f0 ≥ 2 then rd_L3 rows x.f2 else []).length ≤ 100 := by
   split
   ·
    rename_i h
    exact (hrow _ (hA h).1 (hA h).2.1).1
   · simp
  have h2 : (if x.f0 = 2 ∨ x.f0 = 3 then rd_L3 rows x.f3 else []).length ≤ 100 := by
   split
   ·
    rename_i h
    exact (hrow _ (hA z161_).2.2.1 (hA z161_).2.2.2).1
   · simp
  omega
 ·
  intro t ht; unfold rowFrom at ht
  rcases List.mem_append.1 ht with ht | ht
  ·
   rcases List.mem_append.1 ht with ht | ht
   · exact hfw t ht
   ·
    split at ht
    ·
     rename_i h
     exact (hrow _ (hA h).1 (hA h).2.1).2.2 t ht
    · cases ht
  ·
   split at ht
   ·
    rename_i h
    exact (hrow _ (hA z161_).2.2.1 (hA z161_).2.2.2).2.2 t ht
   · cases ht
theorem inv_snoc {W : List ByteArray} {rows : List (List ByteArray)} {x : S37} (hv : InvW W rows) (hf : ∀ t ∈ rowFrom rows x, t ∈ W) : InvW W (rows ++ [rowP rows x]) := by
 intro r hr
 rcases List.mem_append.1 hr with hr | hr
 · exact hv r hr
 ·
  obtain rfl : r = rowP rows x := by simpa using hr
  refine ⟨fold_asc _ _ List.Pairwise.nil, fun t ht => ?_⟩
  rcases (fold_mem _ _ t).1 ht with h | h
  · cases h
  · exact hf t h
theorem rowsP_cons (x : S37) (q : List S37) (rows : List (List ByteArray)) : rowsP (x :: q) rows = rowsP q (rows ++ [rowP rows x]) := rfl
theorem rowsP_len : ∀ (q : List S37) (rows : List (List ByteArray)), (rowsP q rows).length = rows.length + q.length
 | [], rows => by simp [rowsP]
 | x :: q, rows => by rw [rowsP_cons, rowsP_len q]; simp; omega
section
variable (W : List ByteArray) (hW : ∀ t ∈ W, wordOk t = true) (hl : W.length ≤ 100) (q : List S37) (hq : q.length ≤ 12) (hr : ∀ (i : Nat) (h : i < q.length), rightP q[i] (i : Int) = true) (hf : ∀ (i : Nat) (h : i < q.length), ∀ t ∈ q[i].f1, t ∈ W)
include hW hl hq hr hf
theorem impl_loop : ∀ (d i k : Nat) (rows : List (List ByteArray)), i + d = q.length → rows.length = i → InvW W rows → 2100 + 2 * d ≤ k → ∃ k', 2000 ≤ k' ∧ f17.l0 k rows q (q.length : Int) (i : Int) = f17.l0 k' (rowsP (q.drop i) rows) q (q.length : Int) (q.length : Int) := by
 intro d
 induction d with
 | zero =>
  intro i k rows hd hrl hv hk
  obtain rfl : i = q.length := by omega
  exact ⟨k, z161_, by rw [List.drop_eq_nil_of_le z161_]; rfl⟩
 | succ d ih =>
  intro i k rows hd hrl hv hk; have hi : i < q.length := z161_; obtain ⟨h1, h2, h3, h4⟩ := from_told W hl q[i] rows i hrl (hr i hi) hv (hf i hi); obtain ⟨hw, hop⟩ := right_told (hr i hi); obtain ⟨k, rfl⟩ : ∃ m, k = m + 2 := ⟨k - 2, z161_⟩; have hown := own_eq q[i].f1 z161_; obtain ⟨oa, om⟩ := ownB_told q[i].f1
  have hstep : f17.l0 (k + 2) rows q (q.length : Int) (i : Int) = f17.l0 k (rows ++ [rowP rows q[i]]) q (q.length : Int) ((i + 1 : Nat) : Int) := by
   have c1 : (i : Int) < (q.length : Int) := z161_
   have hflag : ∀ f : Bool, f = decide (q[i].f0 = 2 ∨ q[i].f0 = 3) → f17.j1 (k + 1) rows (ownB q[i].f1) q (q.length : Int) (i : Int) q[i].f0 f q[i].f0 q[i].f1 q[i].f2 q[i].f3 = f17.l0 k (rows ++ [rowP rows q[i]]) q (q.length : Int) ((i + 1 : Nat) : Int) := by
    intro f hfl; rw [f17.j1, Plain.w1 i z161_]
    rcases hop with ⟨h0, _⟩ | ⟨h0, hn, a1, a2, b1, b2⟩
    ·
     have : f = false := by rw [hfl]; exact decide_eq_false z161_
     rw [if_neg (by rw [this]; decide), if_neg z161_, if_pos z161_]
     have e : ownB q[i].f1 = rowP rows q[i] := by
      refine asc_ext oa (fold_asc _ _ List.Pairwise.nil) (fun t => ?_); rw [om, rowP, fold_mem, rowFrom, if_neg z161_, if_neg z161_]
      simp
     rw [e]
    ·
     obtain ⟨la, pa, wa⟩ := h4 q[i].f2 a1 z161_; obtain ⟨lb, pb, wb⟩ := h4 q[i].f3 b1 z161_
     by_cases h23 : q[i].f0 = 2 ∨ q[i].f0 = 3
     ·
      have : f = true := by rw [hfl]; exact decide_eq_true h23
      rw [if_pos this, if_pos a1, if_pos z161_, if_pos b1, if_pos z161_, or_eq2 _ _ k pa pb (fun t ht => hW t (wa t ht)) (fun t ht => hW t (wb t ht)) z161_ z161_, Option.bind_some, if_pos z161_]
      have e : mU (rd_L3 rows q[i].f2) (rd_L3 rows q[i].f3) = rowP rows q[i] := by
       refine asc_ext (mU_asc _ _ pa pb) (fold_asc _ _ List.Pairwise.nil) (fun t => ?_); rw [mU_mem, rowP, fold_mem, rowFrom, if_pos z161_, if_pos h23, hn]
       simp
      rw [e]
     ·
      have : f = false := by rw [hfl]; exact decide_eq_false h23
      rw [if_neg (by rw [this]; decide), if_pos z161_, if_pos a1, if_pos z161_, if_pos z161_]
      have e : rd_L3 rows q[i].f2 = rowP rows q[i] := by
       refine asc_ext pa (fold_asc _ _ List.Pairwise.nil) (fun t => ?_); rw [rowP, fold_mem, rowFrom, if_pos z161_, if_neg h23, hn]
       simp
      rw [← e]
   rw [f17.l0, if_pos c1, if_pos z161_, if_pos c1, rd37 q i hi, hown, Option.bind_some]
   by_cases e2 : q[i].f0 = 2
   ·
    rw [if_pos e2]; exact hflag _ (by simp [e2])
   ·
    rw [if_neg e2]; exact hflag _ (by simp [e2, BEq.beq])
  obtain ⟨k', hk', he⟩ := ih (i + 1) k (rows ++ [rowP rows q[i]]) z161_ z223_ (inv_snoc hv h2) z161_; exact ⟨k', hk', by rw [hstep, he, List.drop_eq_getElem_cons hi, rowsP_cons]⟩
theorem impl_weigh (hp : 0 < q.length) (k : Nat) (hk : 4000 ≤ k) : f17.f k q = some (rd_L3 (rowsP q []) (((q.length - 1 : Nat)) : Int)) := by
 obtain ⟨k', hk', he⟩ := impl_loop W hW hl q hq hr hf q.length 0 k [] z161_ rfl (fun _ h => by cases h) z161_; unfold f17.f; rw [show (0 : Int) = ((0 : Nat) : Int) from rfl, he, List.drop_zero]; obtain ⟨n, rfl⟩ : ∃ n, k' = n + 1 := ⟨k' - 1, z161_⟩; have hlen := rowsP_len q []; rw [List.length_nil, Nat.zero_add] at hlen
 have hw : wrap64 (((rowsP q []).length : Int) - 1) = ((q.length - 1 : Nat) : Int) := by rw [hlen, wid z161_ z161_]; omega
 rw [f17.l0, if_neg z161_, hw, if_pos z161_, if_pos z161_]
 have hrr : ∀ (d i : Nat) (rows : List (List ByteArray)), i + d = q.length → rows.length = i → InvW W rows → InvW W (rowsP (q.drop i) rows) := by
  intro d
  induction d with
  | zero => intro i rows h1 h2 h3; rw [List.drop_eq_nil_of_le z161_]; exact h3
  | succ d ih =>
   intro i rows h1 h2 h3; have hi : i < q.length := z161_; rw [List.drop_eq_getElem_cons hi, rowsP_cons]; exact ih (i + 1) _ z161_ z223_ (inv_snoc h3 (from_told W hl q[i] rows i h2 (hr i hi) h3 (hf i hi)).2.1)
 have hinv := hrr q.length 0 [] z161_ rfl (fun _ h => by cases h); rw [List.drop_zero] at hinv
 have hlast : (rd_L3 (rowsP q []) ((q.length - 1 : Nat) : Int)).length ≤ 100 := by
  rw [rdL3_nat _ _ z161_]; obtain ⟨p, w⟩ := hinv _ (List.getElem_mem (show q.length - 1 < (rowsP q []).length from z161_)); have := asc_len p w; omega
 rw [f82.f, if_pos z161_, Option.bind_some]
end
end Go.Proofs.YtbbmdakdghefnaaGreatDoor.Plain
/- Plain facts for Query: which queries may be, their words, and who matches, in the program and in the document's answer. -/
namespace Go.Proofs.YtbbmdakdghefnaaGreatDoor.Plain
set_option linter.unusedVariables false
set_option linter.unusedSimpArgs false
open Go.RowKit Go.Proofs.YtbbmdakdghefnaaGreatDoor.T Go.Proofs.YtbbmdakdghefnaaGreatDoorW.PrintWords Go.Proofs.YtbbmdakdghefnaaGreatDoorW.PrintLast Go.Proofs.YtbbmdakdghefnaaGreatDoorW.PrintMore
/-- Are all nodes right from one on. -/
def allR (q : List S37) : Nat → Nat → Bool
 | 0, _ => true
 | d + 1, i => (match q[i]? with | some x => rightP x (i : Int) | none => true) && allR q d (i + 1)
theorem allR_told (q : List S37) : ∀ (d i : Nat), i + d = q.length → (allR q d i = true ↔ ∀ (j : Nat) (h : j < q.length), i ≤ j → rightP q[j] (j : Int) = true) := by
 intro d
 induction d with
 | zero => intro i hd; simp only [allR, true_iff]; intro j h hj; omega
 | succ d ih =>
  intro i hd; have hi : i < q.length := z161_; simp only [allR, List.getElem?_eq_getElem hi, Bool.and_eq_true, ih (i + 1) z161_]
  constructor
  ·
   rintro ⟨h1, h2⟩ j h hj
   by_cases e : j = i
   · subst e; exact h1
   · exact h2 j h z161_
  ·
   intro h; exact ⟨h i hi (Nat.le_refl _), fun j hj hij => h j hj z161_⟩
def lastRow (q : List S37) : List ByteArray := rd_L3 (rowsP q []) ((q.length - 1 : Nat) : Int)
def mayP (q : List S37) : Bool := decide (0 < q.length) && (decide (q.length ≤ 12) && (allR q q.length 0 && decide ((lastRow q).length ≤ 6)))
theorem flat_len : ∀ (q : List S37), (∀ x ∈ q, x.f1.length ≤ 6) → (q.flatMap S37.f1).length ≤ 6 * q.length
 | [], _ => by simp
 | x :: r, h => by
  have := flat_len r (fun y hy => h y (List.mem_cons_of_mem _ hy)); have := h x z219_; simp only [List.flatMap_cons, List.length_append, List.length_cons]; omega
/-- What the weighing wants, of nodes that are right. -/
theorem weigh_wants (q : List S37) (hq : q.length ≤ 12) (hr : allR q q.length 0 = true) :
  (∀ t ∈ q.flatMap S37.f1, wordOk t = true) ∧ (q.flatMap S37.f1).length ≤ 100 ∧ (∀ (i : Nat) (h : i < q.length), rightP q[i] (i : Int) = true) ∧ ∀ (i : Nat) (h : i < q.length), ∀ t ∈ q[i].f1, t ∈ q.flatMap S37.f1 := by
 have h1 := (allR_told q q.length 0 z161_).1 hr; have h2 : ∀ (i : Nat) (h : i < q.length), rightP q[i] (i : Int) = true := fun i h => h1 i h z161_
 have hx : ∀ x ∈ q, (∀ t ∈ x.f1, wordOk t = true) ∧ x.f1.length ≤ 6 := by
  intro x hx; obtain ⟨i, hi, rfl⟩ := List.getElem_of_mem hx; obtain ⟨a, b⟩ := right_told (h2 i hi); refine ⟨a, ?_⟩
  rcases b with ⟨_, b⟩ | ⟨_, b, _⟩
  · exact b
  · rw [b]; simp
 refine ⟨fun t ht => ?_, ?_, h2, fun i h t ht => List.mem_flatMap.2 ⟨_, List.getElem_mem h, ht⟩⟩
 ·
  obtain ⟨x, hxq, hxt⟩ := List.mem_flatMap.1 ht; exact (hx x hxq).1 t hxt
 ·
  have := flat_len q (fun x h => (hx x h).2); omega
theorem qmay_loop (q : List S37) (hF : q.length ≤ 1000) (hF8 : ∀ x ∈ q, x.f1.length ≤ 1000) : ∀ (d i k : Nat), i + d = q.length → 4100 + d ≤ k → f36.l0 k q q (q.length : Int) (i : Int) = if allR q d i = true then (if 0 < q.length then (if q.length ≤ 12 then (f17.f (k - d - 1) q).bind (fun t => some (decide ((t.length : Int) ≤ 6))) else some false) else some false) else some false := by
 intro d
 induction d with
 | zero =>
  intro i k hd hk; obtain ⟨k, rfl⟩ : ∃ m, k = m + 1 := ⟨k - 1, z161_⟩; rw [f36.l0, if_neg z161_, allR, if_pos rfl]
  by_cases h0 : 0 < q.length
  ·
   rw [if_pos (show (q.length : Int) > 0 from z161_), if_pos h0]
   by_cases h12 : q.length ≤ 12
   ·
    rw [if_pos (show (q.length : Int) ≤ 12 from z161_), if_pos h12]
    rfl
   · rw [if_neg (show ¬ (q.length : Int) ≤ 12 from z161_), if_neg h12]
  · rw [if_neg (show ¬ (q.length : Int) > 0 from z161_), if_neg h0]
 | succ d ih =>
  intro i k hd hk; obtain ⟨k, rfl⟩ : ∃ m, k = m + 1 := ⟨k - 1, z161_⟩; have hi : i < q.length := z161_; have h8 := hF8 _ (List.getElem_mem hi); rw [f36.l0, if_pos z161_, if_pos z161_, if_pos z161_, rd37 q i hi, qright_eq q[i] (i : Int) z161_ k z161_, Option.bind_some, Plain.w1 i z161_]
  have ha : allR q (d + 1) i = (rightP q[i] (i : Int) && allR q d (i + 1)) := by simp only [allR, List.getElem?_eq_getElem hi]
  rw [ha]
  cases h : rightP q[i] (i : Int)
  · simp
  · rw [if_pos rfl, ih (i + 1) k z161_ z161_, Bool.true_and, show k + 1 - (d + 1) - 1 = k - d - 1 from z161_]
theorem qmay_gen (q : List S37) (hF : q.length ≤ 1000) (hF8 : ∀ x ∈ q, x.f1.length ≤ 1000) (k : Nat) (hk : 4200 + q.length ≤ k) : f36.f k q = some (mayP q) := by
 have h := qmay_loop q hF hF8 q.length 0 k z161_ z161_; unfold f36.f; rw [show (0 : Int) = ((0 : Nat) : Int) from rfl, h]; unfold mayP
 by_cases hr : allR q q.length 0 = true
 ·
  rw [if_pos hr, hr]
  by_cases h0 : 0 < q.length
  ·
   rw [if_pos h0, decide_eq_true h0]
   by_cases h12 : q.length ≤ 12
   ·
    obtain ⟨a, b, c, e⟩ := weigh_wants q h12 hr; rw [if_pos h12, decide_eq_true h12, impl_weigh _ a b q h12 c e h0 _ z161_, Option.bind_some]; simp only [Bool.true_and]; exact congrArg some (decide_eq_decide.2 (by unfold lastRow; omega))
   · rw [if_neg h12, decide_eq_false h12]; simp
  · rw [if_neg h0, decide_eq_false h0]; simp
 · rw [if_neg hr, Bool.eq_false_iff.2 hr]; simp
theorem mayP_told {q : List S37} (h : mayP q = true) : 0 < q.length ∧ q.length ≤ 12 ∧ allR q q.length 0 = true ∧ (lastRow q).length ≤ 6 := by
 simpa [mayP] using h
end Go.Proofs.YtbbmdakdghefnaaGreatDoor.Plain
namespace Go.Proofs.YtbbmdakdghefnaaGreatDoor.T
open Go.RowKit Go.Proofs.YtbbmdakdghefnaaGreatDoorW.PrintWords Go.Proofs.YtbbmdakdghefnaaGreatDoorW.PrintLast Go.Proofs.YtbbmdakdghefnaaGreatDoorW.PrintMore
attribute [local go_sem] max2_int min2_int max_two min_two max_three min_three max_four min_four
set_option linter.unusedVariables false
set_option linter.unusedSimpArgs false
def f38.l0 : Nat → List (List Int) → Int → Int → Option (Int)
 | 0, _, _, _ => none
 | k + 1, x0, x7, x8 => if x8 < x7 then (if 0 ≤ x8 then (if x8 < (x0.length : Int) then ((f101.f k (rd_L5 x0 x8)).bind fun t10 => (if t10 = true then (some x8) else (f38.l0 k x0 x7 (wrap64 (x8 + 1))))) else (none)) else (none)) else (some (-1))
def f38.f (k : Nat) (l0 : List (List Int))  : Option (Int) := f38.l0 k l0 (l0.length : Int) 0
theorem f38.calls (k : Nat) (A0 : Option Addr) (c0 : Nat) (l0 : List (List Int))  (r : Int) (w : World) (hr0 : Kd.C (Kd.slice 3 (Kd.int .i64)) w A0 l0.length l0) (hc0 : l0.length ≤ c0) (h : f38.f k l0 = some r) :
  Calls Tryz.prog 184 #[.slice A0 l0.length c0, (.func (.func 144) #[] #[])] w fun e w' => e = .returned (.int .i64 r) ∧ Drawn0 w w' := by
 have HR0 := A_ hr0; have HC0 := A_ hc0; clear hr0 hc0; unfold f38.f at h; have H := h; clear h; have H' := A_ H; clear H; go_enter Tryz.func184, Tryz.ntmps184; go_wp2
 go_loopg [8] k (fun kq v8 w' => ∃ (x8_1 : Int), v8 = .int .i64 x8_1 ∧ Aside0 (f38.l0 kq l0 (l0.length : Int) x8_1 = some r) ∧ Aside0 (kq ≤ k) ∧ Drawn0 w w')
 case atStart => exact ⟨(0), z139_, H', ⟨Nat.le_refl _⟩, z207_⟩
 case round =>
  clear H'; obtain ⟨x8_1, rfl, HA, HK1, ⟨m1, rfl⟩⟩ := hrel
  cases gk with
  | zero => exact absurd HA.out (by simp [f38.l0])
  | succ k1 =>
  have H := HA.out; clear HA; simp only [f38.l0] at H; revert H; refine i1_ (fun c3b0 H => ?_) fun c3b0 H => ?_; rotate_left
  ·
   obtain rfl := sj_ H; go_wp2; go_ret; exact ⟨z139_, z207_⟩
  revert H; refine i3_ fun c4b0 H => ?_; revert H; refine i3_ fun c5b0 H => ?_; replace H := bm_ H; obtain ⟨t10, A60, H⟩ := H; have A6 := A_ A60; clear A60
  by_cases c7 : t10 = true
  ·
   subst c7; have H1 := tt_ H; clear H; have H := H1; clear H1; obtain rfl := sj_ H; obtain ⟨p11, q11, ad11, A11_0, c11_0, e11, hx11_0, hl11_0, hi11_0⟩ := pq_ (at_L5 HR0.out x8_1); cases e11; have HR11_0 := A_ hi11_0; have HC11_0 := A_ hl11_0; clear hi11_0 hl11_0
   go_wp2_with (first | (go_at_call 144; (with_reducible refine (f101.calls k1 _ _ (rd_L5 l0 x8_1) true _ ?side1 HC11_0.out A6.out).mono ?_); (case side1 => exact z209_); rintro e w' ⟨rfl, ⟨nd, rfl⟩⟩))
   go_ret; exact ⟨z139_, z207_⟩
  ·
   replace c7 := Bool.eq_false_iff.mpr c7; subst c7; have H1 := ff_ H; clear H; have H := H1; clear H1; have H' := A_ H; clear H; obtain ⟨p11, q11, ad11, A11_0, c11_0, e11, hx11_0, hl11_0, hi11_0⟩ := pq_ (at_L5 HR0.out x8_1); cases e11; have HR11_0 := A_ hi11_0; have HC11_0 := A_ hl11_0; clear hi11_0 hl11_0
   go_wp2_with (first | (go_at_call 144; (with_reducible refine (f101.calls k1 _ _ (rd_L5 l0 x8_1) false _ ?side1 HC11_0.out A6.out).mono ?_); (case side1 => exact z209_); rintro e w' ⟨rfl, ⟨nd, rfl⟩⟩))
   go_roundg k1
   case measure => have := HK1.out; omega
   case rel => exact ⟨(wrap64 (x8_1 + 1)), z139_, H', ⟨z148_⟩, z207_⟩
def f56.f (k : Nat) (l0 : List (List Int))  : Option (Bool) := (f38.f k l0).bind fun t10 => (some (decide (t10 ≥ 0)))
theorem f56.calls (k : Nat) (A0 : Option Addr) (c0 : Nat) (l0 : List (List Int))  (r : Bool) (w : World) (hr0 : Kd.C (Kd.slice 3 (Kd.int .i64)) w A0 l0.length l0) (hc0 : l0.length ≤ c0) (h : f56.f k l0 = some r) :
  Calls Tryz.prog 143 #[.slice A0 l0.length c0, (.func (.func 144) #[] #[])] w fun e w' => e = .returned (.bool r) ∧ Drawn0 w w' := by
 have HR0 := A_ hr0; have HC0 := A_ hc0; clear hr0 hc0; unfold f56.f at h; have H := h; clear h; replace H := bm_ H; obtain ⟨t10, A30, H⟩ := H; have A3 := A_ A30; clear A30; obtain rfl := sj_ H; go_enter Tryz.func143, Tryz.ntmps143
 go_wp2_with (first | ((with_reducible refine gate_callee (f := 184) rfl ?_); refine gl_ (some 7) Tryz.func184 #[.slice A0 l0.length c0, (.func (.func 144) #[] #[])] ?_; (with_reducible refine (f38.calls k _ _ l0  t10 _ ?side1 HC0.out A3.out).mono ?_); (case side1 => exact z208_); rintro e w' ⟨rfl, ⟨nd, rfl⟩⟩; refine ⟨_, rfl, ?_⟩))
 go_ret; exact ⟨z139_, z207_⟩
def f94.f (k : Nat) (l0 : List (List Int)) : Option (Bool) := (f56.f k l0).bind fun t10 => (some (!t10))
theorem f94.calls (k : Nat) (A0 : Option Addr) (c0 : Nat) (l0 : List (List Int)) (r : Bool) (w : World) (hr0 : Kd.C (Kd.slice 3 (Kd.int .i64)) w A0 l0.length l0) (hc0 : l0.length ≤ c0) (h : f94.f k l0 = some r) :
  Calls Tryz.prog 108 #[.slice A0 l0.length c0] w fun e w' => e = .returned (.bool r) ∧ Drawn0 w w' := by
 have HR0 := A_ hr0; have HC0 := A_ hc0; clear hr0 hc0; unfold f94.f at h; have H := h; clear h; replace H := bm_ H; obtain ⟨t10, A20, H⟩ := H; have A2 := A_ A20; clear A20; obtain rfl := sj_ H; go_enter Tryz.func108, Tryz.ntmps108
 go_wp2_with (first | ((with_reducible refine gate_callee (f := 143) rfl ?_); refine gl_ (some 4) Tryz.func143 #[.slice A0 l0.length c0, (.func (.func 144) #[] #[])] ?_; (with_reducible refine (f56.calls k _ _ l0  t10 _ ?side1 HC0.out A2.out).mono ?_); (case side1 => exact z208_); rintro e w' ⟨rfl, ⟨nd, rfl⟩⟩; refine ⟨_, rfl, ?_⟩))
 go_ret; exact ⟨z139_, z207_⟩
def f91.f (a0 : Int) (a1 : Int) : Option (Bool) := (f40.f a0).bind fun t10 => (if t10 = true then ((f40.f a1).bind fun t11 => (if t11 = true then (some (decide (a0 < a1))) else (some true))) else (some (decide (a0 < a1))))
theorem f91.calls (a0 : Int) (a1 : Int) (r : Bool) (w : World) (h : f91.f a0 a1 = some r) :
  Calls Tryz.prog 185 #[.int .i64 a0, .int .i64 a1] w fun e w' => e = .returned (.bool r) ∧ Drawn0 w w' := by
 unfold f91.f at h; have H := h; clear h; replace H := bm_ H; obtain ⟨t10, A30, H⟩ := H; have A3 := A_ A30; clear A30
 by_cases c4 : t10 = true
 ·
  subst c4; have H1 := tt_ H; clear H; have H := H1; clear H1; replace H := bm_ H; obtain ⟨t11, A50, H⟩ := H; have A5 := A_ A50; clear A50
  by_cases c6 : t11 = true
  ·
   subst c6; have H1 := tt_ H; clear H; have H := H1; clear H1; obtain rfl := sj_ H; go_enter Tryz.func185, Tryz.ntmps185
   go_wp2_with (first | ((with_reducible refine gate_callee (f := 128) rfl ?_); refine gl_ (some 6) Tryz.func128 #[.int .i64 a0] ?_; (with_reducible refine (f40.calls a0 true _ A3.out).mono ?_); rintro e w' ⟨rfl, ⟨nd, rfl⟩⟩; refine ⟨_, rfl, ?_⟩) | (go_at_call 128; (with_reducible refine (f40.calls a1 true _ A5.out).mono ?_); rintro e w' ⟨rfl, ⟨nd, rfl⟩⟩))
   go_ret; exact ⟨z139_, z207_⟩
  ·
   replace c6 := Bool.eq_false_iff.mpr c6; subst c6; have H1 := ff_ H; clear H; have H := H1; clear H1; obtain rfl := sj_ H; go_enter Tryz.func185, Tryz.ntmps185
   go_wp2_with (first | ((with_reducible refine gate_callee (f := 128) rfl ?_); refine gl_ (some 6) Tryz.func128 #[.int .i64 a0] ?_; (with_reducible refine (f40.calls a0 true _ A3.out).mono ?_); rintro e w' ⟨rfl, ⟨nd, rfl⟩⟩; refine ⟨_, rfl, ?_⟩) | (go_at_call 128; (with_reducible refine (f40.calls a1 false _ A5.out).mono ?_); rintro e w' ⟨rfl, ⟨nd, rfl⟩⟩))
   go_ret; exact ⟨z139_, z207_⟩
 ·
  replace c4 := Bool.eq_false_iff.mpr c4; subst c4; have H1 := ff_ H; clear H; have H := H1; clear H1; obtain rfl := sj_ H; go_enter Tryz.func185, Tryz.ntmps185
  go_wp2_with (first | ((with_reducible refine gate_callee (f := 128) rfl ?_); refine gl_ (some 6) Tryz.func128 #[.int .i64 a0] ?_; (with_reducible refine (f40.calls a0 false _ A3.out).mono ?_); rintro e w' ⟨rfl, ⟨nd, rfl⟩⟩; refine ⟨_, rfl, ?_⟩))
  go_ret; exact ⟨z139_, z207_⟩
def f12.l0 : Nat → List Int → Int → Int → Int → Int → Option (Int × Bool)
 | 0, _, _, _, _, _ => none
 | k + 1, x0, x1, x6, x7, x8 => if x7 < x8 then (if 0 ≤ (wrap64 ((IntKind.u64.wrap (wrap64 (x7 + x8))) / 2)) then (if (wrap64 ((IntKind.u64.wrap (wrap64 (x7 + x8))) / 2)) < (x0.length : Int) then ((f91.f (rd x0 (wrap64 ((IntKind.u64.wrap (wrap64 (x7 + x8))) / 2))) x1).bind fun t10 => (if t10 = true then (f12.l0 k x0 x1 x6 (wrap64 ((wrap64 ((IntKind.u64.wrap (wrap64 (x7 + x8))) / 2)) + 1)) x8) else (f12.l0 k x0 x1 x6 x7 (wrap64 ((IntKind.u64.wrap (wrap64 (x7 + x8))) / 2))))) else (none)) else (none)) else (if x7 < x6 then (if 0 ≤ x7 then (if x7 < (x0.length : Int) then (if (rd x0 x7) = x1 then (some (x7, true)) else ((f69.f (rd x0 x7)).bind fun t11 => (if t11 = true then ((f69.f x1).bind fun t12 => (some (x7, t12))) else (some (x7, false))))) else (none)) else (none)) else (some (x7, false)))
def f12.f (k : Nat) (l0 : List Int) (a1 : Int) : Option (Int × Bool) := f12.l0 k l0 a1 (l0.length : Int) 0 (l0.length : Int)
theorem f12.calls (k : Nat) (A0 : Option Addr) (c0 : Nat) (l0 : List Int) (a1 : Int) (r1 : Int) (r2 : Bool) (w : World) (hr0 : Kd.C (Kd.int .i64) w A0 l0.length l0) (hc0 : l0.length ≤ c0) (h : f12.f k l0 a1 = some (r1, r2)) :
  Calls Tryz.prog 146 #[.slice A0 l0.length c0, .int .i64 a1] w fun e w' => e = .returned (.tuple #[.int .i64 r1, .bool r2]) ∧ Drawn0 w w' := by
 have HR0 := A_ hr0; have HC0 := A_ hc0; clear hr0 hc0; have H : (f12.l0 k l0 a1 (l0.length : Int) 0 (l0.length : Int)) = some (r1, r2) := h; clear h; have H' := A_ H; clear H; go_enter Tryz.func146, Tryz.ntmps146; go_wp2
 go_loopg [7, 8] k (fun kq v7 v8 w' => ∃ (x7_1 : Int) (x8_1 : Int), v7 = .int .i64 x7_1 ∧ v8 = .int .i64 x8_1 ∧ Aside0 (f12.l0 kq l0 a1 (l0.length : Int) x7_1 x8_1 = some (r1, r2)) ∧ Aside0 (kq ≤ k) ∧ Drawn0 w w')
 case atStart => exact ⟨(0), ((l0.length : Int)), z139_, z139_, H', ⟨Nat.le_refl _⟩, z207_⟩
 case round =>
  clear H'; obtain ⟨x7_1, x8_1, rfl, rfl, HA, HK1, ⟨m1, rfl⟩⟩ := hrel
  cases gk with
  | zero => exact absurd HA.out (by simp [f12.l0])
  | succ k1 =>
  have H := HA.out; clear HA; simp only [f12.l0] at H; revert H; refine i1_ (fun c3b0 H => ?_) fun c3b0 H => ?_; rotate_left
  ·
   revert H; refine i1_ (fun c9b0 H => ?_) fun c9b0 H => ?_; rotate_left
   ·
    simp only [Option.some.injEq, Prod.mk.injEq] at H; obtain ⟨rfl, rfl⟩ := H; go_wp2
    go_ret2
    exact ⟨z139_, z207_⟩
   revert H; refine i3_ fun c10b0 H => ?_; revert H; refine i3_ fun c11b0 H => ?_; revert H; refine i2_ (fun c12 H => ?_) fun c12 H => ?_
   ·
    have c12b0 := beq_iff_eq.mpr c12; have c12b1 := bne_eq_false_iff_eq.mpr c12; clear c12; simp only [Option.some.injEq, Prod.mk.injEq] at H; obtain ⟨rfl, rfl⟩ := H; obtain ⟨p18, q18, ad18, e18, hx18_0⟩ := pq_ (Kd.at_int HR0.out x7_1); cases e18; go_wp2
    go_ret2
    exact ⟨z139_, z207_⟩
   have c12b0 := beq_eq_false_iff_ne.mpr c12; have c12b1 := bne_iff_ne.mpr c12; replace H := bm_ H; obtain ⟨t19, A20, H⟩ := H; have A13 := A_ A20; clear A20
   by_cases c14 : t19 = true
   ·
    subst c14; have H1 := tt_ H; clear H; have H := H1; clear H1; replace H := bm_ H; obtain ⟨t21, A22, H⟩ := H; have A15 := A_ A22; clear A22; simp only [Option.some.injEq, Prod.mk.injEq] at H; obtain ⟨rfl, rfl⟩ := H; obtain ⟨p18, q18, ad18, e18, hx18_0⟩ := pq_ (Kd.at_int HR0.out x7_1); cases e18; obtain ⟨p23, q23, ad23, e23, hx23_0⟩ := pq_ (Kd.at_int HR0.out x7_1); obtain rfl : ad18 = ad23 := (by injection e23)
    go_wp2_with (first | (go_at_call 186; (with_reducible refine (f69.calls (rd l0 x7_1) true _ A13.out).mono ?_); rintro e w' ⟨rfl, ⟨nd, rfl⟩⟩) | (go_at_call 186; (with_reducible refine (f69.calls a1 t21 _ A15.out).mono ?_); rintro e w' ⟨rfl, ⟨nd, rfl⟩⟩))
    go_ret2
    exact ⟨z139_, z207_⟩
   ·
    replace c14 := Bool.eq_false_iff.mpr c14; subst c14; have H1 := ff_ H; clear H; have H := H1; clear H1; simp only [Option.some.injEq, Prod.mk.injEq] at H; obtain ⟨rfl, rfl⟩ := H; obtain ⟨p18, q18, ad18, e18, hx18_0⟩ := pq_ (Kd.at_int HR0.out x7_1); cases e18; obtain ⟨p23, q23, ad23, e23, hx23_0⟩ := pq_ (Kd.at_int HR0.out x7_1); obtain rfl : ad18 = ad23 := (by injection e23)
    go_wp2_with (first | (go_at_call 186; (with_reducible refine (f69.calls (rd l0 x7_1) false _ A13.out).mono ?_); rintro e w' ⟨rfl, ⟨nd, rfl⟩⟩))
    go_ret2
    exact ⟨z139_, z207_⟩
  obtain ⟨ji4, hji4⟩ : ∃ j_ : Int, (wrap64 ((IntKind.u64.wrap (wrap64 (x7_1 + x8_1))) / 2)) = j_ := ⟨_, rfl⟩
  replace H : (if 0 ≤ (ji4) then (if (ji4) < (l0.length : Int) then ((f91.f (rd l0 (ji4)) a1).bind fun t16 => (if t16 = true then (f12.l0 k1 l0 a1 (l0.length : Int) (wrap64 ((ji4) + 1)) x8_1) else (f12.l0 k1 l0 a1 (l0.length : Int) x7_1 ji4))) else (none)) else (none)) = some (r1, r2) := by first | (rw [hji4] at H; exact H) | (simp only [hji4] at H ⊢; exact H)
  have hji4w : (IntKind.i64.wrap ((IntKind.u64.wrap (wrap64 (x7_1 + x8_1))) / 2)) = ji4 := (i64_w _).trans hji4; revert H; refine i3_ fun c5b0 H => ?_; revert H; refine i3_ fun c6b0 H => ?_; replace H := bm_ H; obtain ⟨t16, A70, H⟩ := H; have A7 := A_ A70; clear A70
  by_cases c8 : t16 = true
  ·
   subst c8; have H1 := tt_ H; clear H; have H := H1; clear H1; have H' := A_ H; clear H; obtain ⟨p17, q17, ad17, e17, hx17_0⟩ := pq_ (Kd.at_int HR0.out (ji4)); cases e17
   go_wp2_with (first | ((with_reducible refine gate_callee (f := 185) rfl ?_); refine goesL_ (some 27) rfl rfl Tryz.func185 z159_ rfl #[.int .i64 (rd l0 (ji4)), .int .i64 a1] rfl z0_ ?_; (with_reducible refine (f91.calls (rd l0 (ji4)) a1 true _ A7.out).mono ?_); rintro e w' ⟨rfl, ⟨nd, rfl⟩⟩; refine ⟨_, rfl, ?_⟩))
   go_roundg k1
   case measure => have := HK1.out; omega
   case rel => exact ⟨(wrap64 ((ji4) + 1)), (x8_1), z140_, z139_, H', ⟨z148_⟩, z207_⟩
  ·
   replace c8 := Bool.eq_false_iff.mpr c8; subst c8; have H1 := ff_ H; clear H; have H := H1; clear H1; have H' := A_ H; clear H; obtain ⟨p17, q17, ad17, e17, hx17_0⟩ := pq_ (Kd.at_int HR0.out (ji4)); cases e17
   go_wp2_with (first | ((with_reducible refine gate_callee (f := 185) rfl ?_); refine goesL_ (some 27) rfl rfl Tryz.func185 z159_ rfl #[.int .i64 (rd l0 (ji4)), .int .i64 a1] rfl z0_ ?_; (with_reducible refine (f91.calls (rd l0 (ji4)) a1 false _ A7.out).mono ?_); rintro e w' ⟨rfl, ⟨nd, rfl⟩⟩; refine ⟨_, rfl, ?_⟩))
   go_roundg k1
   case measure => have := HK1.out; omega
   case rel => exact ⟨(x7_1), (ji4), z139_, z140_, H', ⟨z148_⟩, z207_⟩
def f58.l0 : Nat → List Int → Int → Int → Int → Option (Int)
 | 0, _, _, _, _ => none
 | k + 1, x0, x1, x2, x7 => if (wrap64 (x1 + x7)) < (x0.length : Int) then (if 0 ≤ (wrap64 (x1 + x7)) then (if (rd x0 (wrap64 (x1 + x7))) < x2 then (f58.l0 k x0 (wrap64 (x1 + x7)) x2 (wrap64 (2 * x7))) else (if 0 ≤ x1 then (if x1 ≤ (mn (x0.length : Int) (wrap64 ((wrap64 (x1 + x7)) + 1))) then (if (mn (x0.length : Int) (wrap64 ((wrap64 (x1 + x7)) + 1))) ≤ (x0.length : Int) then ((f12.f k ((x0.take ((mn (x0.length : Int) (wrap64 ((wrap64 (x1 + x7)) + 1))) : Int).toNat).drop (x1 : Int).toNat) x2).bind fun bt10 => (some (wrap64 (x1 + bt10.1)))) else (none)) else (none)) else (none))) else (none)) else (if 0 ≤ x1 then (if x1 ≤ (mn (x0.length : Int) (wrap64 ((wrap64 (x1 + x7)) + 1))) then (if (mn (x0.length : Int) (wrap64 ((wrap64 (x1 + x7)) + 1))) ≤ (x0.length : Int) then ((f12.f k ((x0.take ((mn (x0.length : Int) (wrap64 ((wrap64 (x1 + x7)) + 1))) : Int).toNat).drop (x1 : Int).toNat) x2).bind fun bt11 => (some (wrap64 (x1 + bt11.1)))) else (none)) else (none)) else (none))
def f58.f (k : Nat) (l0 : List Int) (a1 : Int) (a2 : Int) : Option (Int) := f58.l0 k l0 a1 a2 1
theorem f58.calls (k : Nat) (A0 : Option Addr) (c0 : Nat) (l0 : List Int) (a1 : Int) (a2 : Int) (r : Int) (w : World) (hr0 : Kd.C (Kd.int .i64) w A0 l0.length l0) (hc0 : l0.length ≤ c0) (h : f58.f k l0 a1 a2 = some r) :
  Calls Tryz.prog 111 #[.slice A0 l0.length c0, .int .i64 a1, .int .i64 a2] w fun e w' => e = .returned (.int .i64 r) ∧ Below w.heap.size w w' := by
 have HR0 := A_ hr0; have HC0 := A_ hc0; clear hr0 hc0; have HB := A_ (Below.refl w.heap.size w); unfold f58.f at h; have H := h; clear h; have H' := A_ H; clear H; go_enter Tryz.func111, Tryz.ntmps111; go_wp2
 go_loopg [1, 7] k (fun kq v1 v7 w' => ∃ (x1_1 : Int) (x7_1 : Int), v1 = .int .i64 x1_1 ∧ v7 = .int .i64 x7_1 ∧ Aside0 (f58.l0 kq l0 x1_1 a2 x7_1 = some r) ∧ Aside0 (kq ≤ k) ∧ Aside0 (Below w.heap.size w w'))
 case atStart => exact ⟨(a1), (1), z139_, z139_, H', ⟨Nat.le_refl _⟩, ⟨z186_⟩⟩
 case round =>
  clear H'; obtain ⟨x1_1, x7_1, rfl, rfl, HA, HK1, HB⟩ := hrel
  cases gk with
  | zero => exact absurd HA.out (by simp [f58.l0])
  | succ k1 =>
  have H := HA.out; clear HA; simp only [f58.l0] at H; revert H; refine i1_ (fun c4b0 H => ?_) fun c4b0 H => ?_; rotate_left
  ·
   obtain ⟨ji14, hji14⟩ : ∃ j_ : Int, (mn (l0.length : Int) (wrap64 ((wrap64 (x1_1 + x7_1)) + 1))) = j_ := ⟨_, rfl⟩
   replace H : (if 0 ≤ x1_1 then (if x1_1 ≤ (ji14) then (if (ji14) ≤ (l0.length : Int) then ((f12.f k1 ((l0.take ((ji14) : Int).toNat).drop (x1_1 : Int).toNat) a2).bind fun bt25 => (some (wrap64 (x1_1 + bt25.1)))) else (none)) else (none)) else (none)) = some r := by first | (rw [hji14] at H; exact H) | (simp only [hji14] at H ⊢; exact H)
   have hji14_ : (if (wrap64 ((wrap64 (x1_1 + x7_1)) + 1)) < (l0.length : Int) then (wrap64 ((wrap64 (x1_1 + x7_1)) + 1)) else (l0.length : Int)) = ji14 := hji14; revert H; refine i2_ (fun c15 H => ?_) fun c15 H => ?_; rotate_left
   · exact absurd H z219_
   have c15b0 := eq_true c15; have c15b1 := decide_eq_true c15; clear c15; revert H; refine i4_ fun c16 H => ?_; have c16b0 := eq_true c16; have c16b1 := decide_eq_true c16; clear c16; revert H; refine i4_ fun c17 H => ?_; have c17b0 := eq_true c17; have c17b1 := decide_eq_true c17; clear c17; replace H := bm_ H; obtain ⟨⟨t25, t26⟩, A27, H⟩ := H; replace H : (some (wrap64 (x1_1 + t25))) = some r := H; have A18 := A_ A27; clear A27; obtain rfl := sj_ H; obtain ⟨i019, hi019, _, hsz19, _⟩ := info_parts info3; obtain ⟨A19, hcut19, hA19, hC19⟩ := print_mid_of (P := Tryz.prog) (Value.int .i64) 0 42 3 .i64 .i64 Tryz.underlying42 hi019 hsz19 A0 c0 l0 x1_1 (ji14) (of_decide_eq_true z133_) z231_ (of_decide_eq_true z133_) HC0.out; have HR28 := A_ (Kd.C_of_reads (h1 := fun _ => rfl) (hA19 _ (Kd.reads_of_C HR0.out))); have HC28 := A_ hC19; clear hA19 hC19 hi019 hsz19
   go_wp2_with (first | ((with_reducible refine gate_callee (f := 146) rfl ?_); refine goesL_ (some 45) rfl rfl Tryz.func146 z159_ rfl #[.slice A19 ((l0.take ((ji14) : Int).toNat).drop (x1_1 : Int).toNat).length (c0 - x1_1.toNat), .int .i64 a2] rfl (by (try simp only [List.map_toArray, List.map_cons, List.map_nil]); first | done | (rw [show ((l0.take ((ji14) : Int).toNat).drop (x1_1 : Int).toNat).length = ((ji14).toNat - x1_1.toNat) from (by rw [List.length_drop, List.length_take]; have h_ : ((ji14) : Int) ≤ (l0.length : Int) := of_decide_eq_true z133_; omega)] <;> rfl) | (simp only [hji14]; rfl) | rfl | (simp only [List.length_drop, List.length_take]; rfl)) ?_; (with_reducible refine (f12.calls k1 _ _ ((l0.take ((ji14) : Int).toNat).drop (x1_1 : Int).toNat) a2 t25 t26 _ ?side1 HC28.out A18.out).mono ?_); (case side1 => repeat (first | exact (Kd.C_below HR28.out HB.out) | (with_reducible refine Kd.C_alloc ?_ _) | (with_reducible refine Kd.C_drewN ?_ _) | (with_reducible refine Kd.C_drew ?_))); rintro e w' ⟨rfl, ⟨nd, rfl⟩⟩; refine ⟨_, rfl, ?_⟩))
   go_ret; exact ⟨by first | rfl | (simp [errW_none, errW_some] <;> rfl) | (simp only [← hji14]; first | rfl | (simp [errW_none, errW_some] <;> rfl)) | (simp [*, errW_none, errW_some] <;> rfl), z186_⟩
  obtain ⟨ji5, hji5⟩ : ∃ j_ : Int, (wrap64 (x1_1 + x7_1)) = j_ := ⟨_, rfl⟩; replace H : (if 0 ≤ (ji5) then (if (rd l0 (ji5)) < a2 then (f58.l0 k1 l0 ji5 a2 (wrap64 (2 * x7_1))) else (if 0 ≤ x1_1 then (if x1_1 ≤ (mn (l0.length : Int) (wrap64 ((ji5) + 1))) then (if (mn (l0.length : Int) (wrap64 ((ji5) + 1))) ≤ (l0.length : Int) then ((f12.f k1 ((l0.take ((mn (l0.length : Int) (wrap64 ((ji5) + 1))) : Int).toNat).drop (x1_1 : Int).toNat) a2).bind fun bt20 => (some (wrap64 (x1_1 + bt20.1)))) else (none)) else (none)) else (none))) else (none)) = some r := z122_
  (try rw [hji5] at c4b0)
  have hji5w : (IntKind.i64.wrap (x1_1 + x7_1)) = ji5 := (i64_w _).trans hji5; revert H; refine i3_ fun c6b0 H => ?_; revert H; refine i1_ (fun c7b0 H => ?_) fun c7b0 H => ?_
  ·
   have H' := A_ H; clear H; obtain ⟨p21, q21, ad21, e21, hx21_0⟩ := pq_ (Kd.at_int HR0.out (ji5)); cases e21; replace hx21_0 := hc_ HB.out hx21_0; go_wp2
   go_roundg k1
   case measure => have := HK1.out; omega
   case rel => exact ⟨(ji5), (wrap64 (2 * x7_1)), z141_, z139_, H', ⟨z148_⟩, ⟨z186_⟩⟩
  obtain ⟨ji8, hji8⟩ : ∃ j_ : Int, (mn (l0.length : Int) (wrap64 ((ji5) + 1))) = j_ := ⟨_, rfl⟩
  replace H : (if 0 ≤ x1_1 then (if x1_1 ≤ (ji8) then (if (ji8) ≤ (l0.length : Int) then ((f12.f k1 ((l0.take ((ji8) : Int).toNat).drop (x1_1 : Int).toNat) a2).bind fun bt20 => (some (wrap64 (x1_1 + bt20.1)))) else (none)) else (none)) else (none)) = some r := by first | (rw [hji8] at H; exact H) | (simp only [hji8] at H ⊢; exact H)
  have hji8_ : (if (wrap64 ((ji5) + 1)) < (l0.length : Int) then (wrap64 ((ji5) + 1)) else (l0.length : Int)) = ji8 := hji8; revert H; refine i4_ fun c9 H => ?_; have c9b0 := eq_true c9; have c9b1 := decide_eq_true c9; clear c9; revert H; refine i4_ fun c10 H => ?_; have c10b0 := eq_true c10; have c10b1 := decide_eq_true c10; clear c10; revert H; refine i4_ fun c11 H => ?_; have c11b0 := eq_true c11; have c11b1 := decide_eq_true c11; clear c11; replace H := bm_ H; obtain ⟨⟨t20, t22⟩, A23, H⟩ := H; replace H : (some (wrap64 (x1_1 + t20))) = some r := H; have A12 := A_ A23; clear A23; obtain rfl := sj_ H; obtain ⟨p21, q21, ad21, e21, hx21_0⟩ := pq_ (Kd.at_int HR0.out (ji5)); cases e21; replace hx21_0 := hc_ HB.out hx21_0; obtain ⟨i013, hi013, _, hsz13, _⟩ := info_parts info3; obtain ⟨A13, hcut13, hA13, hC13⟩ := print_mid_of (P := Tryz.prog) (Value.int .i64) 0 42 3 .i64 .i64 Tryz.underlying42 hi013 hsz13 (some ad21) c0 l0 x1_1 (ji8) (of_decide_eq_true z133_) z231_ (of_decide_eq_true z133_) HC0.out; have HR24 := A_ (Kd.C_of_reads (h1 := fun _ => rfl) (hA13 _ (Kd.reads_of_C HR0.out))); have HC24 := A_ hC13; clear hA13 hC13 hi013 hsz13
  go_wp2_with (first | ((with_reducible refine gate_callee (f := 146) rfl ?_); refine goesL_ (some 45) rfl rfl Tryz.func146 z159_ rfl #[.slice A13 ((l0.take ((ji8) : Int).toNat).drop (x1_1 : Int).toNat).length (c0 - x1_1.toNat), .int .i64 a2] rfl (by (try simp only [List.map_toArray, List.map_cons, List.map_nil]); first | done | (rw [show ((l0.take ((ji8) : Int).toNat).drop (x1_1 : Int).toNat).length = ((ji8).toNat - x1_1.toNat) from (by rw [List.length_drop, List.length_take]; have h_ : ((ji8) : Int) ≤ (l0.length : Int) := of_decide_eq_true z133_; omega)] <;> rfl) | (simp only [hji8]; rfl) | rfl | (simp only [List.length_drop, List.length_take]; rfl)) ?_; (with_reducible refine (f12.calls k1 _ _ ((l0.take ((ji8) : Int).toNat).drop (x1_1 : Int).toNat) a2 t20 t22 _ ?side1 HC24.out A12.out).mono ?_); (case side1 => repeat (first | exact (Kd.C_below HR24.out HB.out) | (with_reducible refine Kd.C_alloc ?_ _) | (with_reducible refine Kd.C_drewN ?_ _) | (with_reducible refine Kd.C_drew ?_))); rintro e w' ⟨rfl, ⟨nd, rfl⟩⟩; refine ⟨_, rfl, ?_⟩))
  go_ret; exact ⟨by first | rfl | (simp [errW_none, errW_some] <;> rfl) | (simp only [← hji5, ← hji8]; first | rfl | (simp [errW_none, errW_some] <;> rfl)) | (simp [*, errW_none, errW_some] <;> rfl), z186_⟩
end Go.Proofs.YtbbmdakdghefnaaGreatDoor.T

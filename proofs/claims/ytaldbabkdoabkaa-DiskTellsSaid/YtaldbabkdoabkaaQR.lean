import Derived.Test.YtaldbabkdoabkaaProg
import Derived.Test.YtaldbabkdoabkaaQV
import Derived.Test.YtaldbabkdoabkaaQA
import Derived.Test.YtaldbabkdoabkaaQB
import Derived.Test.YtaldbabkdoabkaaQG
import Derived.Test.YtaldbabkdoabkaaQH
import Derived.Test.YtaldbabkdoabkaaQI
import Derived.Test.YtaldbabkdoabkaaQP
namespace Go.Proofs.Ytaldbabkdoabkaa.T
open Go.RowKit Go.Proofs.YtaldbabkdoabkaaW.PrintWords Go.Proofs.YtaldbabkdoabkaaW.PrintLast Go.Proofs.YtaldbabkdoabkaaW.PrintMore
attribute [local go_sem] max2_int min2_int max_two min_two max_three min_three max_four min_four   -- for this text's walks alone
set_option linter.unusedVariables false
set_option linter.unusedSimpArgs false
/-! ### the document's order of texts is that of their bytes -/
theorem below_l0 (a b : ByteArray) (ha : a.size ≤ 9223372036854775807) (hb : b.size ≤ 9223372036854775807) : ∀ (d i k : Nat), a.size - i = d → i ≤ a.size → i ≤ b.size → 2 * d + 2 ≤ k → catchwordref03_Below.l0 k a b (i : Int) = some (Op.bytesLess (a.data.toList.drop i) (b.data.toList.drop i)) := by
  intro d
  induction d with
  | zero =>
    intro i k hd hia hib hk
    obtain ⟨k, rfl⟩ : ∃ m, k = m + 1 := ⟨k - 1, by omega⟩
    obtain ⟨k, rfl⟩ : ∃ m, k = m + 1 := ⟨k - 1, by omega⟩
    rw [catchwordref03_Below.l0, if_neg (by omega), catchwordref03_Below.j1, if_neg (by simp)]
    rw [List.drop_eq_nil_of_le (by rw [size_list]; omega)]
    congr 1
    by_cases h : a.size < b.size
    · rw [decide_eq_true (by omega)]
      rw [List.drop_eq_getElem_cons (by rw [size_list]; omega)]
      rfl
    · rw [decide_eq_false (by omega), List.drop_eq_nil_of_le (by rw [size_list]; omega)]
      rfl
  | succ d ih =>
    intro i k hd hia hib hk
    obtain ⟨k, rfl⟩ : ∃ m, k = m + 1 := ⟨k - 1, by omega⟩
    obtain ⟨k, rfl⟩ : ∃ m, k = m + 1 := ⟨k - 1, by omega⟩
    have hla : i < a.size := by omega
    rw [catchwordref03_Below.l0, if_pos (by omega), catchwordref03_Below.j1]
    by_cases h : i < b.size
    · rw [if_pos (decide_eq_true (by omega)), if_pos (by omega), if_pos (by omega), if_pos (by omega)]
      rw [List.drop_eq_getElem_cons (show i < a.data.toList.length by rw [size_list]; omega), List.drop_eq_getElem_cons (show i < b.data.toList.length by rw [size_list]; omega), btL_at a i hla, btL_at b i h, Op.bytesLess]
      generalize a.data.toList[i]'(by rw [size_list]; omega) = x
      generalize b.data.toList[i]'(by rw [size_list]; omega) = y
      by_cases e : x = y
      · subst e
        rw [if_pos rfl]
        have hw : wrap64 ((i : Int) + 1) = ((i + 1 : Nat) : Int) := by unfold wrap64; omega
        rw [hw, ih (i + 1) k (by omega) (by omega) (by omega) (by omega)]
        simp
      · have hxy : ¬ ((x.toNat : Int) = (y.toNat : Int)) := fun h2 => e (UInt8.toNat_inj.1 (by omega))
        rw [if_neg hxy]
        congr 1
        by_cases h3 : x < y
        · have h4 := UInt8.lt_iff_toNat_lt.1 h3
          rw [decide_eq_true (by omega)]
          simp [h3]
        · have h4 : ¬ x.toNat < y.toNat := fun h => h3 (UInt8.lt_iff_toNat_lt.2 h)
          rw [decide_eq_false (by omega)]
          simp [h3, e]
    · rw [if_neg (by rw [decide_eq_false (by omega)]; simp)]
      rw [List.drop_eq_nil_of_le (show b.data.toList.length ≤ i by rw [size_list]; omega), decide_eq_false (by omega)]
      rw [List.drop_eq_getElem_cons (show i < a.data.toList.length by rw [size_list]; omega)]
      rfl
def gBel (a : ByteArray) : Nat := 2 * a.size + 2
theorem below_eq (a b : ByteArray) (ha : a.size ≤ 9223372036854775807) (hb : b.size ≤ 9223372036854775807) (k : Nat) (hk : gBel a ≤ k) : catchwordref03_Below.f k a b = some (Op.bytesLess a.toList b.toList) := by
  unfold catchwordref03_Below.f
  have h := below_l0 a b ha hb a.size 0 k (by omega) (by omega) (by omega) hk
  rw [toList_data, toList_data]
  simpa using h
/-! ### the document's with (44) and without (45), at files by their slices, by hand -/
def ltF (x y : SF) : Bool := Op.bytesLess x.f0.toList y.f0.toList
def insF (x : SF) : List SF → List SF
  | [] => [x]
  | y :: l => if ltF y x = true then y :: insF x l else x :: y :: l
theorem insF_at (f : SF) : ∀ (fs : List SF) (i : Nat), i ≤ fs.length → (∀ y ∈ fs.take i, ltF y f = true) → (∀ y, fs[i]? = some y → ltF y f = false) → insF f fs = fs.take i ++ f :: fs.drop i
  | [], i, hi, _, _ => by
    have : i = 0 := by simpa using hi
    subst this
    rfl
  | y :: l, 0, _, _, h => by
    rw [insF, h y rfl]
    rfl
  | y :: l, i + 1, hi, h1, h2 => by
    rw [insF, h1 y (by simp), if_pos rfl, List.take_succ_cons, List.drop_succ_cons, List.cons_append]
    rw [insF_at f l i (by simpa using hi) (fun z hz => h1 z (by simp [hz])) (fun z hz => h2 z (by simpa using hz))]
theorem insF_len (x : SF) : ∀ l, (insF x l).length = l.length + 1
  | [] => rfl
  | y :: l => by
    rw [insF]
    split
    · simp [insF_len x l]
    · simp
theorem AllV.ins {W : World} {ok : Nat → Prop} {s : SF} {x : S48} : ∀ {fs : List SF} {xs : List S48}, AllV W ok fs xs → BearsV W ok s x → AllV W ok (insF s fs) (insX x xs)
  | [], [], _, h => AllV.cons_iff.2 ⟨h, AllV.nil _ _⟩
  | [], _ :: _, h, _ => by have := h.1; simp at this
  | _ :: _, [], h, _ => by have := h.1; simp at this
  | t :: fs, y :: xs, h, hb => by
    obtain ⟨h1, h2⟩ := AllV.cons_iff.1 h
    have e : ltF t s = ltX y x := by unfold ltF ltX; rw [h1.1, hb.1]
    rw [insF, insX, e]
    cases ltX y x with
    | true => exact AllV.cons_iff.2 ⟨h1, AllV.ins h2 hb⟩
    | false => exact AllV.cons_iff.2 ⟨hb, h⟩
theorem kF_KM {w w' : World} {base : Nat} {ok : Nat → Prop} (x : SF) (cs : List Value) (h : kF.K w x cs) : kF.M w' base ok x cs := by
  obtain rfl := kF_open h
  exact kF_mkM _ _ _ x
set_option maxHeartbeats 8000000 in
set_option maxRecDepth 100000 in
theorem without_calls (A0 : Option Addr) (c0 : Nat) (fs : List SF) (nm : ByteArray) (w : World) (hC : Kd.C kF w A0 fs.length fs) (hc : fs.length ≤ c0) (hfew : fs.length ≤ 100000) :
    Calls Try.prog 45 #[.slice A0 fs.length c0, .string nm] w fun e w' => ∃ v, e = .returned v ∧ Kd.R kF 48 w' w.heap.size (fun _ => True) v (delN nm fs) ∧ Below w.heap.size w w' := by
  have hu48 := Try.underlying48
  have HC := Aside0.mk hC
  clear hC
  go_enter Try.func45, Try.ntmps45
  go_wp2
  go_loopg [5, 6] fs.length (fun kq v5 v6 w' => ∃ (i : Nat) (gs : List SF), v6 = .int .i64 (i : Int) ∧ Aside0 (fs.length ≤ kq + i) ∧ Aside0 (i ≤ fs.length) ∧ Aside0 (gs = delN nm (fs.take i)) ∧ Aside0 (Kd.R kF 48 w' w.heap.size (fun _ => True) v5 gs) ∧ Aside0 (Below w.heap.size w w'))
  case atStart => exact ⟨0, [], rfl, ⟨Nat.le_refl _⟩, ⟨Nat.zero_le _⟩, ⟨rfl⟩, ⟨Kd.R_nil _ _ _ _ _⟩, ⟨Below.refl _ _⟩⟩
  case round =>
    rename_i v5_ v6_
    obtain ⟨i, gs, rfl, HK, HI, HG, HROW, HB⟩ := hrel
    obtain ⟨wo, rfl⟩ : ∃ wo : World, wo = wr := ⟨_, rfl⟩
    obtain ⟨Av, cv, ev⟩ := Kd.R_slice HROW.out
    subst ev
    by_cases hlt : i < fs.length
    · obtain ⟨kj, rfl⟩ : ∃ m, gk = m + 1 := ⟨gk - 1, by have := HK.out; omega⟩
      have d1 : decide ((i : Int) < (fs.length : Int)) = true := decide_eq_true (by omega)
      have d1n : decide (i < fs.length) = true := decide_eq_true hlt
      obtain ⟨ad, e1, g0, g1, g2⟩ := at_TF (Kd.C_below HC.out HB.out) (i : Int) (by omega) (by omega)
      subst e1
      rw [Int.toNat_natCast] at g0 g1 g2
      have hst : delN nm (fs.take (i + 1)) = delN nm (fs.take i) ++ (if keepN nm (rd_TF fs (i : Int)) = true then [rd_TF fs (i : Int)] else []) := take_filter_succ nm fs i hlt
      generalize rd_TF fs (i : Int) = s at g0 g1 g2 hst
      obtain ⟨s0, ⟨B1, n1, m1⟩, s2⟩ := s
      replace g0 : wo.cell? (ad.add (i * 3)) = some (.string s0) := g0
      replace g1 : wo.cell? ⟨(ad.add (i * 3)).block, (ad.add (i * 3)).off + 1, none⟩ = some (.slice B1 n1 m1) := g1
      replace g2 : wo.cell? ⟨(ad.add (i * 3)).block, (ad.add (i * 3)).off + 2, none⟩ = some (.bool s2) := g2
      have hgl : gs.length ≤ 100000 := by
        rw [HG.out]
        exact Nat.le_trans (List.length_filter_le _ _) (Nat.le_trans (List.length_take_le _ _) (by omega))
      have HGL := Aside0.mk (show (gs.length + 1) * 48 ≤ 140737488355328 by omega)
      clear hgl
      cases hq : (s0.toList == nm.toList) with
      | true =>
        rw [keepN_of (x := ⟨s0, (B1, n1, m1), s2⟩) hq] at hst
        have HG2 := Aside0.mk (show gs = delN nm (fs.take (i + 1)) by rw [hst, HG.out]; simp)
        clear hst
        go_wp2
        go_roundg kj
        case measure => omega
        case rel => exact ⟨i + 1, gs, congrArg (Value.int .i64) (by omega), ⟨by have := HK.out; omega⟩, ⟨by omega⟩, HG2, HROW, HB⟩
      | false =>
        rw [keepN_of (x := ⟨s0, (B1, n1, m1), s2⟩) hq] at hst
        have HG2 := Aside0.mk (show gs ++ [(⟨s0, (B1, n1, m1), s2⟩ : SF)] = delN nm (fs.take (i + 1)) by rw [hst, HG.out]; simp)
        clear hst
        go_wp2_with (first | ((with_reducible refine gate_builtin (b := .append) (xs := #[.tmp 20, .tmp 25]) rfl ?_); at_builtin; refine Kd.R_append kF (w0 := w) (W := wo) w.heap.size rfl (.tmp 20) (.tmp 25) 22 48 (.agg #[.string ⟨#[]⟩, .slice none 0 0, .bool false]) 48 rfl Try.underlying22 infoF rfl (by decide) (by decide) (.slice Av gs.length cv) gs (⟨s0, (B1, n1, m1), s2⟩ : SF) [.string s0, .slice B1 n1 m1, .bool s2] (fun _ => True) (fun _ => False) rfl rfl (kF_mkM _ _ _ (⟨s0, (B1, n1, m1), s2⟩ : SF)) (fun _ h => h.elim) (fun _ _ => trivial) HROW.out HB.out (below_size HB.out) HGL.out ?_; intro v1 w4 hr1 hb1 hg1 hat1; have HR4 := Aside0.mk hr1; have HB4 := Aside0.mk hb1; clear hr1 hb1 hg1 hat1))
        go_roundg kj
        case measure => omega
        case rel => exact ⟨i + 1, _, congrArg (Value.int .i64) (by omega), ⟨by have := HK.out; omega⟩, ⟨by omega⟩, HG2, HR4, HB4⟩
    · have d1 : decide ((i : Int) < (fs.length : Int)) = false := decide_eq_false (by omega)
      have d1n : decide (i < fs.length) = false := decide_eq_false hlt
      have HE := Aside0.mk (show gs = delN nm fs by rw [HG.out, List.take_of_length_le (by omega)])
      go_wp2
      go_ret
      exact ⟨_, rfl, by rw [← HE.out]; exact HROW.out, HB.out⟩
theorem drewN_cell {w : World} {a : Addr} {v : Value} (n : Nat) (h : w.cell? a = some v) : (w.drewN n).cell? a = some v := h
set_option maxHeartbeats 8000000 in
set_option maxRecDepth 100000 in
theorem with_calls (A0 : Option Addr) (c0 : Nat) (fs : List SF) (f0 : ByteArray) (Bf : Option Addr) (nf mf : Nat) (f2 : Bool) (w : World) (hC : Kd.C kF w A0 fs.length fs) (hc : fs.length ≤ c0) (hfew : fs.length ≤ 100000) (hsz : ∀ y ∈ fs, y.f0.size ≤ 9223372036854775807) (hfz : f0.size ≤ 9223372036854775807) :
    Calls Try.prog 44 #[.slice A0 fs.length c0, .agg #[.string f0, .slice Bf nf mf, .bool f2]] w fun e w' => ∃ v, e = .returned v ∧ Kd.R kF 48 w' w.heap.size (fun _ => True) v (insF ⟨f0, (Bf, nf, mf), f2⟩ fs) ∧ Below w.heap.size w w' := by
  have hu48 := Try.underlying48
  have HC := Aside0.mk hC
  have HZ := Aside0.mk hsz
  have HFZ := Aside0.mk hfz
  clear hC hsz hfz
  go_enter Try.func44, Try.ntmps44
  go_upto_block 0 with fail
  have BF := Aside0.mk (blk_new w (.cells #[.string f0, .slice Bf nf mf, .bool f2] 48))
  have HB1 := Aside0.mk (below_alloc (Below.refl w.heap.size w) (.cells #[.string f0, .slice Bf nf mf, .bool f2] 48))
  generalize (w.alloc (.cells #[.string f0, .slice Bf nf mf, .bool f2] 48)) = w1 at *
  go_cut [5, 6] (fun v5 v6 wc => ∃ (i : Nat), v6 = .int .i64 (i : Int) ∧ Aside0 (i ≤ fs.length) ∧ Aside0 (insF ⟨f0, (Bf, nf, mf), f2⟩ fs = fs.take i ++ (⟨f0, (Bf, nf, mf), f2⟩ : SF) :: fs.drop i) ∧ Aside0 (Kd.R kF 48 wc w1.heap.size (fun _ => True) v5 (fs.take i)) ∧ Aside0 (Below w1.heap.size w1 wc))
  case first =>
    go_wp2
    go_loopg [5, 6] fs.length (fun kq v5 v6 w' => ∃ (i : Nat), v6 = .int .i64 (i : Int) ∧ Aside0 (fs.length ≤ kq + i) ∧ Aside0 (i ≤ fs.length) ∧ Aside0 (∀ y ∈ fs.take i, ltF y ⟨f0, (Bf, nf, mf), f2⟩ = true) ∧ Aside0 (Kd.R kF 48 w' w1.heap.size (fun _ => True) v5 (fs.take i)) ∧ Aside0 (Below w1.heap.size w1 w'))
    case atStart => exact ⟨0, rfl, ⟨Nat.le_refl _⟩, ⟨Nat.zero_le _⟩, ⟨fun y hy => by simp at hy⟩, ⟨Kd.R_nil _ _ _ _ _⟩, ⟨Below.refl _ _⟩⟩
    case round =>
      rename_i v5_ v6_
      obtain ⟨i, rfl, HK, HI, HLT, HROW, HB⟩ := hrel
      obtain ⟨wo, rfl⟩ : ∃ wo : World, wo = wr := ⟨_, rfl⟩
      obtain ⟨Av, cv, ev⟩ := Kd.R_slice HROW.out
      subst ev
      by_cases hlt : i < fs.length
      · obtain ⟨kj, rfl⟩ : ∃ m, gk = m + 1 := ⟨gk - 1, by have := HK.out; omega⟩
        have d1 : decide ((i : Int) < (fs.length : Int)) = true := decide_eq_true (by omega)
        have d1n : decide (i < fs.length) = true := decide_eq_true hlt
        obtain ⟨ad, e1, g0, g1, g2⟩ := at_TF (Kd.C_below HC.out (below_step HB1.out HB.out)) (i : Int) (by omega) (by omega)
        subst e1
        rw [Int.toNat_natCast] at g0 g1 g2
        have hget : fs[i]? = some (rd_TF fs (i : Int)) := by unfold rd_TF; rw [Int.toNat_natCast, List.getD_eq_getElem?_getD, List.getElem?_eq_getElem hlt]; rfl
        generalize rd_TF fs (i : Int) = s at g0 g1 g2 hget
        obtain ⟨s0, ⟨B1, n1, m1⟩, s2⟩ := s
        replace g0 : wo.cell? (ad.add (i * 3)) = some (.string s0) := g0
        replace g1 : wo.cell? ⟨(ad.add (i * 3)).block, (ad.add (i * 3)).off + 1, none⟩ = some (.slice B1 n1 m1) := g1
        replace g2 : wo.cell? ⟨(ad.add (i * 3)).block, (ad.add (i * 3)).off + 2, none⟩ = some (.bool s2) := g2
        have HGT := Aside0.mk hget
        have x0 : wo.cell? ⟨w.heap.size, 0, none⟩ = some (.string f0) := (blk_cell (blk_below BF.out HB.out) 0).trans rfl
        have hzs : s0.size ≤ 9223372036854775807 := HZ.out ⟨s0, (B1, n1, m1), s2⟩ (List.mem_of_getElem? hget)
        have hbl : catchwordref03_Below.f (gBel s0) s0 f0 = some (Op.bytesLess s0.toList f0.toList) := below_eq s0 f0 hzs HFZ.out _ (Nat.le_refl _)
        clear hget hzs
        cases hq : Op.bytesLess s0.toList f0.toList with
        | true =>
          rw [hq] at hbl
          have HBL := Aside0.mk hbl
          have HLT2 := Aside0.mk (show ∀ y ∈ fs.take (i + 1), ltF y ⟨f0, (Bf, nf, mf), f2⟩ = true from fun y hy => by
            rw [List.take_add_one, HGT.out] at hy
            rcases List.mem_append.1 hy with hy | hy
            · exact HLT.out y hy
            · obtain rfl : y = ⟨s0, (B1, n1, m1), s2⟩ := by simpa using hy
              exact hq)
          have hts : fs.take (i + 1) = fs.take i ++ [(⟨s0, (B1, n1, m1), s2⟩ : SF)] := by rw [List.take_add_one, HGT.out]; rfl
          have HTS := Aside0.mk hts
          have hgl : (fs.take i).length ≤ 100000 := Nat.le_trans (List.length_take_le _ _) (by omega)
          have HGL := Aside0.mk (show ((fs.take i).length + 1) * 48 ≤ 140737488355328 by omega)
          clear hq hbl hts hgl
          go_wp2
          refine start_ (n := 14) (S := fun w' => w'.cell? (ad.add (i * 3)) = some (.string s0) ∧ w'.cell? ⟨w.heap.size, 0, none⟩ = some (.string f0)) (ds := []) #[false, false, false, false, false, false, false, false, false, false, false, false, false, false] (by kernel_rfl) rfl rfl ⟨g0, x0⟩ (fun hHeld => ?_)
          refine pure_ (i := 0) (N := some 7) (v := ?_) (a' := ?_) #[true, false, false, false, false, false, false, false, false, false, false, false, false, false] rfl rfl (by kernel_rfl) (fun _ _ _ h => h) (Or.inl ⟨by rfl, ?_⟩) ?_ ?_
          rotate_left
          · intro w'
            go_simp
            with_reducible rfl
          rotate_left
          · simp only [Act.put, List.setIfInBounds_toArray, List.set_cons_zero, List.set_cons_succ, i64_w, i32_w]
            rfl
          refine pure_ (i := 1) (N := some 8) (v := ?_) (a' := ?_) #[true, true, false, false, false, false, false, false, false, false, false, false, false, false] rfl rfl (by kernel_rfl) (fun _ _ _ h => h) (Or.inl ⟨by rfl, ?_⟩) ?_ ?_
          rotate_left
          · intro w'
            go_simp
            with_reducible rfl
          rotate_left
          · simp only [Act.put, List.setIfInBounds_toArray, List.set_cons_zero, List.set_cons_succ, i64_w, i32_w]
            rfl
          refine pure_ (i := 2) (N := some 9) (v := ?_) (a' := ?_) #[true, true, true, false, false, false, false, false, false, false, false, false, false, false] rfl rfl (by kernel_rfl) (fun _ _ _ h => h) (Or.inl ⟨by rfl, ?_⟩) ?_ ?_
          rotate_left
          · intro w'
            go_simp
            with_reducible rfl
          rotate_left
          · simp only [Act.put, List.setIfInBounds_toArray, List.set_cons_zero, List.set_cons_succ, i64_w, i32_w]
            rfl
          refine pure_ (i := 3) (N := some 10) (v := ?_) (a' := ?_) #[true, true, true, true, false, false, false, false, false, false, false, false, false, false] rfl rfl (by kernel_rfl) (fun _ _ _ h => h) (Or.inl ⟨by rfl, ?_⟩) ?_ ?_
          rotate_left
          · intro w'
            go_simp
            with_reducible rfl
          rotate_left
          · simp only [Act.put, List.setIfInBounds_toArray, List.set_cons_zero, List.set_cons_succ, i64_w, i32_w]
            rfl
          refine pure_ (i := 4) (N := some 11) (v := ?_) (a' := ?_) #[true, true, true, true, true, false, false, false, false, false, false, false, false, false] rfl rfl (by kernel_rfl) (fun _ _ _ h => h) (Or.inl ⟨by rfl, ?_⟩) ?_ ?_
          rotate_left
          · intro w'
            go_simp
            with_reducible rfl
          rotate_left
          · simp only [Act.put, List.setIfInBounds_toArray, List.set_cons_zero, List.set_cons_succ, i64_w, i32_w]
            rfl
          refine pure_ (i := 5) (N := some 12) (v := ?_) (a' := ?_) #[true, true, true, true, true, true, false, false, false, false, false, false, false, false] rfl rfl (by kernel_rfl) (fun _ _ _ h => h) (Or.inl ⟨by rfl, ?_⟩) ?_ ?_
          rotate_left
          · intro w'
            go_simp
            with_reducible rfl
          rotate_left
          · simp only [Act.put, List.setIfInBounds_toArray, List.set_cons_zero, List.set_cons_succ, i64_w, i32_w]
            rfl
          refine pure_ (i := 6) (N := some 13) (v := ?_) (a' := ?_) #[true, true, true, true, true, true, true, false, false, false, false, false, false, false] rfl rfl (by kernel_rfl) (fun _ _ _ h => h) (Or.inl ⟨by rfl, ?_⟩) ?_ ?_
          rotate_left
          · intro w'
            go_simp
            with_reducible rfl
          rotate_left
          · simp only [Act.put, List.setIfInBounds_toArray, List.set_cons_zero, List.set_cons_succ, i64_w, i32_w]
            rfl
          refine pure_ (i := 7) (N := some 14) (v := ?_) (a' := ?_) #[true, true, true, true, true, true, true, true, false, false, false, false, false, false] rfl rfl (by kernel_rfl) (fun _ _ _ h => h) (Or.inl ⟨by rfl, ?_⟩) ?_ ?_
          rotate_left
          · intro w'
            go_simp
            with_reducible rfl
          rotate_left
          · simp only [Act.put, List.setIfInBounds_toArray, List.set_cons_zero, List.set_cons_succ, i64_w, i32_w]
            rfl
          refine pure_ (i := 8) (N := some 15) (v := ?_) (a' := ?_) #[true, true, true, true, true, true, true, true, true, false, false, false, false, false] rfl rfl (by kernel_rfl) (fun _ _ _ h => h) (Or.inl ⟨by rfl, ?_⟩) ?_ ?_
          rotate_left
          · intro w'
            go_simp
            with_reducible rfl
          rotate_left
          · simp only [Act.put, List.setIfInBounds_toArray, List.set_cons_zero, List.set_cons_succ, i64_w, i32_w]
            rfl
          refine pure_ (i := 10) (N := some 17) (v := ?_) (a' := ?_) #[true, true, true, true, true, true, true, true, true, false, true, false, false, false] rfl rfl (by kernel_rfl) (fun _ _ _ h => h) (Or.inl ⟨by rfl, ?_⟩) ?_ ?_
          rotate_left
          · intro w'
            go_simp
            with_reducible rfl
          rotate_left
          · simp only [Act.put, List.setIfInBounds_toArray, List.set_cons_zero, List.set_cons_succ, i64_w, i32_w]
            rfl
          refine take_ (i := 9) (N := some 16) (v := ?_) (a' := ?_) #[true, true, true, true, true, true, true, true, true, true, true, false, false, false] rfl rfl (by kernel_rfl) (fun _ _ _ h => h) (Or.inl ⟨by rfl, ?_⟩) hHeld ?_ ?_
          rotate_left
          · rintro w' ⟨s0, s1⟩
            go_simp
            with_reducible rfl
          rotate_left
          · simp only [Act.put, List.setIfInBounds_toArray, List.set_cons_zero, List.set_cons_succ, i64_w, i32_w]
            rfl
          refine take_ (i := 11) (N := some 18) (v := ?_) (a' := ?_) #[true, true, true, true, true, true, true, true, true, true, true, true, false, false] rfl rfl (by kernel_rfl) (fun _ _ _ h => h) (Or.inl ⟨by rfl, ?_⟩) hHeld ?_ ?_
          rotate_left
          · rintro w' ⟨s0, s1⟩
            go_simp
            with_reducible rfl
          rotate_left
          · simp only [Act.put, List.setIfInBounds_toArray, List.set_cons_zero, List.set_cons_succ, i64_w, i32_w]
            rfl
          refine one_ (i := 12) (N := some 19) #[true, true, true, true, true, true, true, true, true, true, true, true, true, false] rfl rfl (by kernel_rfl) (by decide) (fun K hK => ?_)
          refine goes_ Try.func31 (by kernel_rfl) rfl #[.string s0, .string f0] (by rfl) rfl rfl (by simp only [List.map_toArray, List.map_cons, List.map_nil]; rfl) ?_
          with_reducible refine (catchwordref03_Below.calls (gBel s0) s0 f0 true wo.drew HBL.out).mono ?_
          rintro e w3 ⟨rfl, ⟨nd, rfl⟩⟩
          refine ⟨_, rfl, ?_⟩
          refine hK.out _ _ ⟨hHeld.1, hHeld.2⟩ (fun hHeld => ?_)
          clear hK K
          refine norm_ (a' := ?_) ?_ ?_
          rotate_left
          · show Act.put _ (some 19) _ = _
            simp only [Act.put, List.setIfInBounds_toArray, List.set_cons_zero, List.set_cons_succ, i64_w, i32_w]
            rfl
          refine pure_ (i := 13) (N := some 20) (v := ?_) (a' := ?_) #[true, true, true, true, true, true, true, true, true, true, true, true, true, true] rfl rfl (by kernel_rfl) (fun _ _ _ h => h) (Or.inl ⟨by rfl, ?_⟩) ?_ ?_
          rotate_left
          · intro w'
            go_simp
            with_reducible rfl
          rotate_left
          · simp only [Act.put, List.setIfInBounds_toArray, List.set_cons_zero, List.set_cons_succ, i64_w, i32_w]
            rfl
          refine done_ (by kernel_rfl) ?_
          have HBn := Aside0.mk (show Below w1.heap.size w1 ((wo.drew).drewN nd) from pw_below_drewN (below_drew HB.out) nd)
          have HROn := Aside0.mk (show Kd.R kF 48 ((wo.drew).drewN nd) w1.heap.size (fun _ => True) (.slice Av (fs.take i).length cv) (fs.take i) from Kd.R_drewN (Kd.R_drew HROW.out) nd)
          replace g0 : (wo.drew.drewN nd).cell? (ad.add (i * 3)) = some (.string s0) := g0
          replace g1 : (wo.drew.drewN nd).cell? ⟨(ad.add (i * 3)).block, (ad.add (i * 3)).off + 1, none⟩ = some (.slice B1 n1 m1) := g1
          replace g2 : (wo.drew.drewN nd).cell? ⟨(ad.add (i * 3)).block, (ad.add (i * 3)).off + 2, none⟩ = some (.bool s2) := g2
          generalize wo.drew.drewN nd = wq at *
          generalize fs.take i = gs at *
          go_wp2_with (first | ((with_reducible refine gate_builtin (b := .append) (xs := #[.tmp 21, .tmp 26]) rfl ?_); at_builtin; refine Kd.R_append kF (w0 := w1) (W := wq) w1.heap.size rfl (.tmp 21) (.tmp 26) 22 48 (.agg #[.string ⟨#[]⟩, .slice none 0 0, .bool false]) 48 rfl Try.underlying22 infoF rfl (by decide) (by decide) (.slice Av gs.length cv) gs (⟨s0, (B1, n1, m1), s2⟩ : SF) [.string s0, .slice B1 n1 m1, .bool s2] (fun _ => True) (fun _ => False) rfl rfl (kF_mkM _ _ _ (⟨s0, (B1, n1, m1), s2⟩ : SF)) (fun _ h => h.elim) (fun _ _ => trivial) HROn.out HBn.out (below_size HBn.out) HGL.out ?_; intro v1 w4 hr1 hb1 hg1 hat1; have HR4 := Aside0.mk hr1; have HB4 := Aside0.mk hb1; clear hr1 hb1 hg1 hat1))
          go_roundg kj
          case measure => omega
          case rel => exact ⟨i + 1, congrArg (Value.int .i64) (by omega), ⟨by have := HK.out; omega⟩, ⟨by omega⟩, HLT2, ⟨by rw [HTS.out]; exact HR4.out⟩, HB4⟩
        | false =>
          rw [hq] at hbl
          have HBL := Aside0.mk hbl
          have HIN := Aside0.mk (insF_at ⟨f0, (Bf, nf, mf), f2⟩ fs i HI.out HLT.out (fun y hy => by
            rw [HGT.out] at hy
            obtain rfl := Option.some.inj hy
            exact hq))
          clear hq hbl
          go_wp2
          refine start_ (n := 14) (S := fun w' => w'.cell? (ad.add (i * 3)) = some (.string s0) ∧ w'.cell? ⟨w.heap.size, 0, none⟩ = some (.string f0)) (ds := []) #[false, false, false, false, false, false, false, false, false, false, false, false, false, false] (by kernel_rfl) rfl rfl ⟨g0, x0⟩ (fun hHeld => ?_)
          refine pure_ (i := 0) (N := some 7) (v := ?_) (a' := ?_) #[true, false, false, false, false, false, false, false, false, false, false, false, false, false] rfl rfl (by kernel_rfl) (fun _ _ _ h => h) (Or.inl ⟨by rfl, ?_⟩) ?_ ?_
          rotate_left
          · intro w'
            go_simp
            with_reducible rfl
          rotate_left
          · simp only [Act.put, List.setIfInBounds_toArray, List.set_cons_zero, List.set_cons_succ, i64_w, i32_w]
            rfl
          refine pure_ (i := 1) (N := some 8) (v := ?_) (a' := ?_) #[true, true, false, false, false, false, false, false, false, false, false, false, false, false] rfl rfl (by kernel_rfl) (fun _ _ _ h => h) (Or.inl ⟨by rfl, ?_⟩) ?_ ?_
          rotate_left
          · intro w'
            go_simp
            with_reducible rfl
          rotate_left
          · simp only [Act.put, List.setIfInBounds_toArray, List.set_cons_zero, List.set_cons_succ, i64_w, i32_w]
            rfl
          refine pure_ (i := 2) (N := some 9) (v := ?_) (a' := ?_) #[true, true, true, false, false, false, false, false, false, false, false, false, false, false] rfl rfl (by kernel_rfl) (fun _ _ _ h => h) (Or.inl ⟨by rfl, ?_⟩) ?_ ?_
          rotate_left
          · intro w'
            go_simp
            with_reducible rfl
          rotate_left
          · simp only [Act.put, List.setIfInBounds_toArray, List.set_cons_zero, List.set_cons_succ, i64_w, i32_w]
            rfl
          refine pure_ (i := 3) (N := some 10) (v := ?_) (a' := ?_) #[true, true, true, true, false, false, false, false, false, false, false, false, false, false] rfl rfl (by kernel_rfl) (fun _ _ _ h => h) (Or.inl ⟨by rfl, ?_⟩) ?_ ?_
          rotate_left
          · intro w'
            go_simp
            with_reducible rfl
          rotate_left
          · simp only [Act.put, List.setIfInBounds_toArray, List.set_cons_zero, List.set_cons_succ, i64_w, i32_w]
            rfl
          refine pure_ (i := 4) (N := some 11) (v := ?_) (a' := ?_) #[true, true, true, true, true, false, false, false, false, false, false, false, false, false] rfl rfl (by kernel_rfl) (fun _ _ _ h => h) (Or.inl ⟨by rfl, ?_⟩) ?_ ?_
          rotate_left
          · intro w'
            go_simp
            with_reducible rfl
          rotate_left
          · simp only [Act.put, List.setIfInBounds_toArray, List.set_cons_zero, List.set_cons_succ, i64_w, i32_w]
            rfl
          refine pure_ (i := 5) (N := some 12) (v := ?_) (a' := ?_) #[true, true, true, true, true, true, false, false, false, false, false, false, false, false] rfl rfl (by kernel_rfl) (fun _ _ _ h => h) (Or.inl ⟨by rfl, ?_⟩) ?_ ?_
          rotate_left
          · intro w'
            go_simp
            with_reducible rfl
          rotate_left
          · simp only [Act.put, List.setIfInBounds_toArray, List.set_cons_zero, List.set_cons_succ, i64_w, i32_w]
            rfl
          refine pure_ (i := 6) (N := some 13) (v := ?_) (a' := ?_) #[true, true, true, true, true, true, true, false, false, false, false, false, false, false] rfl rfl (by kernel_rfl) (fun _ _ _ h => h) (Or.inl ⟨by rfl, ?_⟩) ?_ ?_
          rotate_left
          · intro w'
            go_simp
            with_reducible rfl
          rotate_left
          · simp only [Act.put, List.setIfInBounds_toArray, List.set_cons_zero, List.set_cons_succ, i64_w, i32_w]
            rfl
          refine pure_ (i := 7) (N := some 14) (v := ?_) (a' := ?_) #[true, true, true, true, true, true, true, true, false, false, false, false, false, false] rfl rfl (by kernel_rfl) (fun _ _ _ h => h) (Or.inl ⟨by rfl, ?_⟩) ?_ ?_
          rotate_left
          · intro w'
            go_simp
            with_reducible rfl
          rotate_left
          · simp only [Act.put, List.setIfInBounds_toArray, List.set_cons_zero, List.set_cons_succ, i64_w, i32_w]
            rfl
          refine pure_ (i := 8) (N := some 15) (v := ?_) (a' := ?_) #[true, true, true, true, true, true, true, true, true, false, false, false, false, false] rfl rfl (by kernel_rfl) (fun _ _ _ h => h) (Or.inl ⟨by rfl, ?_⟩) ?_ ?_
          rotate_left
          · intro w'
            go_simp
            with_reducible rfl
          rotate_left
          · simp only [Act.put, List.setIfInBounds_toArray, List.set_cons_zero, List.set_cons_succ, i64_w, i32_w]
            rfl
          refine pure_ (i := 10) (N := some 17) (v := ?_) (a' := ?_) #[true, true, true, true, true, true, true, true, true, false, true, false, false, false] rfl rfl (by kernel_rfl) (fun _ _ _ h => h) (Or.inl ⟨by rfl, ?_⟩) ?_ ?_
          rotate_left
          · intro w'
            go_simp
            with_reducible rfl
          rotate_left
          · simp only [Act.put, List.setIfInBounds_toArray, List.set_cons_zero, List.set_cons_succ, i64_w, i32_w]
            rfl
          refine take_ (i := 9) (N := some 16) (v := ?_) (a' := ?_) #[true, true, true, true, true, true, true, true, true, true, true, false, false, false] rfl rfl (by kernel_rfl) (fun _ _ _ h => h) (Or.inl ⟨by rfl, ?_⟩) hHeld ?_ ?_
          rotate_left
          · rintro w' ⟨s0, s1⟩
            go_simp
            with_reducible rfl
          rotate_left
          · simp only [Act.put, List.setIfInBounds_toArray, List.set_cons_zero, List.set_cons_succ, i64_w, i32_w]
            rfl
          refine take_ (i := 11) (N := some 18) (v := ?_) (a' := ?_) #[true, true, true, true, true, true, true, true, true, true, true, true, false, false] rfl rfl (by kernel_rfl) (fun _ _ _ h => h) (Or.inl ⟨by rfl, ?_⟩) hHeld ?_ ?_
          rotate_left
          · rintro w' ⟨s0, s1⟩
            go_simp
            with_reducible rfl
          rotate_left
          · simp only [Act.put, List.setIfInBounds_toArray, List.set_cons_zero, List.set_cons_succ, i64_w, i32_w]
            rfl
          refine one_ (i := 12) (N := some 19) #[true, true, true, true, true, true, true, true, true, true, true, true, true, false] rfl rfl (by kernel_rfl) (by decide) (fun K hK => ?_)
          refine goes_ Try.func31 (by kernel_rfl) rfl #[.string s0, .string f0] (by rfl) rfl rfl (by simp only [List.map_toArray, List.map_cons, List.map_nil]; rfl) ?_
          with_reducible refine (catchwordref03_Below.calls (gBel s0) s0 f0 false wo.drew HBL.out).mono ?_
          rintro e w3 ⟨rfl, ⟨nd, rfl⟩⟩
          refine ⟨_, rfl, ?_⟩
          refine hK.out _ _ ⟨hHeld.1, hHeld.2⟩ (fun hHeld => ?_)
          clear hK K
          refine norm_ (a' := ?_) ?_ ?_
          rotate_left
          · show Act.put _ (some 19) _ = _
            simp only [Act.put, List.setIfInBounds_toArray, List.set_cons_zero, List.set_cons_succ, i64_w, i32_w]
            rfl
          refine pure_ (i := 13) (N := some 20) (v := ?_) (a' := ?_) #[true, true, true, true, true, true, true, true, true, true, true, true, true, true] rfl rfl (by kernel_rfl) (fun _ _ _ h => h) (Or.inl ⟨by rfl, ?_⟩) ?_ ?_
          rotate_left
          · intro w'
            go_simp
            with_reducible rfl
          rotate_left
          · simp only [Act.put, List.setIfInBounds_toArray, List.set_cons_zero, List.set_cons_succ, i64_w, i32_w]
            rfl
          refine done_ (by kernel_rfl) ?_
          go_wp2
          go_meet
          case rel => exact ⟨i, rfl, HI, HIN, ⟨Kd.R_drewN (Kd.R_drew HROW.out) nd⟩, ⟨pw_below_drewN (below_drew HB.out) nd⟩⟩
      · have d1 : decide ((i : Int) < (fs.length : Int)) = false := decide_eq_false (by omega)
        have d1n : decide (i < fs.length) = false := decide_eq_false hlt
        have HIN := Aside0.mk (insF_at ⟨f0, (Bf, nf, mf), f2⟩ fs i HI.out HLT.out (fun y hy => by
          rw [List.getElem?_eq_none (by omega)] at hy
          cases hy))
        go_wp2
        refine start_ (n := 14) (S := fun w' => True) (ds := []) #[false, false, false, false, false, false, false, false, false, false, false, false, false, false] (by kernel_rfl) rfl rfl trivial (fun hHeld => ?_)
        refine pure_ (i := 0) (N := some 7) (v := ?_) (a' := ?_) #[true, false, false, false, false, false, false, false, false, false, false, false, false, false] rfl rfl (by kernel_rfl) (fun _ _ _ h => h) (Or.inl ⟨by rfl, ?_⟩) ?_ ?_
        rotate_left
        · intro w'
          go_simp
          with_reducible rfl
        rotate_left
        · simp only [Act.put, List.setIfInBounds_toArray, List.set_cons_zero, List.set_cons_succ, i64_w, i32_w]
          rfl
        refine pure_ (i := 1) (N := some 8) (v := ?_) (a' := ?_) #[true, true, false, false, false, false, false, false, false, false, false, false, false, false] rfl rfl (by kernel_rfl) (fun _ _ _ h => h) (Or.inl ⟨by rfl, ?_⟩) ?_ ?_
        rotate_left
        · intro w'
          go_simp
          with_reducible rfl
        rotate_left
        · simp only [Act.put, List.setIfInBounds_toArray, List.set_cons_zero, List.set_cons_succ, i64_w, i32_w]
          rfl
        refine pure_ (i := 2) (N := some 9) (v := ?_) (a' := ?_) #[true, true, true, false, false, false, false, false, false, false, false, false, false, false] rfl rfl (by kernel_rfl) (fun _ _ _ h => h) (Or.inl ⟨by rfl, ?_⟩) ?_ ?_
        rotate_left
        · intro w'
          go_simp
          with_reducible rfl
        rotate_left
        · simp only [Act.put, List.setIfInBounds_toArray, List.set_cons_zero, List.set_cons_succ, i64_w, i32_w]
          rfl
        refine pure_ (i := 3) (N := some 10) (v := ?_) (a' := ?_) #[true, true, true, true, false, false, false, false, false, false, false, false, false, false] rfl rfl (by kernel_rfl) (fun _ _ _ h => h) (Or.inl ⟨by rfl, ?_⟩) ?_ ?_
        rotate_left
        · intro w'
          go_simp
          with_reducible rfl
        rotate_left
        · simp only [Act.put, List.setIfInBounds_toArray, List.set_cons_zero, List.set_cons_succ, i64_w, i32_w]
          rfl
        refine pure_ (i := 4) (N := some 11) (v := ?_) (a' := ?_) #[true, true, true, true, true, false, false, false, false, false, false, false, false, false] rfl rfl (by kernel_rfl) (fun _ _ _ h => h) (Or.inl ⟨by rfl, ?_⟩) ?_ ?_
        rotate_left
        · intro w'
          go_simp
          with_reducible rfl
        rotate_left
        · simp only [Act.put, List.setIfInBounds_toArray, List.set_cons_zero, List.set_cons_succ, i64_w, i32_w]
          rfl
        refine pure_ (i := 5) (N := some 12) (v := undef) (a' := ?_) #[true, true, true, true, true, true, false, false, false, false, false, false, false, false] rfl rfl (by kernel_rfl) (fun _ _ _ h => h) (Or.inr ⟨by rfl, rfl⟩) ?_ ?_
        rotate_left
        · simp only [Act.put, List.setIfInBounds_toArray, List.set_cons_zero, List.set_cons_succ, i64_w, i32_w]
          rfl
        refine pure_ (i := 6) (N := some 13) (v := undef) (a' := ?_) #[true, true, true, true, true, true, true, false, false, false, false, false, false, false] rfl rfl (by kernel_rfl) (fun _ _ _ h => h) (Or.inr ⟨by rfl, rfl⟩) ?_ ?_
        rotate_left
        · simp only [Act.put, List.setIfInBounds_toArray, List.set_cons_zero, List.set_cons_succ, i64_w, i32_w]
          rfl
        refine pure_ (i := 7) (N := some 14) (v := undef) (a' := ?_) #[true, true, true, true, true, true, true, true, false, false, false, false, false, false] rfl rfl (by kernel_rfl) (fun _ _ _ h => h) (Or.inr ⟨by rfl, rfl⟩) ?_ ?_
        rotate_left
        · simp only [Act.put, List.setIfInBounds_toArray, List.set_cons_zero, List.set_cons_succ, i64_w, i32_w]
          rfl
        refine pure_ (i := 8) (N := some 15) (v := undef) (a' := ?_) #[true, true, true, true, true, true, true, true, true, false, false, false, false, false] rfl rfl (by kernel_rfl) (fun _ _ _ h => h) (Or.inr ⟨by rfl, rfl⟩) ?_ ?_
        rotate_left
        · simp only [Act.put, List.setIfInBounds_toArray, List.set_cons_zero, List.set_cons_succ, i64_w, i32_w]
          rfl
        refine pure_ (i := 9) (N := some 16) (v := undef) (a' := ?_) #[true, true, true, true, true, true, true, true, true, true, false, false, false, false] rfl rfl (by kernel_rfl) (fun _ _ _ h => h) (Or.inr ⟨by rfl, rfl⟩) ?_ ?_
        rotate_left
        · simp only [Act.put, List.setIfInBounds_toArray, List.set_cons_zero, List.set_cons_succ, i64_w, i32_w]
          rfl
        refine pure_ (i := 10) (N := some 17) (v := undef) (a' := ?_) #[true, true, true, true, true, true, true, true, true, true, true, false, false, false] rfl rfl (by kernel_rfl) (fun _ _ _ h => h) (Or.inr ⟨by rfl, rfl⟩) ?_ ?_
        rotate_left
        · simp only [Act.put, List.setIfInBounds_toArray, List.set_cons_zero, List.set_cons_succ, i64_w, i32_w]
          rfl
        refine pure_ (i := 11) (N := some 18) (v := undef) (a' := ?_) #[true, true, true, true, true, true, true, true, true, true, true, true, false, false] rfl rfl (by kernel_rfl) (fun _ _ _ h => h) (Or.inr ⟨by rfl, rfl⟩) ?_ ?_
        rotate_left
        · simp only [Act.put, List.setIfInBounds_toArray, List.set_cons_zero, List.set_cons_succ, i64_w, i32_w]
          rfl
        refine pure_ (i := 12) (N := some 19) (v := undef) (a' := ?_) #[true, true, true, true, true, true, true, true, true, true, true, true, true, false] rfl rfl (by kernel_rfl) (fun _ _ _ h => h) (Or.inr ⟨by rfl, rfl⟩) ?_ ?_
        rotate_left
        · simp only [Act.put, List.setIfInBounds_toArray, List.set_cons_zero, List.set_cons_succ, i64_w, i32_w]
          rfl
        refine pure_ (i := 13) (N := some 20) (v := ?_) (a' := ?_) #[true, true, true, true, true, true, true, true, true, true, true, true, true, true] rfl rfl (by kernel_rfl) (fun _ _ _ h => h) (Or.inl ⟨by rfl, ?_⟩) ?_ ?_
        rotate_left
        · intro w'
          go_simp
          with_reducible rfl
        rotate_left
        · simp only [Act.put, List.setIfInBounds_toArray, List.set_cons_zero, List.set_cons_succ, i64_w, i32_w]
          rfl
        refine done_ (by kernel_rfl) ?_
        go_wp2
        go_meet
        case rel => exact ⟨i, rfl, HI, HIN, ⟨Kd.R_drew HROW.out⟩, ⟨below_drew HB.out⟩⟩
  case rest =>
    obtain ⟨i, rfl, HI, HIN, HROW, HB⟩ := hcut
    obtain ⟨Av, cv, ev⟩ := Kd.R_slice HROW.out
    subst ev
    have BFc := Aside0.mk (blk_below BF.out HB.out)
    have x0 : wc.cell? ⟨w.heap.size, 0, none⟩ = some (.string f0) := (blk_cell BFc.out 0).trans rfl
    have x1 : wc.cell? ⟨w.heap.size, 1, none⟩ = some (.slice Bf nf mf) := (blk_cell BFc.out 1).trans rfl
    have x2 : wc.cell? ⟨w.heap.size, 2, none⟩ = some (.bool f2) := (blk_cell BFc.out 2).trans rfl
    have hi := HI.out
    have hgl : (fs.take i).length ≤ 100000 := Nat.le_trans (List.length_take_le _ _) (by omega)
    have HGL := Aside0.mk (show ((fs.take i).length + 1) * 48 ≤ 140737488355328 by omega)
    have HGL2 := Aside0.mk (show (fs.take i).length ≤ 100000 from hgl)
    clear hgl
    go_upto_region 7 with (first | ((with_reducible refine gate_builtin (b := .append) (xs := #[.tmp 30, .tmp 32]) rfl ?_); at_builtin; refine Kd.R_append kF (w0 := w1) (W := wc) w1.heap.size rfl (.tmp 30) (.tmp 32) 22 48 (.agg #[.string ⟨#[]⟩, .slice none 0 0, .bool false]) 48 rfl Try.underlying22 infoF rfl (by decide) (by decide) (.slice Av (fs.take i).length cv) (fs.take i) (⟨f0, (Bf, nf, mf), f2⟩ : SF) [.string f0, .slice Bf nf mf, .bool f2] (fun _ => True) (fun _ => False) rfl rfl (kF_mkM _ _ _ (⟨f0, (Bf, nf, mf), f2⟩ : SF)) (fun _ h => h.elim) (fun _ _ => trivial) HROW.out HB.out (below_size HB.out) HGL.out ?_; intro v1 w4 hr1 hb1 hg1 hat1; obtain ⟨b1, cap1, ev1, _, _, _⟩ := Kd.R_form hr1 (by simp); rw [List.length_append, List.length_singleton, List.length_take, Nat.min_eq_left HI.out] at ev1; subst ev1; have HR4 := Aside0.mk hr1; have HB4 := Aside0.mk hb1; clear hr1 hb1 hg1 hat1))
    have hmin : min i fs.length = i := Nat.min_eq_left hi
    have hdl : (fs.drop i).length = fs.length - i := List.length_drop
    have hlm : fs.length ≤ 9223372036854775807 := HC.out.2.1
    have hdr := Kd.C_drop (m := i) (Kd.C_below HC.out (below_step HB1.out HB4.out)) hi hc
    rw [hdl] at hdr
    have HLL := Aside0.mk (show ((fs.take i ++ [(⟨f0, (Bf, nf, mf), f2⟩ : SF)]).length + (fs.length - i)) * 48 ≤ 140737488355328 by rw [List.length_append, List.length_take, List.length_singleton]; omega)
    clear hdl hmin
    cases A0 with
    | none =>
      have hz : fs.length = 0 := by
        rcases Nat.eq_zero_or_pos fs.length with h | h
        · exact h
        · obtain ⟨ad, e, _⟩ := HC.out.2.2 h
          cases e
      obtain rfl : fs = [] := List.eq_nil_of_length_eq_zero hz
      obtain rfl : i = 0 := by simpa using hi
      have HDR := Aside0.mk (show Kd.C kF w4 none 0 ([] : List SF) from Kd.C_nil kF w4)
      have HR6 := Aside0.mk (show Kd.R kF 48 w4 w1.heap.size (fun _ => True) (.slice (some ⟨b1, 0, none⟩) 1 cap1) [(⟨f0, (Bf, nf, mf), f2⟩ : SF)] from HR4.out)
      clear hz hdr hi HLL
      go_wp2_with (first | ((with_reducible refine gate_builtin (b := .append) (xs := #[.tmp 34, .tmp 37]) rfl ?_); at_builtin; refine Kd.R_append_rows kF (w0 := w1) (W := w4) w1.heap.size rfl (.tmp 34) (.tmp 37) 22 48 (.agg #[.string ⟨#[]⟩, .slice none 0 0, .bool false]) 48 rfl Try.underlying22 infoF rfl (by decide) (by decide) (.slice (some ⟨b1, 0, none⟩) 1 cap1) [(⟨f0, (Bf, nf, mf), f2⟩ : SF)] ([] : List SF) none 0 c0 (fun _ => True) (fun _ => False) rfl rfl HR6.out HDR.out kF_KM (fun _ h => h.elim) (fun _ _ => trivial) HB4.out (below_size HB4.out) (by rw [List.length_singleton]; omega) ?_; intro v1 w5 hr1 hb1 hg1 hat1; have HR5 := Aside0.mk hr1; have HB5 := Aside0.mk hb1; clear hr1 hb1 hg1 hat1))
      go_ret
      exact ⟨_, rfl, Kd.R_lower HR5.out (below_size HB1.out), below_weaken HB1.out (below_size HB1.out) HB5.out⟩
    | some ad =>
      by_cases hci : c0 = i
      · rw [if_pos hci] at hdr
        have HDR := Aside0.mk hdr
        clear hdr
        go_wp2_with (first | ((with_reducible refine gate_builtin (b := .append) (xs := #[.tmp 34, .tmp 37]) rfl ?_); at_builtin; refine Kd.R_append_rows kF (w0 := w1) (W := w4) w1.heap.size rfl (.tmp 34) (.tmp 37) 22 48 (.agg #[.string ⟨#[]⟩, .slice none 0 0, .bool false]) 48 rfl Try.underlying22 infoF rfl (by decide) (by decide) (.slice (some ⟨b1, 0, none⟩) (i + 1) cap1) (fs.take i ++ [(⟨f0, (Bf, nf, mf), f2⟩ : SF)]) (fs.drop i) (some ad) (fs.length - i) 0 (fun _ => True) (fun _ => False) rfl rfl HR4.out HDR.out kF_KM (fun _ h => h.elim) (fun _ _ => trivial) HB4.out (below_size HB4.out) HLL.out ?_; intro v1 w5 hr1 hb1 hg1 hat1; have HR5 := Aside0.mk hr1; have HB5 := Aside0.mk hb1; clear hr1 hb1 hg1 hat1))
        go_ret
        exact ⟨_, rfl, Kd.R_lower (by rw [HIN.out, show fs.take i ++ (⟨f0, (Bf, nf, mf), f2⟩ : SF) :: fs.drop i = fs.take i ++ [(⟨f0, (Bf, nf, mf), f2⟩ : SF)] ++ fs.drop i by simp]; exact HR5.out) (below_size HB1.out), below_weaken HB1.out (below_size HB1.out) HB5.out⟩
      · rw [if_neg hci] at hdr
        have HDR := Aside0.mk (show Kd.C kF w4 (some (ad.add (i * 3))) (fs.length - i) (fs.drop i) from hdr)
        clear hdr
        go_wp2_with (first | ((with_reducible refine gate_builtin (b := .append) (xs := #[.tmp 34, .tmp 37]) rfl ?_); at_builtin; refine Kd.R_append_rows kF (w0 := w1) (W := w4) w1.heap.size rfl (.tmp 34) (.tmp 37) 22 48 (.agg #[.string ⟨#[]⟩, .slice none 0 0, .bool false]) 48 rfl Try.underlying22 infoF rfl (by decide) (by decide) (.slice (some ⟨b1, 0, none⟩) (i + 1) cap1) (fs.take i ++ [(⟨f0, (Bf, nf, mf), f2⟩ : SF)]) (fs.drop i) (some (ad.add (i * 3))) (fs.length - i) (c0 - i) (fun _ => True) (fun _ => False) rfl rfl HR4.out HDR.out kF_KM (fun _ h => h.elim) (fun _ _ => trivial) HB4.out (below_size HB4.out) HLL.out ?_; intro v1 w5 hr1 hb1 hg1 hat1; have HR5 := Aside0.mk hr1; have HB5 := Aside0.mk hb1; clear hr1 hb1 hg1 hat1))
        go_ret
        exact ⟨_, rfl, Kd.R_lower (by rw [HIN.out, show fs.take i ++ (⟨f0, (Bf, nf, mf), f2⟩ : SF) :: fs.drop i = fs.take i ++ [(⟨f0, (Bf, nf, mf), f2⟩ : SF)] ++ fs.drop i by simp]; exact HR5.out) (below_size HB1.out), below_weaken HB1.out (below_size HB1.out) HB5.out⟩
end Go.Proofs.Ytaldbabkdoabkaa.T

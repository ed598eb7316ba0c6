/- The law FnExactNegateLogic answers true for every list of elements; no condition but that the numbers are of their kind. -/
import Derived.Test.YtmlhkalgaeemaaaStFnExactNegateLogic
namespace Go.Proofs.Ytmlhkalgaeemaaa.fnExactNegateLogic
open Go.RowKit Go.Proofs.Ytmlhkalgaeemaaa.GFnExactNegateLogic Go.Proofs.YtmlhkalgaeemaaaV.PrintWords Go.Proofs.YtmlhkalgaeemaaaV.PrintLast Go.Proofs.YtmlhkalgaeemaaaV.PrintMore
set_option linter.unusedVariables false
set_option linter.unusedSimpArgs false

theorem ev_succ {α : Type} {g : Nat → Option α} {r : α} (h : Ev (fun k => g (k + 1)) r) : Ev g r := Ev.step (fun _ => rfl) h
theorem ev_pos {α : Type} {c : Prop} [Decidable c] {g f : Nat → Option α} {r : α} (hc : c) (h : Ev g r) : Ev (fun k => if c then g k else f k) r := Ev.congr (fun _ => if_pos hc) h
theorem ev_neg {α : Type} {c : Prop} [Decidable c] {g f : Nat → Option α} {r : α} (hc : ¬ c) (h : Ev f r) : Ev (fun k => if c then g k else f k) r := Ev.congr (fun _ => if_neg hc) h
theorem ev_some {α β : Type} {a : α} {f : Nat → α → Option β} {r : β} (h : Ev (fun k => f k a) r) : Ev (fun k => (some a).bind (f k)) r := h
theorem ev_of {α : Type} {a : Option α} {r : α} (h : a = some r) : Ev (fun _ => a) r := ⟨0, fun _ _ => h⟩
theorem ev_eq {α : Type} {g : Nat → Option α} {r r' : α} (h : Ev g r) (e : r = r') : Ev g r' := e ▸ h
theorem wrap_small {i : Int} (h0 : -9223372036854775808 ≤ i) (h1 : i ≤ 9223372036854775807) : wrap64 i = i := by unfold wrap64; omega
theorem wf_bounds {x : Int} (h : (Lit.int .i64 x).wf = true) : -9223372036854775808 ≤ x ∧ x ≤ 9223372036854775807 := by
  simp [Lit.wf, IntKind.min, IntKind.max, IntKind.signed, IntKind.bits] at h
  omega
theorem set_keeps {α : Type} (l out : List α) (d : α) (i : Nat) (hi : i < l.length) (ho : out.length = l.length) (h : ∀ j, j < i → out[j]? = l[j]?) : ∀ j, j < i + 1 → (out.set i (l.getD i d))[j]? = l[j]? := by
  intro j hj
  rw [List.getElem?_set]
  by_cases e : i = j
  · subst e
    rw [if_pos rfl, if_pos (by omega), List.getD_eq_getElem?_getD, List.getElem?_eq_getElem hi]
    rfl
  · rw [if_neg e]
    exact h j (by omega)
theorem all_kept {α : Type} (l out : List α) (ho : out.length = l.length) (h : ∀ j, j < l.length → out[j]? = l[j]?) : out = l := by
  apply List.ext_getElem?
  intro j
  by_cases hj : j < l.length
  · exact h j hj
  · rw [List.getElem?_eq_none (by omega), List.getElem?_eq_none (by omega)]

theorem inS (a b c : Int) : spec_l1In.f a b c = some (decide (b ≤ a) && decide (a ≤ c)) := by
  unfold spec_l1In.f
  by_cases h : a ≥ b
  · rw [if_pos h]; simp [show b ≤ a from h]
  · rw [if_neg h]; simp [show ¬ b ≤ a from h]

theorem inI (a b c : Int) : impl_in.f a b c = some (decide (b ≤ a) && decide (a ≤ c)) := by
  unfold impl_in.f
  by_cases h : a ≥ b
  · rw [if_pos h]; simp [show b ≤ a from h]
  · rw [if_neg h]; simp [show ¬ b ≤ a from h]

theorem len_cap {l : Nat} (h : l ≤ maxLen) : (l : Int) ≤ 9223372036854775807 := by
  have : maxLen ≤ 9223372036854775807 := by decide
  omega
def cv (x : S77) : S75 := ⟨x.f0, x.f1⟩
theorem toNode_loop (l : List S77) (hl : l.length ≤ 1048576) : ∀ (m i : Nat) (out : List S75), i + m = l.length → out.length = l.length → (∀ j, j < i → out[j]? = (l.map cv)[j]?) → Ev (fun k => laws_toNodeS.l0 k l out (i : Int)) (l.map cv) := by
  intro m
  induction m with
  | zero =>
    intro i out hi ho h
    refine ev_succ ?_
    simp only [laws_toNodeS.l0]
    refine ev_neg (by omega) ?_
    exact ev_of (congrArg some (all_kept _ out (by simpa using ho) (fun j hj => h j (by simp at hj; omega))))
  | succ m ih =>
    intro i out hi ho h
    refine ev_succ ?_
    simp only [laws_toNodeS.l0, laws_toNode.f]
    refine ev_pos (by omega) (ev_pos (by omega) (ev_some (ev_pos (by omega) ?_)))
    rw [wrap_small (by omega) (by omega)]
    have hs := ih (i + 1) (out.set i ((l.map cv).getD i z75)) (by omega) (by simpa using ho) (set_keeps (l.map cv) out z75 i (by simp; omega) (by simpa using ho) h)
    rw [show (l.map cv).getD i z75 = cv (l[i]'(by omega)) by rw [List.getD_eq_getElem?_getD, List.getElem?_map, List.getElem?_eq_getElem (by omega)]; rfl] at hs
    have hg : rd_T77 l (i : Int) = l[i]'(by omega) := by unfold rd_T77; rw [Int.toNat_natCast, List.getD_eq_getElem?_getD, List.getElem?_eq_getElem (by omega)]; rfl
    rw [hg, Int.toNat_natCast]
    exact hs
theorem toNode_ev (l : List S77) (hl : l.length ≤ 1048576) : Ev (fun k => laws_toNodeS.f k l) (l.map cv) := by
  simp only [laws_toNodeS.f]
  refine ev_pos (by omega) (ev_pos (by omega) ?_)
  exact toNode_loop l hl l.length 0 (List.replicate ((l.length : Int)).toNat z75) (by omega) (by simp) (fun j hj => by omega)
theorem eqNode_loop (l : List S75) (hl : l.length ≤ 1048576) : ∀ (m i : Nat), i + m = l.length → Ev (fun k => laws_eqNodeS.l0 k l l (i : Int)) true := by
  intro m
  induction m with
  | zero =>
    intro i hi
    refine ev_succ ?_
    simp only [laws_eqNodeS.l0]
    exact ev_neg (by omega) (ev_of rfl)
  | succ m ih =>
    intro i hi
    refine ev_succ ?_
    simp only [laws_eqNodeS.l0, laws_eqNode.f]
    refine ev_pos (by omega) (ev_pos (by omega) (ev_pos (by omega) ?_))
    simp only [if_true]
    refine ev_some (ev_pos rfl ?_)
    rw [wrap_small (by omega) (by omega)]
    exact ih (i + 1) (by omega)
theorem eqNode_ev (l : List S75) (hl : l.length ≤ 1048576) : Ev (fun k => laws_eqNodeS.f k l l) true := by
  simp only [laws_eqNodeS.f]
  refine ev_pos (by first | rfl | trivial) ?_
  exact eqNode_loop l hl l.length 0 (by omega)
theorem rd75 (l : List S75) (i : Nat) (h : i < l.length) : rd_T75 l (i : Int) = l[i] := by
  unfold rd_T75; rw [Int.toNat_natCast, List.getD_eq_getElem?_getD, List.getElem?_eq_getElem h]; rfl

def need (o : Int) : Int := if o = 2 then 1 else if 3 ≤ o ∧ o ≤ 5 then 2 else 0
def okN (n d : Int) (x : S75) : Bool := decide (1 ≤ x.f0 ∧ x.f0 ≤ 7 ∧ need x.f0 ≤ d ∧ (if x.f0 = 1 then 0 ≤ x.f1 ∧ x.f1 < n else x.f1 = 0))
/-- The depth of the stack behind a list. -/
def lv (n : Int) : Int → List S75 → Bool
  | d, [] => d == 1
  | d, x :: r => if okN n d x then lv n (d - need x.f0 + 1) r else false
def LV (n : Int) (l : List S75) : Bool := decide ((l.length : Int) ≤ 24) && lv n 0 l
theorem needS (o : Int) : spec_l2Need.f o = some (if 1 ≤ o ∧ o ≤ 7 then need o else -1) := by
  unfold spec_l2Need.f
  rw [inS]
  by_cases h : 1 ≤ o ∧ o ≤ 7
  · have hc : o = 1 ∨ o = 2 ∨ o = 3 ∨ o = 4 ∨ o = 5 ∨ o = 6 ∨ o = 7 := by omega
    rcases hc with rfl | rfl | rfl | rfl | rfl | rfl | rfl <;> rfl
  · rw [if_neg h]
    have : (decide (1 ≤ o) && decide (o ≤ 7)) = false := by simp; omega
    rw [this]
    rfl
theorem need_b (o : Int) : 0 ≤ need o ∧ need o ≤ 2 := by
  unfold need
  split
  · omega
  · split <;> omega
theorem lvS_loop (n : Int) (l : List S75) (hl : l.length ≤ 1048576) : ∀ (m i : Nat) (d : Int), i + m = l.length → 0 ≤ d → d ≤ i → Ev (fun k => spec_LogicValid.l0 k l n d (i : Int)) (decide ((l.length : Int) ≤ 24) && lv n d (l.drop i)) := by
  intro m
  induction m with
  | zero =>
    intro i d hi h0 h1
    refine ev_succ ?_
    simp only [spec_LogicValid.l0]
    refine ev_neg (by omega) ?_
    rw [List.drop_eq_nil_of_le (by omega)]
    by_cases h : (l.length : Int) ≤ 24
    · exact ev_pos h (ev_of (by simp [h, lv]))
    · exact ev_neg h (ev_of (by simp [h]))
  | succ m ih =>
    intro i d hi h0 h1
    refine ev_succ ?_
    simp only [spec_LogicValid.l0]
    refine ev_pos (by omega) (ev_pos (by omega) ?_)
    rw [rd75 l i (by omega), List.drop_eq_getElem_cons (show i < l.length by omega)]
    generalize l[i] = x
    rw [needS]
    refine ev_some ?_
    have hb := need_b x.f0
    have bad : okN n d x = false → Ev (fun _ : Nat => some false) (decide ((l.length : Int) ≤ 24) && lv n d (x :: l.drop (i + 1))) := by
      intro h
      refine ev_of ?_
      simp [lv, h]
    have good : okN n d x = true → Ev (fun k => spec_LogicValid.l0 k l n (wrap64 ((wrap64 (d - need x.f0)) + 1)) (wrap64 ((i : Int) + 1))) (decide ((l.length : Int) ≤ 24) && lv n d (x :: l.drop (i + 1))) := by
      intro h
      have h2 : need x.f0 ≤ d := by simp [okN] at h; omega
      rw [wrap_small (i := d - need x.f0) (by omega) (by omega), wrap_small (i := d - need x.f0 + 1) (by omega) (by omega), wrap_small (i := (i : Int) + 1) (by omega) (by omega)]
      have := ih (i + 1) (d - need x.f0 + 1) (by omega) (by omega) (by omega)
      rw [show lv n d (x :: l.drop (i + 1)) = lv n (d - need x.f0 + 1) (l.drop (i + 1)) by simp [lv, h]]
      exact this
    by_cases hr : 1 ≤ x.f0 ∧ x.f0 ≤ 7
    · rw [if_pos hr]
      refine ev_neg (by omega) ?_
      by_cases hd : need x.f0 > d
      · exact ev_pos hd (bad (by simp [okN]; omega))
      · refine ev_neg hd ?_
        by_cases h1' : x.f0 = 1
        · refine ev_pos h1' ?_
          by_cases ha : x.f1 < 0
          · exact ev_pos ha (bad (by simp [okN, h1']; omega))
          · refine ev_neg ha ?_
            by_cases hc : x.f1 ≥ n
            · exact ev_pos hc (bad (by simp [okN, h1']; omega))
            · exact ev_neg hc (good (by simp only [okN, if_pos h1', decide_eq_true_eq]; omega))
        · refine ev_neg h1' ?_
          by_cases ha : x.f1 = 0
          · exact ev_pos ha (good (by simp only [okN, if_neg h1', decide_eq_true_eq]; omega))
          · exact ev_neg ha (bad (by simp [okN, h1', ha]))
    · rw [if_neg hr]
      exact ev_pos (by omega) (bad (by simp only [okN, decide_eq_false_iff_not]; omega))
theorem lvS (n : Int) (l : List S75) (hl : l.length ≤ 1048576) : Ev (fun k => spec_LogicValid.f k l n) (LV n l) := by
  simp only [spec_LogicValid.f]
  exact lvS_loop n l hl l.length 0 0 (by omega) (by omega) (by omega)
theorem lvI_loop (n : Int) (l : List S75) (hl : l.length ≤ 1048576) : ∀ (m i : Nat) (d : Int), i + m = l.length → 0 ≤ d → d ≤ i → Ev (fun k => impl_LogicValid.l0 k n d l (l.length : Int) (i : Int)) (lv n d (l.drop i)) := by
  intro m
  induction m with
  | zero =>
    intro i d hi h0 h1
    refine ev_succ ?_
    simp only [impl_LogicValid.l0]
    refine ev_neg (by omega) ?_
    rw [List.drop_eq_nil_of_le (by omega)]
    exact ev_of rfl
  | succ m ih =>
    intro i d hi h0 h1
    refine ev_succ ?_
    simp only [impl_LogicValid.l0]
    refine ev_pos (by omega) (ev_pos (by omega) (ev_pos (by omega) ?_))
    rw [rd75 l i (by omega), List.drop_eq_getElem_cons (show i < l.length by omega)]
    generalize l[i] = x
    have hb := need_b x.f0
    have bad : okN n d x = false → Ev (fun _ : Nat => some false) (lv n d (x :: l.drop (i + 1))) := by
      intro h
      refine ev_of ?_
      simp [lv, h]
    have good : ∀ d', okN n d x = true → d' = d - need x.f0 + 1 → 0 ≤ d' → d' ≤ i + 1 → Ev (fun k => impl_LogicValid.l0 k n d' l (l.length : Int) (wrap64 ((i : Int) + 1))) (lv n d (x :: l.drop (i + 1))) := by
      intro d' h e h2 h3
      rw [wrap_small (i := (i : Int) + 1) (by omega) (by omega)]
      have := ih (i + 1) d' (by omega) (by omega) (by omega)
      rw [show lv n d (x :: l.drop (i + 1)) = lv n d' (l.drop (i + 1)) by simp [lv, h, e]]
      exact this
    have w1 : wrap64 (d + 1) = d + 1 := wrap_small (by omega) (by omega)
    have w2 : wrap64 (d - 1) = d - 1 := wrap_small (by omega) (by omega)
    by_cases h1' : x.f0 = 1
    · refine ev_pos h1' (ev_succ ?_)
      simp only [impl_LogicValid.j1]
      refine ev_neg (by simp) (ev_pos h1' ?_)
      by_cases ha : x.f1 < 0
      · exact ev_pos ha (bad (by simp [okN, h1']; omega))
      · refine ev_neg ha ?_
        by_cases hc : x.f1 ≥ n
        · exact ev_pos hc (bad (by simp [okN, h1']; omega))
        · refine ev_neg hc ?_
          rw [w1]
          exact good _ (by simp only [okN, if_pos h1', decide_eq_true_eq]; rw [h1']; simp [need]; omega) (by rw [h1']; simp [need]) (by omega) (by omega)
    · refine ev_neg h1' (ev_succ ?_)
      simp only [impl_LogicValid.j1]
      by_cases hz : x.f1 = 0
      · refine ev_neg (by simp [hz]) (ev_neg h1' ?_)
        have hj3 : x.f0 ≠ 2 → x.f0 ≠ 6 → x.f0 ≠ 7 → ∀ b : Bool, b = decide (3 ≤ x.f0 ∧ x.f0 ≤ 5) → Ev (fun k => impl_LogicValid.j3 k n d l (l.length : Int) (i : Int) b) (lv n d (x :: l.drop (i + 1))) := by
          intro g2 g6 g7 b hbb
          refine ev_succ ?_
          simp only [impl_LogicValid.j3]
          by_cases hr : 3 ≤ x.f0 ∧ x.f0 ≤ 5
          · have hn : need x.f0 = 2 := by unfold need; rw [if_neg g2, if_pos hr]
            refine ev_pos (by rw [hbb]; exact decide_eq_true hr) ?_
            by_cases hd : d < 2
            · exact ev_pos hd (bad (by simp [okN, hn]; omega))
            · refine ev_neg hd ?_
              rw [w2]
              exact good _ (by simp only [okN, if_neg h1', decide_eq_true_eq, hn]; omega) (by omega) (by omega) (by omega)
          · refine ev_neg (by rw [hbb]; simpa using hr) (bad ?_)
            simp only [okN, decide_eq_false_iff_not]
            omega
        have hj2 : ∀ b : Bool, b = decide (x.f0 = 6 ∨ x.f0 = 7) → Ev (fun k => impl_LogicValid.j2 k n d l (l.length : Int) (i : Int) x.f0 b) (lv n d (x :: l.drop (i + 1))) := by
          intro b hbb
          refine ev_succ ?_
          simp only [impl_LogicValid.j2]
          by_cases h67 : x.f0 = 6 ∨ x.f0 = 7
          · have hn : need x.f0 = 0 := by unfold need; rw [if_neg (by omega), if_neg (by omega)]
            refine ev_pos (by rw [hbb]; exact decide_eq_true h67) ?_
            rw [w1]
            exact good _ (by simp only [okN, if_neg h1', decide_eq_true_eq, hn]; omega) (by omega) (by omega) (by omega)
          · refine ev_neg (by rw [hbb]; simpa using h67) ?_
            by_cases h2 : x.f0 = 2
            · have hn : need x.f0 = 1 := by unfold need; rw [if_pos h2]
              refine ev_pos h2 ?_
              by_cases hd : d < 1
              · exact ev_pos hd (bad (by simp [okN, hn]; omega))
              · exact ev_neg hd (good _ (by simp only [okN, if_neg h1', decide_eq_true_eq, hn]; omega) (by omega) (by omega) (by omega))
            · refine ev_neg h2 ?_
              have e3 : ¬ x.f0 = 6 := fun h => h67 (.inl h)
              have e4 : ¬ x.f0 = 7 := fun h => h67 (.inr h)
              by_cases g3 : x.f0 = 3
              · exact ev_pos g3 (hj3 h2 e3 e4 _ (by simp [g3]))
              · refine ev_neg g3 ?_
                by_cases g4 : x.f0 = 4
                · exact ev_pos g4 (hj3 h2 e3 e4 _ (by simp [g4]))
                · refine ev_neg g4 (hj3 h2 e3 e4 _ ?_)
                  by_cases g5 : x.f0 = 5
                  · simp [g5]
                  · rw [show (x.f0 == 5) = false by simpa using g5]
                    symm
                    simp only [decide_eq_false_iff_not]
                    omega
        by_cases g6 : x.f0 = 6
        · exact ev_pos g6 (hj2 _ (by simp [g6]))
        · refine ev_neg g6 (hj2 _ ?_)
          by_cases g7 : x.f0 = 7
          · simp [g7]
          · rw [show (x.f0 == 7) = false by simpa using g7]
            simp [g6, g7]
      · refine ev_pos (by simpa using hz) (bad (by simp [okN, h1', hz]))
theorem lvI (n : Int) (l : List S75) (hl : l.length ≤ 1048576) : Ev (fun k => impl_LogicValid.f k l n) (LV n l) := by
  simp only [impl_LogicValid.f]
  rw [inI]
  refine ev_some ?_
  unfold LV
  by_cases h0 : l.length = 0
  · have : l = [] := List.eq_nil_of_length_eq_zero h0
    subst this
    exact ev_neg (by simp) (ev_of rfl)
  · by_cases h : (l.length : Int) ≤ 24
    · refine ev_pos (by simp; omega) ?_
      rw [decide_eq_true h, Bool.true_and]
      exact lvI_loop n l hl l.length 0 0 (by omega) (by omega) (by omega)
    · refine ev_neg (by simp; omega) (ev_of (by simp [h]))

def mkN (n : Nat) : List S75 := (List.range n).map fun j : Nat => ⟨1 + 2 * (j : Int), 1 + 2 * (j : Int) + 1⟩
theorem mkN_len (n : Nat) : (mkN n).length = n := by simp [mkN]
theorem mkN_get (n i : Nat) (h : i < n) : (mkN n)[i]? = some ⟨1 + 2 * (i : Int), 1 + 2 * (i : Int) + 1⟩ := by simp [mkN, h]
theorem rdset (l : List S75) (i : Nat) (h : i < l.length) (u : S75) : rd_T75 (l.set i u) (i : Int) = u := by
  unfold rd_T75
  simp [List.getD_eq_getElem?_getD, h]
theorem markN_loop (l : List S75) (hl : l.length ≤ 1048576) : ∀ (m i : Nat) (out : List S75), i + m = l.length → out.length = l.length → (∀ j, j < i → out[j]? = (mkN l.length)[j]?) → Ev (fun k => laws_markNodeS.l0 k out (1 + 2 * (i : Int)) (i : Int)) (1 + 2 * (l.length : Int), mkN l.length) := by
  intro m
  induction m with
  | zero =>
    intro i out hi ho h
    refine ev_succ ?_
    simp only [laws_markNodeS.l0]
    refine ev_neg (by omega) ?_
    have e : out = mkN l.length := all_kept _ _ (by rw [mkN_len, ho]) (fun j hj => h j (by rw [mkN_len] at hj; omega))
    exact ev_of (by rw [e, show i = l.length by omega])
  | succ m ih =>
    intro i out hi ho h
    refine ev_succ ?_
    simp only [laws_markNodeS.l0]
    refine ev_pos (by omega) (ev_pos (by omega) (ev_some ?_))
    rw [Int.toNat_natCast, rdset out i (by omega), List.set_set]
    have w1 : wrap64 (1 + 2 * (i : Int) + 1) = 1 + 2 * (i : Int) + 1 := wrap_small (by omega) (by omega)
    rw [w1, wrap_small (by omega) (by omega), wrap_small (by omega) (by omega)]
    have hg := mkN_get l.length i (by omega)
    have hs := ih (i + 1) (out.set i ((mkN l.length).getD i z75)) (by omega) (by simpa using ho) (set_keeps _ out z75 i (by rw [mkN_len]; omega) (by rw [mkN_len, ho]) h)
    rw [List.getD_eq_getElem?_getD, hg] at hs
    simp only [Option.getD_some] at hs
    have e1 : 1 + 2 * (i : Int) + 1 + 1 = 1 + 2 * ((i + 1 : Nat) : Int) := by omega
    rw [e1]
    exact hs
theorem markN_ev (l : List S75) (hl : l.length ≤ 1048576) : Ev (fun k => laws_markNodeS.f k l 1) (1 + 2 * (l.length : Int), mkN l.length) := by
  simp only [laws_markNodeS.f]
  exact markN_loop l hl l.length 0 l (by omega) rfl (fun j hj => by omega)

theorem heldN_loop (n : Nat) (hn : n ≤ 1048576) : ∀ (m i : Nat), i + m = n → Ev (fun k => laws_heldNodeS.l0 k (mkN n) (1 + 2 * (i : Int)) (i : Int)) (1 + 2 * (n : Int)) := by
  intro m
  induction m with
  | zero =>
    intro i hi
    refine ev_succ ?_
    simp only [laws_heldNodeS.l0]
    exact ev_neg (by rw [mkN_len]; omega) (ev_of (by rw [show i = n by omega]))
  | succ m ih =>
    intro i hi
    refine ev_succ ?_
    simp only [laws_heldNodeS.l0]
    have hg := mkN_get n i (by omega)
    have hr : rd_T75 (mkN n) (i : Int) = ⟨1 + 2 * (i : Int), 1 + 2 * (i : Int) + 1⟩ := by
      unfold rd_T75
      rw [Int.toNat_natCast, List.getD_eq_getElem?_getD, hg]
      rfl
    have w1 : wrap64 (1 + 2 * (i : Int) + 1) = 1 + 2 * (i : Int) + 1 := wrap_small (by omega) (by omega)
    rw [hr, w1]
    refine ev_pos (by rw [mkN_len]; omega) (ev_pos (by omega) (ev_pos rfl (ev_pos rfl ?_)))
    rw [wrap_small (by omega) (by omega), wrap_small (by omega) (by omega)]
    have e1 : 1 + 2 * (i : Int) + 1 + 1 = 1 + 2 * ((i + 1 : Nat) : Int) := by omega
    rw [e1]
    exact ih (i + 1) (by omega)
theorem heldN_ev (n : Nat) (hn : n ≤ 1048576) : Ev (fun k => laws_heldNodeS.f k (mkN n) 1) (1 + 2 * (n : Int)) := by
  simp only [laws_heldNodeS.f]
  exact heldN_loop n hn n 0 (by omega)

def last (l : List S75) : S75 := rd_T75 l ((l.length : Int) - 1)
def Ng (l : List S75) : List S75 := if LV 16 l then (if (last l).f0 = 2 then l.take (l.length - 1) else if (l.length : Int) = 24 then [] else l ++ [⟨2, 0⟩]) else []
theorem LV_len {n : Int} {l : List S75} (h : LV n l = true) : 1 ≤ l.length ∧ l.length ≤ 24 := by
  unfold LV at h
  rw [Bool.and_eq_true] at h
  have h1 : (l.length : Int) ≤ 24 := of_decide_eq_true h.1
  refine ⟨?_, by omega⟩
  cases l with
  | nil => exact absurd h.2 (by simp [lv])
  | cons x r => simp
theorem Ng_no {l : List S75} (h : ¬ LV 16 l = true) : Ng l = [] := by unfold Ng; rw [if_neg h]
theorem Ng_not {l : List S75} (h : LV 16 l = true) (h2 : (last l).f0 = 2) : Ng l = l.take (l.length - 1) := by unfold Ng; rw [if_pos h, if_pos h2]
theorem Ng_full {l : List S75} (h : LV 16 l = true) (h2 : ¬ (last l).f0 = 2) (h3 : (l.length : Int) = 24) : Ng l = [] := by unfold Ng; rw [if_pos h, if_neg h2, if_pos h3]
theorem Ng_add {l : List S75} (h : LV 16 l = true) (h2 : ¬ (last l).f0 = 2) (h3 : ¬ (l.length : Int) = 24) : Ng l = l ++ [⟨2, 0⟩] := by unfold Ng; rw [if_pos h, if_neg h2, if_neg h3]
theorem Ng_len (l : List S75) : (Ng l).length ≤ 25 := by
  unfold Ng
  split
  · rename_i h
    have := LV_len h
    split
    · rw [List.length_take]; omega
    · split <;> simp
      omega
  · simp
theorem ngS (l : List S75) (hl : l.length ≤ 1048576) : Ev (fun k => spec_NegateLogic.f k l) (Ng l) := by
  simp only [spec_NegateLogic.f]
  refine Ev.bind (lvS 16 l hl) ?_
  by_cases h : LV 16 l = true
  · have hb := LV_len h
    have w1 : wrap64 ((l.length : Int) - 1) = (l.length : Int) - 1 := wrap_small (by omega) (by omega)
    rw [w1]
    refine ev_pos h (ev_pos (by omega) (ev_pos (by omega) ?_))
    by_cases h2 : (rd_T75 l ((l.length : Int) - 1)).f0 = 2
    · rw [Ng_not h h2]
      refine ev_pos h2 (ev_some (ev_pos (by omega) (ev_some (ev_pos ?_ (ev_of ?_)))))
      · rw [List.length_take]; simp; omega
      · rw [show ((l.length : Int) - 1).toNat = l.length - 1 by omega]; rfl
    · refine ev_neg h2 ?_
      by_cases h3 : (l.length : Int) = 24
      · rw [Ng_full h h2 h3]; exact ev_pos h3 (ev_of rfl)
      · rw [Ng_add h h2 h3]
        refine ev_neg h3 (ev_some (ev_pos (by simp; omega) (ev_some (ev_pos (by simp; omega) (ev_of rfl)))))
  · rw [Ng_no h]
    exact ev_neg h (ev_of rfl)
theorem cat (l : List S75) (x : S75) (hl : l.length ≤ 24) : Ev (fun k => impl_Node_71.f k [l, [x]]) (l ++ [x]) := by
  simp only [impl_Node_71.f]
  have e0 : (([l, [x]] : List (List S75)).length : Int) = 2 := rfl
  have r0 : rd_L3 [l, [x]] 0 = l := rfl
  have r1 : rd_L3 [l, [x]] 1 = [x] := rfl
  rw [e0]
  refine ev_succ ?_
  simp only [impl_Node_71.l0]
  rw [r0, e0, show wrap64 (0 + (l.length : Int)) = (l.length : Int) from by unfold wrap64; omega, show wrap64 (0 + 1) = 1 from by unfold wrap64; omega]
  refine ev_pos (by omega) (ev_pos (by omega) (ev_pos (by omega) (ev_neg (by omega) (ev_succ ?_))))
  simp only [impl_Node_71.l0]
  rw [r1, e0, show wrap64 ((l.length : Int) + (([x] : List S75).length : Int)) = (l.length : Int) + 1 from by unfold wrap64; simp; omega, show wrap64 (1 + 1) = 2 from by unfold wrap64; omega]
  refine ev_pos (by omega) (ev_pos (by omega) (ev_pos (by omega) (ev_neg (by omega) (ev_succ ?_))))
  simp only [impl_Node_71.l0]
  refine ev_neg (by omega) ?_
  have hg : impl_Node_96.f [] ((l.length : Int) + 1) = some [] := by
    unfold impl_Node_96.f
    rw [if_pos ⟨rfl, by omega, by omega⟩]
  rw [hg, e0]
  refine ev_some (ev_succ ?_)
  simp only [impl_Node_71.l1]
  rw [r0, e0, show wrap64 (0 + 1) = 1 from by unfold wrap64; omega]
  refine ev_pos (by omega) (ev_pos (by omega) (ev_pos (by omega) (ev_pos (by simp; omega) (ev_succ ?_))))
  simp only [impl_Node_71.l1]
  rw [r1, e0, show wrap64 (1 + 1) = 2 from by unfold wrap64; omega]
  refine ev_pos (by omega) (ev_pos (by omega) (ev_pos (by omega) (ev_pos (by simp; omega) (ev_succ ?_))))
  simp only [impl_Node_71.l1]
  exact ev_neg (by omega) (ev_of (by simp))
theorem ngI (l : List S75) (hl : l.length ≤ 1048576) : Ev (fun k => impl_NegateLogic.f k l) (Ng l) := by
  simp only [impl_NegateLogic.f]
  refine Ev.bind (lvI 16 l hl) ?_
  by_cases h : LV 16 l = true
  · have hb := LV_len h
    have w1 : wrap64 ((l.length : Int) - 1) = (l.length : Int) - 1 := wrap_small (by omega) (by omega)
    rw [w1]
    refine ev_pos h (ev_pos (by omega) (ev_pos (by omega) ?_))
    by_cases h2 : (rd_T75 l ((l.length : Int) - 1)).f0 = 2
    · rw [Ng_not h h2]
      refine ev_pos h2 (ev_pos (by omega) ?_)
      have hc : impl_Node_70.f (l.take ((l.length : Int) - 1).toNat) = some (l.take (l.length - 1)) := by
        rw [show ((l.length : Int) - 1).toNat = l.length - 1 by omega]
        unfold impl_Node_70.f impl_Node_95.f impl_Node_94.f
        rw [if_pos (by rw [List.length_take]; omega)]
        rfl
      rw [hc]
      exact ev_of rfl
    · refine ev_neg h2 ?_
      by_cases h3 : (l.length : Int) = 24
      · rw [Ng_full h h2 h3]; exact ev_pos h3 (ev_of rfl)
      · rw [Ng_add h h2 h3]
        exact ev_neg h3 (Ev.bind (cat l _ hb.2) (ev_of rfl))
  · rw [Ng_no h]
    exact ev_neg h (ev_of rfl)

theorem pure_holds : Pure := by
  intro l hl
  refine Ev.rounds ?_
  simp only [laws_FnExactNegateLogic.f, laws_szNodeS.f]
  have hlm := len_cap hl.1
  have hlm2 : wrap64 (1048576 - (l.length : Int)) = 1048576 - (l.length : Int) := wrap_small (by omega) (by omega)
  by_cases hb : wrap64 (1048576 - (l.length : Int)) < 0
  · rw [if_pos hb]
    exact ev_some (ev_pos (by decide) (ev_of rfl))
  · rw [if_neg hb]
    rw [hlm2] at hb ⊢
    refine ev_some (ev_neg hb ?_)
    have hln : l.length ≤ 1048576 := by omega
    have hmn : (l.map cv).length ≤ 1048576 := by simpa using hln
    have t := toNode_ev l hln
    have hN := Ng_len (l.map cv)
    have e := eqNode_ev (Ng (l.map cv)) (by omega)
    have hh := heldN_ev (Ng (l.map cv)).length (by omega)
    refine Ev.bind t (Ev.bind (ngS _ hmn) (Ev.bind t (Ev.bind (ngI _ hmn) (Ev.bind e (ev_pos rfl ?_)))))
    refine Ev.bind t (Ev.bind (eqNode_ev _ hmn) (ev_pos rfl ?_))
    refine Ev.bind (markN_ev _ hmn) ?_
    dsimp only
    refine ev_neg (by omega) (Ev.bind e (ev_succ ?_))
    simp only [laws_FnExactNegateLogic.j0]
    refine ev_neg (by simp) (Ev.bind (markN_ev _ (by omega)) ?_)
    dsimp only
    refine Ev.bind hh (ev_neg (by omega) (ev_pos rfl ?_))
    refine Ev.bind t (Ev.bind (ngI _ hmn) (Ev.bind e (ev_pos rfl ?_)))
    refine Ev.bind hh (ev_neg (by omega) (ev_pos rfl (ev_of rfl)))

end Go.Proofs.Ytmlhkalgaeemaaa.fnExactNegateLogic

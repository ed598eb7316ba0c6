/- The law FnExactRungsIndependent answers true for every two rungs; no condition but that the numbers are of their kind. -/
import Derived.Test.YtmlhkalgaeemaaaStFnExactRungsIndependent
namespace Go.Proofs.Ytmlhkalgaeemaaa.fnExactRungsIndependent
open Go.RowKit Go.Proofs.Ytmlhkalgaeemaaa.GFnExactRungsIndependent Go.Proofs.YtmlhkalgaeemaaaV.PrintWords Go.Proofs.YtmlhkalgaeemaaaV.PrintLast Go.Proofs.YtmlhkalgaeemaaaV.PrintMore
set_option linter.unusedVariables false
set_option linter.unusedSimpArgs false

theorem ev_succ {α : Type} {g : Nat → Option α} {r : α} (h : Ev (fun k => g (k + 1)) r) : Ev g r := Ev.step (fun _ => rfl) h
theorem ev_pos {α : Type} {c : Prop} [Decidable c] {g f : Nat → Option α} {r : α} (hc : c) (h : Ev g r) : Ev (fun k => if c then g k else f k) r := Ev.congr (fun _ => if_pos hc) h
theorem ev_neg {α : Type} {c : Prop} [Decidable c] {g f : Nat → Option α} {r : α} (hc : ¬ c) (h : Ev f r) : Ev (fun k => if c then g k else f k) r := Ev.congr (fun _ => if_neg hc) h
theorem ev_some {α β : Type} {a : α} {f : Nat → α → Option β} {r : β} (h : Ev (fun k => f k a) r) : Ev (fun k => (some a).bind (f k)) r := h
theorem ev_of {α : Type} {a : Option α} {r : α} (h : a = some r) : Ev (fun _ => a) r := ⟨0, fun _ _ => h⟩
theorem ev_eq {α : Type} {g : Nat → Option α} {r r' : α} (h : Ev g r) (e : r = r') : Ev g r' := e ▸ h
theorem wrap_small {i : Int} (h0 : -9223372036854775808 ≤ i) (h1 : i ≤ 9223372036854775807) : wrap64 i = i := by unfold wrap64; omega
theorem wf_bounds {x : Int} (h : (Lit.int .i64 x).wf = true) : -9223372036854775808 ≤ x ∧ x ≤ 9223372036854775807 := by
  simp [Lit.wf, IntKind.min, IntKind.max, IntKind.signed, IntKind.bits] at h
  omega
theorem set_keeps {α : Type} (l out : List α) (d : α) (i : Nat) (hi : i < l.length) (ho : out.length = l.length) (h : ∀ j, j < i → out[j]? = l[j]?) : ∀ j, j < i + 1 → (out.set i (l.getD i d))[j]? = l[j]? := by
  intro j hj
  rw [List.getElem?_set]
  by_cases e : i = j
  · subst e
    rw [if_pos rfl, if_pos (by omega), List.getD_eq_getElem?_getD, List.getElem?_eq_getElem hi]
    rfl
  · rw [if_neg e]
    exact h j (by omega)
theorem all_kept {α : Type} (l out : List α) (ho : out.length = l.length) (h : ∀ j, j < l.length → out[j]? = l[j]?) : out = l := by
  apply List.ext_getElem?
  intro j
  by_cases hj : j < l.length
  · exact h j hj
  · rw [List.getElem?_eq_none (by omega), List.getElem?_eq_none (by omega)]

theorem inS (a b c : Int) : spec_l1In.f a b c = some (decide (b ≤ a) && decide (a ≤ c)) := by
  unfold spec_l1In.f
  by_cases h : a ≥ b
  · rw [if_pos h]; simp [show b ≤ a from h]
  · rw [if_neg h]; simp [show ¬ b ≤ a from h]

theorem inI (a b c : Int) : impl_in.f a b c = some (decide (b ≤ a) && decide (a ≤ c)) := by
  unfold impl_in.f
  by_cases h : a ≥ b
  · rw [if_pos h]; simp [show b ≤ a from h]
  · rw [if_neg h]; simp [show ¬ b ≤ a from h]

theorem len_cap {l : Nat} (h : l ≤ maxLen) : (l : Int) ≤ 9223372036854775807 := by
  have : maxLen ≤ 9223372036854775807 := by decide
  omega
def cv (x : S77) : S75 := ⟨x.f0, x.f1⟩
theorem toNode_loop (l : List S77) (hl : l.length ≤ 1048576) : ∀ (m i : Nat) (out : List S75), i + m = l.length → out.length = l.length → (∀ j, j < i → out[j]? = (l.map cv)[j]?) → Ev (fun k => laws_toNodeS.l0 k l out (i : Int)) (l.map cv) := by
  intro m
  induction m with
  | zero =>
    intro i out hi ho h
    refine ev_succ ?_
    simp only [laws_toNodeS.l0]
    refine ev_neg (by omega) ?_
    exact ev_of (congrArg some (all_kept _ out (by simpa using ho) (fun j hj => h j (by simp at hj; omega))))
  | succ m ih =>
    intro i out hi ho h
    refine ev_succ ?_
    simp only [laws_toNodeS.l0, laws_toNode.f]
    refine ev_pos (by omega) (ev_pos (by omega) (ev_some (ev_pos (by omega) ?_)))
    rw [wrap_small (by omega) (by omega)]
    have hs := ih (i + 1) (out.set i ((l.map cv).getD i z75)) (by omega) (by simpa using ho) (set_keeps (l.map cv) out z75 i (by simp; omega) (by simpa using ho) h)
    rw [show (l.map cv).getD i z75 = cv (l[i]'(by omega)) by rw [List.getD_eq_getElem?_getD, List.getElem?_map, List.getElem?_eq_getElem (by omega)]; rfl] at hs
    have hg : rd_T77 l (i : Int) = l[i]'(by omega) := by unfold rd_T77; rw [Int.toNat_natCast, List.getD_eq_getElem?_getD, List.getElem?_eq_getElem (by omega)]; rfl
    rw [hg, Int.toNat_natCast]
    exact hs
theorem toNode_ev (l : List S77) (hl : l.length ≤ 1048576) : Ev (fun k => laws_toNodeS.f k l) (l.map cv) := by
  simp only [laws_toNodeS.f]
  refine ev_pos (by omega) (ev_pos (by omega) ?_)
  exact toNode_loop l hl l.length 0 (List.replicate ((l.length : Int)).toNat z75) (by omega) (by simp) (fun j hj => by omega)
theorem eqNode_loop (l : List S75) (hl : l.length ≤ 1048576) : ∀ (m i : Nat), i + m = l.length → Ev (fun k => laws_eqNodeS.l0 k l l (i : Int)) true := by
  intro m
  induction m with
  | zero =>
    intro i hi
    refine ev_succ ?_
    simp only [laws_eqNodeS.l0]
    exact ev_neg (by omega) (ev_of rfl)
  | succ m ih =>
    intro i hi
    refine ev_succ ?_
    simp only [laws_eqNodeS.l0, laws_eqNode.f]
    refine ev_pos (by omega) (ev_pos (by omega) (ev_pos (by omega) ?_))
    simp only [if_true]
    refine ev_some (ev_pos rfl ?_)
    rw [wrap_small (by omega) (by omega)]
    exact ih (i + 1) (by omega)
theorem eqNode_ev (l : List S75) (hl : l.length ≤ 1048576) : Ev (fun k => laws_eqNodeS.f k l l) true := by
  simp only [laws_eqNodeS.f]
  refine ev_pos (by first | rfl | trivial) ?_
  exact eqNode_loop l hl l.length 0 (by omega)
theorem rd75 (l : List S75) (i : Nat) (h : i < l.length) : rd_T75 l (i : Int) = l[i] := by
  unfold rd_T75; rw [Int.toNat_natCast, List.getD_eq_getElem?_getD, List.getElem?_eq_getElem h]; rfl

def need (o : Int) : Int := if o = 2 then 1 else if 3 ≤ o ∧ o ≤ 5 then 2 else 0
def okN (n d : Int) (x : S75) : Bool := decide (1 ≤ x.f0 ∧ x.f0 ≤ 7 ∧ need x.f0 ≤ d ∧ (if x.f0 = 1 then 0 ≤ x.f1 ∧ x.f1 < n else x.f1 = 0))
/-- The depth of the stack behind a list. -/
def lv (n : Int) : Int → List S75 → Bool
  | d, [] => d == 1
  | d, x :: r => if okN n d x then lv n (d - need x.f0 + 1) r else false
def LV (n : Int) (l : List S75) : Bool := decide ((l.length : Int) ≤ 24) && lv n 0 l
theorem needS (o : Int) : spec_l2Need.f o = some (if 1 ≤ o ∧ o ≤ 7 then need o else -1) := by
  unfold spec_l2Need.f
  rw [inS]
  by_cases h : 1 ≤ o ∧ o ≤ 7
  · have hc : o = 1 ∨ o = 2 ∨ o = 3 ∨ o = 4 ∨ o = 5 ∨ o = 6 ∨ o = 7 := by omega
    rcases hc with rfl | rfl | rfl | rfl | rfl | rfl | rfl <;> rfl
  · rw [if_neg h]
    have : (decide (1 ≤ o) && decide (o ≤ 7)) = false := by simp; omega
    rw [this]
    rfl
theorem need_b (o : Int) : 0 ≤ need o ∧ need o ≤ 2 := by
  unfold need
  split
  · omega
  · split <;> omega
theorem lvS_loop (n : Int) (l : List S75) (hl : l.length ≤ 1048576) : ∀ (m i : Nat) (d : Int), i + m = l.length → 0 ≤ d → d ≤ i → Ev (fun k => spec_LogicValid.l0 k l n d (i : Int)) (decide ((l.length : Int) ≤ 24) && lv n d (l.drop i)) := by
  intro m
  induction m with
  | zero =>
    intro i d hi h0 h1
    refine ev_succ ?_
    simp only [spec_LogicValid.l0]
    refine ev_neg (by omega) ?_
    rw [List.drop_eq_nil_of_le (by omega)]
    by_cases h : (l.length : Int) ≤ 24
    · exact ev_pos h (ev_of (by simp [h, lv]))
    · exact ev_neg h (ev_of (by simp [h]))
  | succ m ih =>
    intro i d hi h0 h1
    refine ev_succ ?_
    simp only [spec_LogicValid.l0]
    refine ev_pos (by omega) (ev_pos (by omega) ?_)
    rw [rd75 l i (by omega), List.drop_eq_getElem_cons (show i < l.length by omega)]
    generalize l[i] = x
    rw [needS]
    refine ev_some ?_
    have hb := need_b x.f0
    have bad : okN n d x = false → Ev (fun _ : Nat => some false) (decide ((l.length : Int) ≤ 24) && lv n d (x :: l.drop (i + 1))) := by
      intro h
      refine ev_of ?_
      simp [lv, h]
    have good : okN n d x = true → Ev (fun k => spec_LogicValid.l0 k l n (wrap64 ((wrap64 (d - need x.f0)) + 1)) (wrap64 ((i : Int) + 1))) (decide ((l.length : Int) ≤ 24) && lv n d (x :: l.drop (i + 1))) := by
      intro h
      have h2 : need x.f0 ≤ d := by simp [okN] at h; omega
      rw [wrap_small (i := d - need x.f0) (by omega) (by omega), wrap_small (i := d - need x.f0 + 1) (by omega) (by omega), wrap_small (i := (i : Int) + 1) (by omega) (by omega)]
      have := ih (i + 1) (d - need x.f0 + 1) (by omega) (by omega) (by omega)
      rw [show lv n d (x :: l.drop (i + 1)) = lv n (d - need x.f0 + 1) (l.drop (i + 1)) by simp [lv, h]]
      exact this
    by_cases hr : 1 ≤ x.f0 ∧ x.f0 ≤ 7
    · rw [if_pos hr]
      refine ev_neg (by omega) ?_
      by_cases hd : need x.f0 > d
      · exact ev_pos hd (bad (by simp [okN]; omega))
      · refine ev_neg hd ?_
        by_cases h1' : x.f0 = 1
        · refine ev_pos h1' ?_
          by_cases ha : x.f1 < 0
          · exact ev_pos ha (bad (by simp [okN, h1']; omega))
          · refine ev_neg ha ?_
            by_cases hc : x.f1 ≥ n
            · exact ev_pos hc (bad (by simp [okN, h1']; omega))
            · exact ev_neg hc (good (by simp only [okN, if_pos h1', decide_eq_true_eq]; omega))
        · refine ev_neg h1' ?_
          by_cases ha : x.f1 = 0
          · exact ev_pos ha (good (by simp only [okN, if_neg h1', decide_eq_true_eq]; omega))
          · exact ev_neg ha (bad (by simp [okN, h1', ha]))
    · rw [if_neg hr]
      exact ev_pos (by omega) (bad (by simp only [okN, decide_eq_false_iff_not]; omega))
theorem lvS (n : Int) (l : List S75) (hl : l.length ≤ 1048576) : Ev (fun k => spec_LogicValid.f k l n) (LV n l) := by
  simp only [spec_LogicValid.f]
  exact lvS_loop n l hl l.length 0 0 (by omega) (by omega) (by omega)
theorem lvI_loop (n : Int) (l : List S75) (hl : l.length ≤ 1048576) : ∀ (m i : Nat) (d : Int), i + m = l.length → 0 ≤ d → d ≤ i → Ev (fun k => impl_LogicValid.l0 k n d l (l.length : Int) (i : Int)) (lv n d (l.drop i)) := by
  intro m
  induction m with
  | zero =>
    intro i d hi h0 h1
    refine ev_succ ?_
    simp only [impl_LogicValid.l0]
    refine ev_neg (by omega) ?_
    rw [List.drop_eq_nil_of_le (by omega)]
    exact ev_of rfl
  | succ m ih =>
    intro i d hi h0 h1
    refine ev_succ ?_
    simp only [impl_LogicValid.l0]
    refine ev_pos (by omega) (ev_pos (by omega) (ev_pos (by omega) ?_))
    rw [rd75 l i (by omega), List.drop_eq_getElem_cons (show i < l.length by omega)]
    generalize l[i] = x
    have hb := need_b x.f0
    have bad : okN n d x = false → Ev (fun _ : Nat => some false) (lv n d (x :: l.drop (i + 1))) := by
      intro h
      refine ev_of ?_
      simp [lv, h]
    have good : ∀ d', okN n d x = true → d' = d - need x.f0 + 1 → 0 ≤ d' → d' ≤ i + 1 → Ev (fun k => impl_LogicValid.l0 k n d' l (l.length : Int) (wrap64 ((i : Int) + 1))) (lv n d (x :: l.drop (i + 1))) := by
      intro d' h e h2 h3
      rw [wrap_small (i := (i : Int) + 1) (by omega) (by omega)]
      have := ih (i + 1) d' (by omega) (by omega) (by omega)
      rw [show lv n d (x :: l.drop (i + 1)) = lv n d' (l.drop (i + 1)) by simp [lv, h, e]]
      exact this
    have w1 : wrap64 (d + 1) = d + 1 := wrap_small (by omega) (by omega)
    have w2 : wrap64 (d - 1) = d - 1 := wrap_small (by omega) (by omega)
    by_cases h1' : x.f0 = 1
    · refine ev_pos h1' (ev_succ ?_)
      simp only [impl_LogicValid.j1]
      refine ev_neg (by simp) (ev_pos h1' ?_)
      by_cases ha : x.f1 < 0
      · exact ev_pos ha (bad (by simp [okN, h1']; omega))
      · refine ev_neg ha ?_
        by_cases hc : x.f1 ≥ n
        · exact ev_pos hc (bad (by simp [okN, h1']; omega))
        · refine ev_neg hc ?_
          rw [w1]
          exact good _ (by simp only [okN, if_pos h1', decide_eq_true_eq]; rw [h1']; simp [need]; omega) (by rw [h1']; simp [need]) (by omega) (by omega)
    · refine ev_neg h1' (ev_succ ?_)
      simp only [impl_LogicValid.j1]
      by_cases hz : x.f1 = 0
      · refine ev_neg (by simp [hz]) (ev_neg h1' ?_)
        have hj3 : x.f0 ≠ 2 → x.f0 ≠ 6 → x.f0 ≠ 7 → ∀ b : Bool, b = decide (3 ≤ x.f0 ∧ x.f0 ≤ 5) → Ev (fun k => impl_LogicValid.j3 k n d l (l.length : Int) (i : Int) b) (lv n d (x :: l.drop (i + 1))) := by
          intro g2 g6 g7 b hbb
          refine ev_succ ?_
          simp only [impl_LogicValid.j3]
          by_cases hr : 3 ≤ x.f0 ∧ x.f0 ≤ 5
          · have hn : need x.f0 = 2 := by unfold need; rw [if_neg g2, if_pos hr]
            refine ev_pos (by rw [hbb]; exact decide_eq_true hr) ?_
            by_cases hd : d < 2
            · exact ev_pos hd (bad (by simp [okN, hn]; omega))
            · refine ev_neg hd ?_
              rw [w2]
              exact good _ (by simp only [okN, if_neg h1', decide_eq_true_eq, hn]; omega) (by omega) (by omega) (by omega)
          · refine ev_neg (by rw [hbb]; simpa using hr) (bad ?_)
            simp only [okN, decide_eq_false_iff_not]
            omega
        have hj2 : ∀ b : Bool, b = decide (x.f0 = 6 ∨ x.f0 = 7) → Ev (fun k => impl_LogicValid.j2 k n d l (l.length : Int) (i : Int) x.f0 b) (lv n d (x :: l.drop (i + 1))) := by
          intro b hbb
          refine ev_succ ?_
          simp only [impl_LogicValid.j2]
          by_cases h67 : x.f0 = 6 ∨ x.f0 = 7
          · have hn : need x.f0 = 0 := by unfold need; rw [if_neg (by omega), if_neg (by omega)]
            refine ev_pos (by rw [hbb]; exact decide_eq_true h67) ?_
            rw [w1]
            exact good _ (by simp only [okN, if_neg h1', decide_eq_true_eq, hn]; omega) (by omega) (by omega) (by omega)
          · refine ev_neg (by rw [hbb]; simpa using h67) ?_
            by_cases h2 : x.f0 = 2
            · have hn : need x.f0 = 1 := by unfold need; rw [if_pos h2]
              refine ev_pos h2 ?_
              by_cases hd : d < 1
              · exact ev_pos hd (bad (by simp [okN, hn]; omega))
              · exact ev_neg hd (good _ (by simp only [okN, if_neg h1', decide_eq_true_eq, hn]; omega) (by omega) (by omega) (by omega))
            · refine ev_neg h2 ?_
              have e3 : ¬ x.f0 = 6 := fun h => h67 (.inl h)
              have e4 : ¬ x.f0 = 7 := fun h => h67 (.inr h)
              by_cases g3 : x.f0 = 3
              · exact ev_pos g3 (hj3 h2 e3 e4 _ (by simp [g3]))
              · refine ev_neg g3 ?_
                by_cases g4 : x.f0 = 4
                · exact ev_pos g4 (hj3 h2 e3 e4 _ (by simp [g4]))
                · refine ev_neg g4 (hj3 h2 e3 e4 _ ?_)
                  by_cases g5 : x.f0 = 5
                  · simp [g5]
                  · rw [show (x.f0 == 5) = false by simpa using g5]
                    symm
                    simp only [decide_eq_false_iff_not]
                    omega
        by_cases g6 : x.f0 = 6
        · exact ev_pos g6 (hj2 _ (by simp [g6]))
        · refine ev_neg g6 (hj2 _ ?_)
          by_cases g7 : x.f0 = 7
          · simp [g7]
          · rw [show (x.f0 == 7) = false by simpa using g7]
            simp [g6, g7]
      · refine ev_pos (by simpa using hz) (bad (by simp [okN, h1', hz]))
theorem lvI (n : Int) (l : List S75) (hl : l.length ≤ 1048576) : Ev (fun k => impl_LogicValid.f k l n) (LV n l) := by
  simp only [impl_LogicValid.f]
  rw [inI]
  refine ev_some ?_
  unfold LV
  by_cases h0 : l.length = 0
  · have : l = [] := List.eq_nil_of_length_eq_zero h0
    subst this
    exact ev_neg (by simp) (ev_of rfl)
  · by_cases h : (l.length : Int) ≤ 24
    · refine ev_pos (by simp; omega) ?_
      rw [decide_eq_true h, Bool.true_and]
      exact lvI_loop n l hl l.length 0 0 (by omega) (by omega) (by omega)
    · refine ev_neg (by simp; omega) (ev_of (by simp [h]))

theorem sz_rung (l : List S77) (c kd left : Int) (h0 : 0 ≤ left) (h1 : left ≤ 1048576) (hl : l.length ≤ maxLen) : (∃ r, laws_szRung.f l c kd left = some r ∧ r < 0) ∨ ((l.length : Int) ≤ left ∧ laws_szRung.f l c kd left = some (left - l.length)) := by
  have hlm := len_cap hl
  unfold laws_szRung.f laws_szNodeS.f
  rw [wrap_small (i := left - (l.length : Int)) (by omega) (by omega)]
  by_cases h : left - (l.length : Int) < 0
  · rw [if_pos h]
    exact .inl ⟨-1, rfl, by omega⟩
  · rw [if_neg h, Option.bind_some, if_neg h]
    exact .inr ⟨by omega, rfl⟩
theorem toRung_ev (l : List S77) (c kd : Int) (hl : l.length ≤ 1048576) : Ev (fun k => laws_toRung.f k l c kd) (l.map cv, c, kd) := by
  simp only [laws_toRung.f]
  exact Ev.bind (toNode_ev l hl) (ev_of rfl)
theorem eqRung_ev (l : List S75) (c kd : Int) (hl : l.length ≤ 1048576) : Ev (fun k => laws_eqRung.f k l c kd l c kd) true := by
  simp only [laws_eqRung.f]
  refine Ev.bind (eqNode_ev _ hl) (ev_pos rfl ?_)
  simp only [if_true]
  exact ev_of rfl

def RV (n : Int) (l : List S75) (c kd : Int) : Bool := LV n l && (decide (c ≥ 0) && (decide (c < n) && (decide (1 ≤ kd) && decide (kd ≤ 3))))
theorem rv_tail (n c kd : Int) : ∀ b : Bool, Ev (fun _ : Nat => (if b = true then (if c ≥ 0 then (if c < n then ((some (decide (1 ≤ kd) && decide (kd ≤ 3))).bind fun t118 => (some t118)) else (some false)) else (some false)) else (some false))) (b && (decide (c ≥ 0) && (decide (c < n) && (decide (1 ≤ kd) && decide (kd ≤ 3))))) := by
  intro b
  refine ev_of ?_
  cases b
  · rfl
  · by_cases h1 : c ≥ 0 <;> by_cases h2 : c < n <;> simp [h1, h2]
theorem rvS (n : Int) (l : List S75) (c kd : Int) (hl : l.length ≤ 1048576) : Ev (fun k => spec_RungValid.f k l c kd n) (RV n l c kd) := by
  simp only [spec_RungValid.f, inS]
  exact Ev.bind (lvS n _ hl) (rv_tail n c kd _)
theorem rvI (n : Int) (l : List S75) (c kd : Int) (hl : l.length ≤ 1048576) : Ev (fun k => impl_RungValid.f k l c kd n) (RV n l c kd) := by
  simp only [impl_RungValid.f, inI]
  exact Ev.bind (lvI n _ hl) (rv_tail n c kd _)

def hs (n : Int) (x : S75) : Bool := x.f0 == 1 && x.f1 == n
def U (l : List S75) : Nat → Nat → List Int → List Int
  | 0, _, acc => acc
  | m + 1, n, acc => U l m (n + 1) (if l.any (hs (n : Int)) = true then acc ++ [(n : Int)] else acc)
theorem U_len (l : List S75) : ∀ (m n : Nat) (acc : List Int), (U l m n acc).length ≤ acc.length + m
  | 0, _, _ => Nat.le_refl _
  | m + 1, n, acc => by
    unfold U
    have := U_len l m (n + 1) (if l.any (hs (n : Int)) = true then acc ++ [(n : Int)] else acc)
    split at this <;> split <;> simp_all <;> omega
theorem ixL (l : List S75) (hl : l.length ≤ 1048576) (n : Int) : ∀ (m i : Nat), i + m = l.length → ∃ r : Int, Ev (fun k => impl_Node_92.l0 k l (l.length : Int) (i : Int) 1 n) r ∧ decide (r ≥ 0) = (l.drop i).any (hs n) := by
  intro m
  induction m with
  | zero =>
    intro i hi
    refine ⟨-1, ev_succ ?_, ?_⟩
    · simp only [impl_Node_92.l0]
      exact ev_neg (by omega) (ev_of rfl)
    · rw [List.drop_eq_nil_of_le (by omega)]
      rfl
  | succ m ih =>
    intro i hi
    have hd : l.drop i = l[i]'(by omega) :: l.drop (i + 1) := List.drop_eq_getElem_cons (by omega)
    rw [hd, List.any_cons]
    have hc : ((1 : Int) == (l[i]'(by omega)).f0 && (n == (l[i]'(by omega)).f1)) = hs n (l[i]'(by omega)) := by
      unfold hs
      rw [Bool.beq_comm (a := (1 : Int)), Bool.beq_comm (a := n)]
    by_cases h : hs n (l[i]'(by omega)) = true
    · refine ⟨(i : Int), ev_succ ?_, ?_⟩
      · simp only [impl_Node_92.l0]
        rw [rd75 l i (by omega)]
        exact ev_pos (by omega) (ev_pos (by omega) (ev_pos (by omega) (ev_pos (by rw [hc]; exact h) (ev_of rfl))))
      · rw [h, Bool.true_or]
        exact decide_eq_true (by omega)
    · obtain ⟨r, hr, he⟩ := ih (i + 1) (by omega)
      refine ⟨r, ev_succ ?_, ?_⟩
      · simp only [impl_Node_92.l0]
        rw [rd75 l i (by omega)]
        refine ev_pos (by omega) (ev_pos (by omega) (ev_pos (by omega) (ev_neg (by rw [hc]; exact h) ?_)))
        rw [wrap_small (by omega) (by omega)]
        exact hr
      · rw [he]
        simp [h]
theorem ct (l : List S75) (hl : l.length ≤ 1048576) (n : Int) : Ev (fun k => impl_Node_64.f k l 1 n) (l.any (hs n)) := by
  obtain ⟨r, hr, he⟩ := ixL l hl n l.length 0 (by omega)
  simp only [impl_Node_64.f, impl_Node_92.f]
  refine Ev.bind hr (ev_of ?_)
  rw [he]
  rfl
theorem usI_g (l : List S75) (hl : l.length ≤ 1048576) : ∀ (m n : Nat) (acc : List Int), Ev (fun k => impl_UsedBits.go k l m n acc) (U l m n acc)
  | 0, _, _ => ev_of rfl
  | m + 1, n, acc => by
    simp only [impl_UsedBits.go]
    exact Ev.bind (ct l hl (n : Int)) (usI_g l hl m (n + 1) _)
theorem usI (l : List S75) (hl : l.length ≤ 1048576) : Ev (fun k => impl_UsedBits.f k l) (U l 16 0 []) := usI_g l hl 16 0 []
theorem usS1 (l : List S75) (hl : l.length ≤ 1048576) (n : Nat) (acc r : List Int) (hn : n < 16) (ha : acc.length ≤ n)
    (hy : Ev (fun k => spec_UsedBits.l0 k l (if l.any (hs (n : Int)) = true then acc ++ [(n : Int)] else acc) ((n + 1 : Nat) : Int)) r) : ∀ (m i : Nat), i + m = l.length → (l.take i).any (hs (n : Int)) = false → Ev (fun k => spec_UsedBits.l1 k l acc (n : Int) (i : Int)) r := by
  have w1 : wrap64 ((n : Int) + 1) = ((n + 1 : Nat) : Int) := wrap_small (by omega) (by omega)
  intro m
  induction m with
  | zero =>
    intro i hi hf
    refine ev_succ ?_
    simp only [spec_UsedBits.l1]
    rw [w1]
    refine ev_neg (by omega) ?_
    rw [List.take_of_length_le (by omega)] at hf
    rw [if_neg (by rw [hf]; simp)] at hy
    exact hy
  | succ m ih =>
    intro i hi hf
    refine ev_succ ?_
    simp only [spec_UsedBits.l1]
    rw [rd75 l i (by omega), w1]
    have ht : (l.take (i + 1)).any (hs (n : Int)) = hs (n : Int) (l[i]'(by omega)) := by
      rw [List.take_succ_eq_append_getElem (by omega), List.any_append, hf]
      simp
    have go_on : hs (n : Int) (l[i]'(by omega)) = false → Ev (fun k => spec_UsedBits.l1 k l acc (n : Int) (wrap64 ((i : Int) + 1))) r := by
      intro h
      rw [wrap_small (by omega) (by omega)]
      exact ih (i + 1) (by omega) (by rw [ht, h])
    refine ev_pos (by omega) (ev_pos (by omega) ?_)
    by_cases h1 : (l[i]'(by omega)).f0 = 1
    · refine ev_pos h1 ?_
      by_cases h2 : (l[i]'(by omega)).f1 = (n : Int)
      · refine ev_pos h2 (ev_pos (by omega) ?_)
        have : l.any (hs (n : Int)) = true := List.any_eq_true.mpr ⟨l[i]'(by omega), List.getElem_mem _, by simp [hs, h1, h2]⟩
        rw [if_pos this] at hy
        exact hy
      · exact ev_neg h2 (go_on (by simp [hs, h2]))
    · exact ev_neg h1 (go_on (by simp [hs, h1]))
theorem usS0 (l : List S75) (hl : l.length ≤ 1048576) : ∀ (m n : Nat) (acc : List Int), n + m = 16 → acc.length ≤ n → Ev (fun k => spec_UsedBits.l0 k l acc (n : Int)) (U l m n acc)
  | 0, n, acc, h, _ => by
    refine ev_succ ?_
    simp only [spec_UsedBits.l0]
    exact ev_neg (by omega) (ev_of rfl)
  | m + 1, n, acc, h, ha => by
    refine ev_succ ?_
    simp only [spec_UsedBits.l0]
    refine ev_pos (by omega) ?_
    refine usS1 l hl n acc _ (by omega) ha ?_ l.length 0 (by omega) (by simp)
    exact usS0 l hl m (n + 1) _ (by omega) (by split <;> (try simp) <;> omega)
theorem usS (l : List S75) (hl : l.length ≤ 1048576) : Ev (fun k => spec_UsedBits.f k l) (U l 16 0 []) := by
  simp only [spec_UsedBits.f]
  exact usS0 l hl 16 0 [] (by omega) (by simp)
theorem Us_len (l : List S75) : (U l 16 0 []).length ≤ 16 := by
  have := U_len l 16 0 []
  simpa using this

theorem rdi (l : List Int) (i : Nat) (h : i < l.length) : rd l (i : Int) = l[i] := by simp [rd, List.getD_eq_getElem?_getD, h]
theorem ixI (l : List Int) (hl : l.length ≤ 1048576) (x : Int) : ∀ (m i : Nat), i + m = l.length → ∃ r : Int, Ev (fun k => slices_Index_int_int.l0 k l x (l.length : Int) (i : Int)) r ∧ decide (r ≥ 0) = (l.drop i).any (· == x) := by
  intro m
  induction m with
  | zero =>
    intro i hi
    refine ⟨-1, ev_succ ?_, ?_⟩
    · simp only [slices_Index_int_int.l0]
      exact ev_neg (by omega) (ev_of rfl)
    · rw [List.drop_eq_nil_of_le (by omega)]
      rfl
  | succ m ih =>
    intro i hi
    have hd : l.drop i = l[i]'(by omega) :: l.drop (i + 1) := List.drop_eq_getElem_cons (by omega)
    rw [hd, List.any_cons]
    by_cases h : x = l[i]'(by omega)
    · refine ⟨(i : Int), ev_succ ?_, ?_⟩
      · simp only [slices_Index_int_int.l0]
        rw [rdi l i (by omega)]
        exact ev_pos (by omega) (ev_pos (by omega) (ev_pos (by omega) (ev_pos h (ev_of rfl))))
      · rw [show ((l[i]'(by omega)) == x) = true from beq_iff_eq.mpr h.symm, Bool.true_or]
        exact decide_eq_true (by omega)
    · obtain ⟨r, hr, he⟩ := ih (i + 1) (by omega)
      refine ⟨r, ev_succ ?_, ?_⟩
      · simp only [slices_Index_int_int.l0]
        rw [rdi l i (by omega)]
        refine ev_pos (by omega) (ev_pos (by omega) (ev_pos (by omega) (ev_neg h ?_)))
        rw [wrap_small (by omega) (by omega)]
        exact hr
      · rw [he, show ((l[i]'(by omega)) == x) = false from beq_eq_false_iff_ne.mpr (fun e => h e.symm), Bool.false_or]
theorem ctI (l : List Int) (hl : l.length ≤ 1048576) (x : Int) : Ev (fun k => slices_Contains_int_int.f k l x) (l.any (· == x)) := by
  obtain ⟨r, hr, he⟩ := ixI l hl x l.length 0 (by omega)
  simp only [slices_Contains_int_int.f, slices_Index_int_int.f]
  refine Ev.bind hr (ev_of ?_)
  rw [he]
  rfl
theorem apL1 (q : List Int) (hq : q.length ≤ 1048576) (la lb : List S75) (ca ka cb kb : Int) : ∀ (m i : Nat), i + m = q.length → Ev (fun k => spec_l3Apart.l1 k q (i : Int) la ca ka lb cb kb) (!((q.drop i).any (· == ca)) && (ca != cb)) := by
  intro m
  induction m with
  | zero =>
    intro i hi
    refine ev_succ ?_
    simp only [spec_l3Apart.l1]
    rw [List.drop_eq_nil_of_le (by omega)]
    exact ev_neg (by omega) (ev_of rfl)
  | succ m ih =>
    intro i hi
    refine ev_succ ?_
    simp only [spec_l3Apart.l1]
    have hd : q.drop i = q[i]'(by omega) :: q.drop (i + 1) := List.drop_eq_getElem_cons (by omega)
    rw [hd, List.any_cons, rdi q i (by omega)]
    refine ev_pos (by omega) (ev_pos (by omega) ?_)
    by_cases h : q[i]'(by omega) = ca
    · refine ev_pos h (ev_of ?_)
      rw [beq_iff_eq.mpr h]; rfl
    · refine ev_neg h ?_
      rw [beq_eq_false_iff_ne.mpr h, Bool.false_or, wrap_small (by omega) (by omega)]
      exact ih (i + 1) (by omega)
theorem apL0 (p q : List Int) (hp : p.length ≤ 1048576) (hq : q.length ≤ 1048576) (la lb : List S75) (ca ka cb kb : Int) : ∀ (m i : Nat), i + m = p.length → Ev (fun k => spec_l3Apart.l0 k p q (i : Int) la ca ka lb cb kb) (!((p.drop i).any (· == cb)) && (!(q.any (· == ca)) && (ca != cb))) := by
  intro m
  induction m with
  | zero =>
    intro i hi
    refine ev_succ ?_
    simp only [spec_l3Apart.l0]
    rw [List.drop_eq_nil_of_le (by omega)]
    exact ev_neg (by omega) (apL1 q hq la lb ca ka cb kb q.length 0 (by omega))
  | succ m ih =>
    intro i hi
    refine ev_succ ?_
    simp only [spec_l3Apart.l0]
    have hd : p.drop i = p[i]'(by omega) :: p.drop (i + 1) := List.drop_eq_getElem_cons (by omega)
    rw [hd, List.any_cons, rdi p i (by omega)]
    refine ev_pos (by omega) (ev_pos (by omega) ?_)
    by_cases h : p[i]'(by omega) = cb
    · refine ev_pos h (ev_of ?_)
      rw [beq_iff_eq.mpr h]; rfl
    · refine ev_neg h ?_
      rw [beq_eq_false_iff_ne.mpr h, Bool.false_or, wrap_small (by omega) (by omega)]
      exact ih (i + 1) (by omega)
def AP (la lb : List S75) (ca cb : Int) : Bool := !((U la 16 0 []).any (· == cb)) && (!((U lb 16 0 []).any (· == ca)) && (ca != cb))
def RI (la : List S75) (ca ka : Int) (lb : List S75) (cb kb : Int) : Bool := RV 16 la ca ka && (RV 16 lb cb kb && AP la lb ca cb)
theorem riS (la lb : List S75) (ca ka cb kb : Int) (ha : la.length ≤ 1048576) (hb : lb.length ≤ 1048576) : Ev (fun k => spec_RungsIndependent.f k la ca ka lb cb kb) (RI la ca ka lb cb kb) := by
  simp only [spec_RungsIndependent.f, spec_l3Apart.f]
  refine Ev.bind (rvS 16 la ca ka ha) ?_
  unfold RI
  cases RV 16 la ca ka
  · exact ev_neg (by simp) (ev_of rfl)
  · refine ev_pos rfl (Ev.bind (rvS 16 lb cb kb hb) ?_)
    cases RV 16 lb cb kb
    · exact ev_neg (by simp) (ev_of rfl)
    · refine ev_pos rfl (Ev.bind (Ev.bind (usS la ha) (Ev.bind (usS lb hb) ?_)) (ev_of rfl))
      have h1 := Us_len la
      have h2 := Us_len lb
      exact apL0 (U la 16 0 []) (U lb 16 0 []) (by omega) (by omega) la lb ca ka cb kb (U la 16 0 []).length 0 (by omega)
theorem riI (la lb : List S75) (ca ka cb kb : Int) (ha : la.length ≤ 1048576) (hb : lb.length ≤ 1048576) : Ev (fun k => impl_RungsIndependent.f k la ca ka lb cb kb) (RI la ca ka lb cb kb) := by
  simp only [impl_RungsIndependent.f]
  refine Ev.bind (rvI 16 la ca ka ha) ?_
  unfold RI
  cases RV 16 la ca ka
  · exact ev_neg (by simp) (ev_of rfl)
  · refine ev_pos rfl (Ev.bind (rvI 16 lb cb kb hb) ?_)
    cases RV 16 lb cb kb
    · exact ev_neg (by simp) (ev_of rfl)
    · refine ev_pos rfl ?_
      have h1 := Us_len la
      have h2 := Us_len lb
      unfold AP
      by_cases hc : ca = cb
      · refine ev_pos hc (ev_of ?_)
        subst hc
        simp
      · refine ev_neg hc (Ev.bind (usI la ha) (Ev.bind (ctI _ (by omega) cb) ?_))
        rw [show (ca != cb) = true from bne_iff_ne.mpr hc]
        cases (U la 16 0 []).any (· == cb)
        · refine ev_neg (by simp) (Ev.bind (usI lb hb) (Ev.bind (ctI _ (by omega) ca) (ev_of ?_)))
          simp
        · exact ev_pos rfl (ev_of rfl)

theorem pure_holds : Pure := by
  intro la ca ka lb cb kb ha _ _ hb _ _
  refine Ev.rounds ?_
  simp only [laws_FnExactRungsIndependent.f]
  rcases sz_rung la ca ka 1048576 (by omega) (by omega) ha.1 with ⟨r, hr, hneg⟩ | ⟨h1, hr⟩
  · rw [hr]
    exact ev_some (ev_pos hneg (ev_of rfl))
  · rw [hr]
    refine ev_some (ev_neg (by omega) ?_)
    rcases sz_rung lb cb kb (1048576 - la.length) (by omega) (by omega) hb.1 with ⟨r, hr2, hneg⟩ | ⟨h2, hr2⟩
    · rw [hr2]
      exact ev_some (ev_pos hneg (ev_of rfl))
    · rw [hr2]
      refine ev_some (ev_neg (by omega) ?_)
      have ta := toRung_ev la ca ka (by omega)
      have tb := toRung_ev lb cb kb (by omega)
      have hma : (la.map cv).length ≤ 1048576 := by simp; omega
      have hmb : (lb.map cv).length ≤ 1048576 := by simp; omega
      refine Ev.bind ta (Ev.bind tb (Ev.bind (riS _ _ ca ka cb kb hma hmb) (Ev.bind ta (Ev.bind tb (Ev.bind (riI _ _ ca ka cb kb hma hmb) ?_)))))
      refine ev_neg (by simp) ?_
      refine Ev.bind ta (Ev.bind (eqRung_ev _ ca ka hma) (ev_pos rfl ?_))
      refine Ev.bind tb (Ev.bind (eqRung_ev _ cb kb hmb) (ev_pos rfl (ev_of rfl)))

end Go.Proofs.Ytmlhkalgaeemaaa.fnExactRungsIndependent

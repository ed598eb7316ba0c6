/- The law FnExactLogicEquivalent answers true for all lists of elements and every number; no condition but that the numbers are of their kind. -/
import Derived.Test.YtmphligplngeaaaStFnExactLogicEquivalent
namespace Go.Proofs.Ytmphligplngeaaa.fnExactLogicEquivalent
open Go.RowKit Go.Proofs.Ytmphligplngeaaa.GFnExactLogicEquivalent Go.Proofs.YtmphligplngeaaaV.PrintWords Go.Proofs.YtmphligplngeaaaV.PrintLast Go.Proofs.YtmphligplngeaaaV.PrintMore
set_option linter.unusedVariables false
set_option linter.unusedSimpArgs false

theorem ev_succ {α : Type} {g : Nat → Option α} {r : α} (h : Ev (fun k => g (k + 1)) r) : Ev g r := Ev.step (fun _ => rfl) h
theorem ev_pos {α : Type} {c : Prop} [Decidable c] {g f : Nat → Option α} {r : α} (hc : c) (h : Ev g r) : Ev (fun k => if c then g k else f k) r := Ev.congr (fun _ => if_pos hc) h
theorem ev_neg {α : Type} {c : Prop} [Decidable c] {g f : Nat → Option α} {r : α} (hc : ¬ c) (h : Ev f r) : Ev (fun k => if c then g k else f k) r := Ev.congr (fun _ => if_neg hc) h
theorem ev_some {α β : Type} {a : α} {f : Nat → α → Option β} {r : β} (h : Ev (fun k => f k a) r) : Ev (fun k => (some a).bind (f k)) r := h
theorem ev_of {α : Type} {a : Option α} {r : α} (h : a = some r) : Ev (fun _ => a) r := ⟨0, fun _ _ => h⟩
theorem ev_eq {α : Type} {g : Nat → Option α} {r r' : α} (h : Ev g r) (e : r = r') : Ev g r' := e ▸ h
theorem wrap_small {i : Int} (h0 : -9223372036854775808 ≤ i) (h1 : i ≤ 9223372036854775807) : wrap64 i = i := by unfold wrap64; omega
theorem wf_bounds {x : Int} (h : (Lit.int .i64 x).wf = true) : -9223372036854775808 ≤ x ∧ x ≤ 9223372036854775807 := by
  simp [Lit.wf, IntKind.min, IntKind.max, IntKind.signed, IntKind.bits] at h
  omega
theorem set_keeps {α : Type} (l out : List α) (d : α) (i : Nat) (hi : i < l.length) (ho : out.length = l.length) (h : ∀ j, j < i → out[j]? = l[j]?) : ∀ j, j < i + 1 → (out.set i (l.getD i d))[j]? = l[j]? := by
  intro j hj
  rw [List.getElem?_set]
  by_cases e : i = j
  · subst e
    rw [if_pos rfl, if_pos (by omega), List.getD_eq_getElem?_getD, List.getElem?_eq_getElem hi]
    rfl
  · rw [if_neg e]
    exact h j (by omega)
theorem all_kept {α : Type} (l out : List α) (ho : out.length = l.length) (h : ∀ j, j < l.length → out[j]? = l[j]?) : out = l := by
  apply List.ext_getElem?
  intro j
  by_cases hj : j < l.length
  · exact h j hj
  · rw [List.getElem?_eq_none (by omega), List.getElem?_eq_none (by omega)]

theorem len_cap {l : Nat} (h : l ≤ maxLen) : (l : Int) ≤ 9223372036854775807 := by
  have : maxLen ≤ 9223372036854775807 := by decide
  omega
def cv (x : S71) : S69 := ⟨x.f0, x.f1⟩
theorem toNode_loop (l : List S71) (hl : l.length ≤ 1048576) : ∀ (m i : Nat) (out : List S69), i + m = l.length → out.length = l.length → (∀ j, j < i → out[j]? = (l.map cv)[j]?) → Ev (fun k => laws_toNodeS.l0 k l out (i : Int)) (l.map cv) := by
  intro m
  induction m with
  | zero =>
    intro i out hi ho h
    refine ev_succ ?_
    simp only [laws_toNodeS.l0]
    refine ev_neg (by omega) ?_
    exact ev_of (congrArg some (all_kept _ out (by simpa using ho) (fun j hj => h j (by simp at hj; omega))))
  | succ m ih =>
    intro i out hi ho h
    refine ev_succ ?_
    simp only [laws_toNodeS.l0, laws_toNode.f]
    refine ev_pos (by omega) (ev_pos (by omega) (ev_some (ev_pos (by omega) ?_)))
    rw [wrap_small (by omega) (by omega)]
    have hs := ih (i + 1) (out.set i ((l.map cv).getD i z69)) (by omega) (by simpa using ho) (set_keeps (l.map cv) out z69 i (by simp; omega) (by simpa using ho) h)
    rw [show (l.map cv).getD i z69 = cv (l[i]'(by omega)) by rw [List.getD_eq_getElem?_getD, List.getElem?_map, List.getElem?_eq_getElem (by omega)]; rfl] at hs
    have hg : rd_T71 l (i : Int) = l[i]'(by omega) := by unfold rd_T71; rw [Int.toNat_natCast, List.getD_eq_getElem?_getD, List.getElem?_eq_getElem (by omega)]; rfl
    rw [hg, Int.toNat_natCast]
    exact hs
theorem toNode_ev (l : List S71) (hl : l.length ≤ 1048576) : Ev (fun k => laws_toNodeS.f k l) (l.map cv) := by
  simp only [laws_toNodeS.f]
  refine ev_pos (by omega) (ev_pos (by omega) ?_)
  exact toNode_loop l hl l.length 0 (List.replicate ((l.length : Int)).toNat z69) (by omega) (by simp) (fun j hj => by omega)
theorem eqNode_loop (l : List S69) (hl : l.length ≤ 1048576) : ∀ (m i : Nat), i + m = l.length → Ev (fun k => laws_eqNodeS.l0 k l l (i : Int)) true := by
  intro m
  induction m with
  | zero =>
    intro i hi
    refine ev_succ ?_
    simp only [laws_eqNodeS.l0]
    exact ev_neg (by omega) (ev_of rfl)
  | succ m ih =>
    intro i hi
    refine ev_succ ?_
    simp only [laws_eqNodeS.l0, laws_eqNode.f]
    refine ev_pos (by omega) (ev_pos (by omega) (ev_pos (by omega) ?_))
    simp only [if_true]
    refine ev_some (ev_pos rfl ?_)
    rw [wrap_small (by omega) (by omega)]
    exact ih (i + 1) (by omega)
theorem eqNode_ev (l : List S69) (hl : l.length ≤ 1048576) : Ev (fun k => laws_eqNodeS.f k l l) true := by
  simp only [laws_eqNodeS.f]
  refine ev_pos (by first | rfl | trivial) ?_
  exact eqNode_loop l hl l.length 0 (by omega)
theorem rd75 (l : List S69) (i : Nat) (h : i < l.length) : rd_T69 l (i : Int) = l[i] := by
  unfold rd_T69; rw [Int.toNat_natCast, List.getD_eq_getElem?_getD, List.getElem?_eq_getElem h]; rfl

theorem inI (a b c : Int) : impl_in.f a b c = some (decide (b ≤ a) && decide (a ≤ c)) := by
  unfold impl_in.f
  by_cases h : a ≥ b
  · rw [if_pos h]; simp [show b ≤ a from h]
  · rw [if_neg h]; simp [show ¬ b ≤ a from h]

theorem inS (a b c : Int) : spec_l1In.f a b c = some (decide (b ≤ a) && decide (a ≤ c)) := by
  unfold spec_l1In.f
  by_cases h : a ≥ b
  · rw [if_pos h]; simp [show b ≤ a from h]
  · rw [if_neg h]; simp [show ¬ b ≤ a from h]

def need (o : Int) : Int := if o = 2 then 1 else if 3 ≤ o ∧ o ≤ 5 then 2 else 0
def okN (n d : Int) (x : S69) : Bool := decide (1 ≤ x.f0 ∧ x.f0 ≤ 7 ∧ need x.f0 ≤ d ∧ (if x.f0 = 1 then 0 ≤ x.f1 ∧ x.f1 < n else x.f1 = 0))
/-- The depth of the stack behind a list. -/
def lv (n : Int) : Int → List S69 → Bool
  | d, [] => d == 1
  | d, x :: r => if okN n d x then lv n (d - need x.f0 + 1) r else false
def LV (n : Int) (l : List S69) : Bool := decide ((l.length : Int) ≤ 24) && lv n 0 l
theorem needS (o : Int) : spec_l2Need.f o = some (if 1 ≤ o ∧ o ≤ 7 then need o else -1) := by
  unfold spec_l2Need.f
  rw [inS]
  by_cases h : 1 ≤ o ∧ o ≤ 7
  · have hc : o = 1 ∨ o = 2 ∨ o = 3 ∨ o = 4 ∨ o = 5 ∨ o = 6 ∨ o = 7 := by omega
    rcases hc with rfl | rfl | rfl | rfl | rfl | rfl | rfl <;> rfl
  · rw [if_neg h]
    have : (decide (1 ≤ o) && decide (o ≤ 7)) = false := by simp; omega
    rw [this]
    rfl
theorem need_b (o : Int) : 0 ≤ need o ∧ need o ≤ 2 := by
  unfold need
  split
  · omega
  · split <;> omega
theorem lvS_loop (n : Int) (l : List S69) (hl : l.length ≤ 1048576) : ∀ (m i : Nat) (d : Int), i + m = l.length → 0 ≤ d → d ≤ i → Ev (fun k => spec_LogicValid.l0 k l n d (i : Int)) (decide ((l.length : Int) ≤ 24) && lv n d (l.drop i)) := by
  intro m
  induction m with
  | zero =>
    intro i d hi h0 h1
    refine ev_succ ?_
    simp only [spec_LogicValid.l0]
    refine ev_neg (by omega) ?_
    rw [List.drop_eq_nil_of_le (by omega)]
    by_cases h : (l.length : Int) ≤ 24
    · exact ev_pos h (ev_of (by simp [h, lv]))
    · exact ev_neg h (ev_of (by simp [h]))
  | succ m ih =>
    intro i d hi h0 h1
    refine ev_succ ?_
    simp only [spec_LogicValid.l0]
    refine ev_pos (by omega) (ev_pos (by omega) ?_)
    rw [rd75 l i (by omega), List.drop_eq_getElem_cons (show i < l.length by omega)]
    generalize l[i] = x
    rw [needS]
    refine ev_some ?_
    have hb := need_b x.f0
    have bad : okN n d x = false → Ev (fun _ : Nat => some false) (decide ((l.length : Int) ≤ 24) && lv n d (x :: l.drop (i + 1))) := by
      intro h
      refine ev_of ?_
      simp [lv, h]
    have good : okN n d x = true → Ev (fun k => spec_LogicValid.l0 k l n (wrap64 ((wrap64 (d - need x.f0)) + 1)) (wrap64 ((i : Int) + 1))) (decide ((l.length : Int) ≤ 24) && lv n d (x :: l.drop (i + 1))) := by
      intro h
      have h2 : need x.f0 ≤ d := by simp [okN] at h; omega
      rw [wrap_small (i := d - need x.f0) (by omega) (by omega), wrap_small (i := d - need x.f0 + 1) (by omega) (by omega), wrap_small (i := (i : Int) + 1) (by omega) (by omega)]
      have := ih (i + 1) (d - need x.f0 + 1) (by omega) (by omega) (by omega)
      rw [show lv n d (x :: l.drop (i + 1)) = lv n (d - need x.f0 + 1) (l.drop (i + 1)) by simp [lv, h]]
      exact this
    by_cases hr : 1 ≤ x.f0 ∧ x.f0 ≤ 7
    · rw [if_pos hr]
      refine ev_neg (by omega) ?_
      by_cases hd : need x.f0 > d
      · exact ev_pos hd (bad (by simp [okN]; omega))
      · refine ev_neg hd ?_
        by_cases h1' : x.f0 = 1
        · refine ev_pos h1' ?_
          by_cases ha : x.f1 < 0
          · exact ev_pos ha (bad (by simp [okN, h1']; omega))
          · refine ev_neg ha ?_
            by_cases hc : x.f1 ≥ n
            · exact ev_pos hc (bad (by simp [okN, h1']; omega))
            · exact ev_neg hc (good (by simp only [okN, if_pos h1', decide_eq_true_eq]; omega))
        · refine ev_neg h1' ?_
          by_cases ha : x.f1 = 0
          · exact ev_pos ha (good (by simp only [okN, if_neg h1', decide_eq_true_eq]; omega))
          · exact ev_neg ha (bad (by simp [okN, h1', ha]))
    · rw [if_neg hr]
      exact ev_pos (by omega) (bad (by simp only [okN, decide_eq_false_iff_not]; omega))
theorem lvS (n : Int) (l : List S69) (hl : l.length ≤ 1048576) : Ev (fun k => spec_LogicValid.f k l n) (LV n l) := by
  simp only [spec_LogicValid.f]
  exact lvS_loop n l hl l.length 0 0 (by omega) (by omega) (by omega)
theorem lvI_loop (n : Int) (l : List S69) (hl : l.length ≤ 1048576) : ∀ (m i : Nat) (d : Int), i + m = l.length → 0 ≤ d → d ≤ i → Ev (fun k => impl_LogicValid.l0 k n d l (l.length : Int) (i : Int)) (lv n d (l.drop i)) := by
  intro m
  induction m with
  | zero =>
    intro i d hi h0 h1
    refine ev_succ ?_
    simp only [impl_LogicValid.l0]
    refine ev_neg (by omega) ?_
    rw [List.drop_eq_nil_of_le (by omega)]
    exact ev_of rfl
  | succ m ih =>
    intro i d hi h0 h1
    refine ev_succ ?_
    simp only [impl_LogicValid.l0]
    refine ev_pos (by omega) (ev_pos (by omega) (ev_pos (by omega) ?_))
    rw [rd75 l i (by omega), List.drop_eq_getElem_cons (show i < l.length by omega)]
    generalize l[i] = x
    have hb := need_b x.f0
    have bad : okN n d x = false → Ev (fun _ : Nat => some false) (lv n d (x :: l.drop (i + 1))) := by
      intro h
      refine ev_of ?_
      simp [lv, h]
    have good : ∀ d', okN n d x = true → d' = d - need x.f0 + 1 → 0 ≤ d' → d' ≤ i + 1 → Ev (fun k => impl_LogicValid.l0 k n d' l (l.length : Int) (wrap64 ((i : Int) + 1))) (lv n d (x :: l.drop (i + 1))) := by
      intro d' h e h2 h3
      rw [wrap_small (i := (i : Int) + 1) (by omega) (by omega)]
      have := ih (i + 1) d' (by omega) (by omega) (by omega)
      rw [show lv n d (x :: l.drop (i + 1)) = lv n d' (l.drop (i + 1)) by simp [lv, h, e]]
      exact this
    have w1 : wrap64 (d + 1) = d + 1 := wrap_small (by omega) (by omega)
    have w2 : wrap64 (d - 1) = d - 1 := wrap_small (by omega) (by omega)
    by_cases h1' : x.f0 = 1
    · refine ev_pos h1' (ev_succ ?_)
      simp only [impl_LogicValid.j1]
      refine ev_neg (by simp) (ev_pos h1' ?_)
      by_cases ha : x.f1 < 0
      · exact ev_pos ha (bad (by simp [okN, h1']; omega))
      · refine ev_neg ha ?_
        by_cases hc : x.f1 ≥ n
        · exact ev_pos hc (bad (by simp [okN, h1']; omega))
        · refine ev_neg hc ?_
          rw [w1]
          exact good _ (by simp only [okN, if_pos h1', decide_eq_true_eq]; rw [h1']; simp [need]; omega) (by rw [h1']; simp [need]) (by omega) (by omega)
    · refine ev_neg h1' (ev_succ ?_)
      simp only [impl_LogicValid.j1]
      by_cases hz : x.f1 = 0
      · refine ev_neg (by simp [hz]) (ev_neg h1' ?_)
        have hj3 : x.f0 ≠ 2 → x.f0 ≠ 6 → x.f0 ≠ 7 → ∀ b : Bool, b = decide (3 ≤ x.f0 ∧ x.f0 ≤ 5) → Ev (fun k => impl_LogicValid.j3 k n d l (l.length : Int) (i : Int) b) (lv n d (x :: l.drop (i + 1))) := by
          intro g2 g6 g7 b hbb
          refine ev_succ ?_
          simp only [impl_LogicValid.j3]
          by_cases hr : 3 ≤ x.f0 ∧ x.f0 ≤ 5
          · have hn : need x.f0 = 2 := by unfold need; rw [if_neg g2, if_pos hr]
            refine ev_pos (by rw [hbb]; exact decide_eq_true hr) ?_
            by_cases hd : d < 2
            · exact ev_pos hd (bad (by simp [okN, hn]; omega))
            · refine ev_neg hd ?_
              rw [w2]
              exact good _ (by simp only [okN, if_neg h1', decide_eq_true_eq, hn]; omega) (by omega) (by omega) (by omega)
          · refine ev_neg (by rw [hbb]; simpa using hr) (bad ?_)
            simp only [okN, decide_eq_false_iff_not]
            omega
        have hj2 : ∀ b : Bool, b = decide (x.f0 = 6 ∨ x.f0 = 7) → Ev (fun k => impl_LogicValid.j2 k n d l (l.length : Int) (i : Int) x.f0 b) (lv n d (x :: l.drop (i + 1))) := by
          intro b hbb
          refine ev_succ ?_
          simp only [impl_LogicValid.j2]
          by_cases h67 : x.f0 = 6 ∨ x.f0 = 7
          · have hn : need x.f0 = 0 := by unfold need; rw [if_neg (by omega), if_neg (by omega)]
            refine ev_pos (by rw [hbb]; exact decide_eq_true h67) ?_
            rw [w1]
            exact good _ (by simp only [okN, if_neg h1', decide_eq_true_eq, hn]; omega) (by omega) (by omega) (by omega)
          · refine ev_neg (by rw [hbb]; simpa using h67) ?_
            by_cases h2 : x.f0 = 2
            · have hn : need x.f0 = 1 := by unfold need; rw [if_pos h2]
              refine ev_pos h2 ?_
              by_cases hd : d < 1
              · exact ev_pos hd (bad (by simp [okN, hn]; omega))
              · exact ev_neg hd (good _ (by simp only [okN, if_neg h1', decide_eq_true_eq, hn]; omega) (by omega) (by omega) (by omega))
            · refine ev_neg h2 ?_
              have e3 : ¬ x.f0 = 6 := fun h => h67 (.inl h)
              have e4 : ¬ x.f0 = 7 := fun h => h67 (.inr h)
              by_cases g3 : x.f0 = 3
              · exact ev_pos g3 (hj3 h2 e3 e4 _ (by simp [g3]))
              · refine ev_neg g3 ?_
                by_cases g4 : x.f0 = 4
                · exact ev_pos g4 (hj3 h2 e3 e4 _ (by simp [g4]))
                · refine ev_neg g4 (hj3 h2 e3 e4 _ ?_)
                  by_cases g5 : x.f0 = 5
                  · simp [g5]
                  · rw [show (x.f0 == 5) = false by simpa using g5]
                    symm
                    simp only [decide_eq_false_iff_not]
                    omega
        by_cases g6 : x.f0 = 6
        · exact ev_pos g6 (hj2 _ (by simp [g6]))
        · refine ev_neg g6 (hj2 _ ?_)
          by_cases g7 : x.f0 = 7
          · simp [g7]
          · rw [show (x.f0 == 7) = false by simpa using g7]
            simp [g6, g7]
      · refine ev_pos (by simpa using hz) (bad (by simp [okN, h1', hz]))
theorem lvI (n : Int) (l : List S69) (hl : l.length ≤ 1048576) : Ev (fun k => impl_LogicValid.f k l n) (LV n l) := by
  simp only [impl_LogicValid.f]
  rw [inI]
  refine ev_some ?_
  unfold LV
  by_cases h0 : l.length = 0
  · have : l = [] := List.eq_nil_of_length_eq_zero h0
    subst this
    exact ev_neg (by simp) (ev_of rfl)
  · by_cases h : (l.length : Int) ≤ 24
    · refine ev_pos (by simp; omega) ?_
      rw [decide_eq_true h, Bool.true_and]
      exact lvI_loop n l hl l.length 0 0 (by omega) (by omega) (by omega)
    · refine ev_neg (by simp; omega) (ev_of (by simp [h]))

theorem run_some (n : Int) (bits : List Bool) (hb : n ≤ (bits.length : Int)) : ∀ (l : List S69) (d : Int) (st : List Bool), lv n d l = true → (st.length : Int) = d → ∃ s, evl.run bits l st = some s ∧ s.length = 1 := by
  intro l
  induction l with
  | nil =>
    intro d st h hd
    refine ⟨st, rfl, ?_⟩
    have : d = 1 := by simpa [lv] using h
    omega
  | cons x r ih =>
    intro d st h hd
    by_cases ho : okN n d x = true
    · rw [lv, if_pos ho] at h
      have hk := of_decide_eq_true ho
      have key : ∃ st', evl.step bits st x = some st' ∧ (st'.length : Int) = d - need x.f0 + 1 := by
        obtain ⟨h1, h7, hn, hc⟩ := hk
        unfold evl.step
        have hcase : x.f0 = 1 ∨ x.f0 = 2 ∨ x.f0 = 3 ∨ x.f0 = 4 ∨ x.f0 = 5 ∨ x.f0 = 6 ∨ x.f0 = 7 := by omega
        rcases hcase with e | e | e | e | e | e | e <;> rw [e] at hn hc ⊢
        · rw [if_pos rfl] at hc
          rw [if_pos rfl, if_pos (by omega)]
          exact ⟨_, rfl, by simp [need]; omega⟩
        · have hn' : (1 : Int) ≤ d := hn
          rw [if_neg (by decide), if_pos rfl, if_pos (by omega)]
          refine ⟨_, rfl, ?_⟩
          rw [List.length_append, List.length_take]
          simp [need]
          omega
        · have hn' : (2 : Int) ≤ d := hn
          rw [if_neg (by decide), if_neg (by decide), if_pos rfl, if_pos (by omega)]
          refine ⟨_, rfl, ?_⟩
          rw [List.length_append, List.length_take]
          simp [need]
          omega
        · have hn' : (2 : Int) ≤ d := hn
          rw [if_neg (by decide), if_neg (by decide), if_neg (by decide), if_pos rfl, if_pos (by omega)]
          refine ⟨_, rfl, ?_⟩
          rw [List.length_append, List.length_take]
          simp [need]
          omega
        · have hn' : (2 : Int) ≤ d := hn
          rw [if_neg (by decide), if_neg (by decide), if_neg (by decide), if_neg (by decide), if_pos rfl, if_pos (by omega)]
          refine ⟨_, rfl, ?_⟩
          rw [List.length_append, List.length_take]
          simp [need]
          omega
        · rw [if_neg (by decide), if_neg (by decide), if_neg (by decide), if_neg (by decide), if_neg (by decide)]
          exact ⟨_, rfl, by simp [need]; omega⟩
        · rw [if_neg (by decide), if_neg (by decide), if_neg (by decide), if_neg (by decide), if_neg (by decide)]
          exact ⟨_, rfl, by simp [need]; omega⟩
      obtain ⟨st', hs, hl⟩ := key
      obtain ⟨s, h1, h2⟩ := ih _ st' h hl
      refine ⟨s, ?_, h2⟩
      show (evl.step bits st x).bind (evl.run bits r) = some s
      rw [hs]
      exact h1
    · rw [lv, if_neg ho] at h
      exact absurd h (by simp)
theorem val_some {n : Int} {l : List S69} (h : LV n l = true) (bits : List Bool) (hb : n ≤ (bits.length : Int)) : ∃ b, evl.val bits l = some b := by
  unfold LV at h
  rw [Bool.and_eq_true] at h
  have h1 : (l.length : Int) ≤ 24 := of_decide_eq_true h.1
  obtain ⟨s, hs, hl⟩ := run_some n bits hb l 0 [] h.2 rfl
  unfold evl.val
  rw [if_pos (by omega), hs]
  exact ⟨_, if_pos (by omega)⟩

theorem tval {m : Nat} {l : List S69} (h : LV (m : Int) l = true) (x : Nat) : evl.val (tbl.bits m x) l = some (tbl.val m l x) := by
  obtain ⟨b, hb⟩ := val_some h (tbl.bits m x) (by rw [tbl.bits_length]; omega)
  unfold tbl.val
  rw [hb]
  rfl
theorem pow64 {m : Nat} (h : m ≤ 6) : 0 < 2 ^ m ∧ 2 ^ m ≤ 64 := ⟨Nat.pow_pos (by decide), Nat.pow_le_pow_right (n := 2) (by decide) h⟩
def T (n : Int) (l : List S69) : List Bool := if 0 ≤ n ∧ n ≤ 6 ∧ LV n l = true then tbl.out n.toNat l (2 ^ n.toNat) else []
theorem T_no {n : Int} {l : List S69} (h : ¬ (0 ≤ n ∧ n ≤ 6 ∧ LV n l = true)) : T n l = [] := by unfold T; rw [if_neg h]
theorem T_yes {m : Nat} {l : List S69} (h6 : m ≤ 6) (h : LV (m : Int) l = true) : T (m : Int) l = tbl.out m l (2 ^ m) := by unfold T; rw [if_pos ⟨by omega, by omega, h⟩]; rfl
theorem T_len {m : Nat} {l : List S69} (h6 : m ≤ 6) (h : LV (m : Int) l = true) : (T (m : Int) l).length = 2 ^ m := by rw [T_yes h6 h, tbl.out_length]
theorem T_le (n : Int) (l : List S69) : (T n l).length ≤ 64 := by
  by_cases h : 0 ≤ n ∧ n ≤ 6 ∧ LV n l = true
  · obtain ⟨m, rfl⟩ : ∃ m : Nat, n = (m : Int) := ⟨n.toNat, by omega⟩
    rw [T_len (by omega) h.2.2]
    exact (pow64 (by omega)).2
  · rw [T_no h]; simp
theorem tableI {m : Nat} {l : List S69} (h6 : m ≤ 6) (h : LV (m : Int) l = true) : impl_table.f l (m : Int) = some (T (m : Int) l) := by
  unfold impl_table.f
  rw [if_pos ⟨by omega, by omega, fun x _ => by rw [Int.toNat_natCast, tval h x]; rfl⟩, T_yes h6 h]
  rfl
theorem shr_at (x i : Nat) (hi : i ≤ 64) : shr .i64 (x : Int) (i : Int) = ((x / 2 ^ i : Nat) : Int) := by
  unfold shr
  rw [Int.toNat_natCast, show IntKind.i64.bits = 64 from rfl, Nat.min_eq_left hi]
  simp
theorem bits_succ (n x : Nat) : tbl.bits (n + 1) x = tbl.bits n x ++ [((x / 2 ^ n % 2 : Nat) : Int) == 1] := by
  unfold tbl.bits
  rw [List.range_succ, List.map_append]
  rfl
theorem l2b_loop (x m : Nat) (hm : m ≤ 6) : ∀ (d i : Nat), i + d = m → Ev (fun k => spec_l2Bits.l0 k (x : Int) (m : Int) (tbl.bits i x) (i : Int)) (tbl.bits m x) := by
  intro d
  induction d with
  | zero =>
    intro i hi
    refine ev_succ ?_
    simp only [spec_l2Bits.l0]
    exact ev_neg (by omega) (ev_of (by rw [show i = m by omega]))
  | succ d ih =>
    intro i hi
    refine ev_succ ?_
    simp only [spec_l2Bits.l0]
    refine ev_pos (by omega) (ev_pos (by omega) (ev_pos (by rw [tbl.bits_length]; omega) ?_))
    rw [shr_at x i (by omega), wrap_small (by omega) (by omega), show Int.tmod ((x / 2 ^ i : Nat) : Int) 2 = ((x / 2 ^ i % 2 : Nat) : Int) by rw [Int.natCast_emod]; exact Int.tmod_eq_emod_of_nonneg (Int.natCast_nonneg _), ← bits_succ]
    exact ih (i + 1) (by omega)
theorem l2b (x m : Nat) (hm : m ≤ 6) : Ev (fun k => spec_l2Bits.f k (x : Int) (m : Int)) (tbl.bits m x) := by
  simp only [spec_l2Bits.f]
  exact l2b_loop x m hm m 0 (by omega)
def Tp (m : Nat) (l : List S69) (i : Nat) : List Bool := (List.range i).map (tbl.val m l)
theorem Tp_succ (m : Nat) (l : List S69) (i : Nat) : Tp m l (i + 1) = Tp m l i ++ [tbl.val m l i] := by
  unfold Tp
  rw [List.range_succ, List.map_append]
  rfl
theorem Tp_all (m : Nat) (l : List S69) : Tp m l (2 ^ m) = tbl.out m l (2 ^ m) := by
  unfold Tp tbl.out
  apply List.ext_getElem?
  intro j
  by_cases hj : j < 2 ^ m <;> simp [hj]
theorem shl_at (m : Nat) (hm : m ≤ 6) : shl .i64 1 (m : Int) = ((2 ^ m : Nat) : Int) := by
  unfold shl
  rw [Int.toNat_natCast, show IntKind.i64.bits = 64 from rfl, Nat.min_eq_left (by omega), i64_w, Int.one_mul, show (2 : Int) ^ m = ((2 ^ m : Nat) : Int) by simp]
  have := pow64 hm
  exact wrap_small (by omega) (by omega)
theorem specT_loop (l : List S69) (m : Nat) (hm : m ≤ 6) (h : LV (m : Int) l = true) : ∀ (d i : Nat), i + d = 2 ^ m → Ev (fun k => spec_LogicTable.l0 k l (m : Int) (Tp m l i) (i : Int)) (T (m : Int) l) := by
  intro d
  have hp := pow64 hm
  induction d with
  | zero =>
    intro i hi
    refine ev_succ ?_
    simp only [spec_LogicTable.l0]
    rw [shl_at m hm]
    refine ev_pos (by omega) (ev_neg (by omega) (ev_of ?_))
    rw [show i = 2 ^ m by omega, Tp_all, T_yes hm h]
  | succ d ih =>
    intro i hi
    refine ev_succ ?_
    simp only [spec_LogicTable.l0]
    rw [shl_at m hm]
    refine ev_pos (by omega) (ev_pos (by omega) (Ev.bind (l2b i m hm) ?_))
    have he : spec_l2Eval.f l (tbl.bits m i) = some (tbl.val m l i) := tval h i
    rw [he]
    refine ev_some (ev_pos (by unfold Tp; rw [List.length_map, List.length_range]; omega) ?_)
    rw [wrap_small (by omega) (by omega), ← Tp_succ]
    exact ih (i + 1) (by omega)
theorem specT (l : List S69) (n : Int) (hl : l.length ≤ 1048576) : Ev (fun k => spec_LogicTable.f k l n) (T n l) := by
  simp only [spec_LogicTable.f]
  refine ev_some ?_
  rw [inS]
  refine ev_some ?_
  by_cases hn : 0 ≤ n ∧ n ≤ 6
  · obtain ⟨m, rfl⟩ : ∃ m : Nat, n = (m : Int) := ⟨n.toNat, by omega⟩
    refine ev_pos (by simp; omega) (Ev.bind (lvS (m : Int) l hl) (ev_succ ?_))
    simp only [spec_LogicTable.j0]
    by_cases hv : LV (m : Int) l = true
    · refine ev_neg (by rw [hv]; decide) ?_
      exact specT_loop l m (by omega) hv (2 ^ m) 0 (by omega)
    · refine ev_pos (by simpa using hv) (ev_of ?_)
      rw [T_no (by intro h; exact hv h.2.2)]
  · refine ev_neg (by simp; omega) (ev_succ ?_)
    simp only [spec_LogicTable.j0]
    refine ev_pos (by first | rfl | trivial) (ev_of ?_)
    rw [T_no (by intro h; exact hn ⟨h.1, h.2.1⟩)]

theorem sz_node (l : List S71) (left : Int) (h0 : 0 ≤ left) (h1 : left ≤ 1048576) (hl : l.length ≤ maxLen) : (∃ r, laws_szNodeS.f l left = some r ∧ r < 0) ∨ ((l.length : Int) ≤ left ∧ laws_szNodeS.f l left = some (left - (l.length : Int))) := by
  have hlm := len_cap hl
  unfold laws_szNodeS.f
  have w : wrap64 (left - (l.length : Int)) = left - (l.length : Int) := wrap_small (by omega) (by omega)
  rw [w]
  by_cases hb : left - (l.length : Int) < 0
  · rw [if_pos hb]; exact .inl ⟨-1, rfl, by omega⟩
  · rw [if_neg hb]; exact .inr ⟨by omega, rfl⟩

def Eqv (n : Int) (a b : List S69) : Bool := if 0 ≤ n ∧ n ≤ 6 ∧ LV n a = true ∧ LV n b = true then decide (T n a = T n b) else false
theorem Eqv_no {n : Int} {a b : List S69} (h : ¬ (0 ≤ n ∧ n ≤ 6 ∧ LV n a = true ∧ LV n b = true)) : Eqv n a b = false := by unfold Eqv; rw [if_neg h]
theorem Eqv_yes {n : Int} {a b : List S69} (h : 0 ≤ n ∧ n ≤ 6 ∧ LV n a = true ∧ LV n b = true) : Eqv n a b = decide (T n a = T n b) := by unfold Eqv; rw [if_pos h]
theorem drop_eq {a b : List Bool} (i : Nat) (ha : i < a.length) (hb : i < b.length) : decide (a.drop i = b.drop i) = ((a[i] == b[i]) && decide (a.drop (i + 1) = b.drop (i + 1))) := by
  have e1 : a.drop i = a[i] :: a.drop (i + 1) := List.drop_eq_getElem_cons ha
  have e2 : b.drop i = b[i] :: b.drop (i + 1) := List.drop_eq_getElem_cons hb
  rw [e1, e2]
  clear e1 e2
  generalize a.drop (i + 1) = p
  generalize b.drop (i + 1) = q
  generalize a[i] = x
  generalize b[i] = y
  by_cases h1 : x = y <;> simp [h1]
theorem rdb {l : List Bool} (i : Nat) (h : i < l.length) : rdOf false l (i : Int) = l[i] := by simp [rdOf, List.getD_eq_getElem?_getD, h]
theorem cmpS (a b : List Bool) (hab : a.length = b.length) (hl : a.length ≤ 64) : ∀ (d i : Nat), i + d = a.length → Ev (fun k => spec_LogicEquivalent.l0 k a b (i : Int)) (decide (a.drop i = b.drop i)) := by
  intro d
  induction d with
  | zero =>
    intro i hi
    refine ev_succ ?_
    simp only [spec_LogicEquivalent.l0]
    rw [List.drop_eq_nil_of_le (show a.length ≤ i by omega), List.drop_eq_nil_of_le (show b.length ≤ i by omega)]
    exact ev_neg (by omega) (ev_of rfl)
  | succ d ih =>
    intro i hi
    refine ev_succ ?_
    simp only [spec_LogicEquivalent.l0]
    refine ev_pos (by omega) (ev_pos (by omega) (ev_pos (by omega) ?_))
    rw [rdb i (by omega), rdb i (by omega), drop_eq i (by omega) (by omega), wrap_small (by omega) (by omega)]
    by_cases h : a[i]'(by omega) = b[i]'(by omega)
    · refine ev_neg (by simp [h]) ?_
      rw [h, beq_self_eq_true, Bool.true_and]
      exact ih (i + 1) (by omega)
    · exact ev_pos (by simpa using h) (ev_of (by simp [h]))
theorem cmpI (a b : List Bool) (hab : a.length = b.length) (hl : a.length ≤ 64) : ∀ (d i : Nat), i + d = a.length → Ev (fun k => slices_Equal_bool_bool.l0 k a b (a.length : Int) (i : Int)) (decide (a.drop i = b.drop i)) := by
  intro d
  induction d with
  | zero =>
    intro i hi
    refine ev_succ ?_
    simp only [slices_Equal_bool_bool.l0]
    rw [List.drop_eq_nil_of_le (show a.length ≤ i by omega), List.drop_eq_nil_of_le (show b.length ≤ i by omega)]
    exact ev_neg (by omega) (ev_of rfl)
  | succ d ih =>
    intro i hi
    refine ev_succ ?_
    simp only [slices_Equal_bool_bool.l0]
    refine ev_pos (by omega) (ev_pos (by omega) (ev_pos (by omega) (ev_pos (by omega) ?_)))
    rw [rdb i (by omega), rdb i (by omega), drop_eq i (by omega) (by omega), wrap_small (by omega) (by omega)]
    by_cases h : a[i]'(by omega) = b[i]'(by omega)
    · refine ev_neg (by simp [h]) ?_
      rw [h, beq_self_eq_true, Bool.true_and]
      exact ih (i + 1) (by omega)
    · exact ev_pos (by simpa using h) (ev_of (by simp [h]))
theorem eqvS (a b : List S69) (n : Int) (ha : a.length ≤ 1048576) (hb : b.length ≤ 1048576) : Ev (fun k => spec_LogicEquivalent.f k a b n) (Eqv n a b) := by
  simp only [spec_LogicEquivalent.f]
  refine Ev.bind (specT a n ha) (Ev.bind (specT b n hb) ?_)
  by_cases hA : 0 ≤ n ∧ n ≤ 6 ∧ LV n a = true
  · obtain ⟨m, rfl⟩ : ∃ m : Nat, n = (m : Int) := ⟨n.toNat, by omega⟩
    have hm : m ≤ 6 := by omega
    have hp := pow64 hm
    have la := T_len hm hA.2.2
    refine ev_neg (by rw [la]; omega) (ev_succ ?_)
    simp only [spec_LogicEquivalent.j0]
    by_cases hB : LV (m : Int) b = true
    · have lb := T_len hm hB
      refine ev_neg (by rw [la, lb]; simp) ?_
      rw [Eqv_yes ⟨hA.1, hA.2.1, hA.2.2, hB⟩]
      exact cmpS _ _ (by rw [la, lb]) (by rw [la]; exact hp.2) (2 ^ m) 0 (by rw [la]; omega)
    · rw [Eqv_no (fun h => hB h.2.2.2), T_no (l := b) (fun h => hB h.2.2)]
      exact ev_pos (by rw [la]; simp only [List.length_nil]; rw [bne_iff_ne]; omega) (ev_of rfl)
  · rw [Eqv_no (fun h => hA ⟨h.1, h.2.1, h.2.2.1⟩), T_no hA]
    refine ev_pos (by simp) (ev_succ ?_)
    simp only [spec_LogicEquivalent.j0]
    exact ev_pos (by first | rfl | trivial) (ev_of rfl)
theorem eqvI (a b : List S69) (n : Int) (ha : a.length ≤ 1048576) (hb : b.length ≤ 1048576) : Ev (fun k => impl_LogicEquivalent.f k a b n) (Eqv n a b) := by
  simp only [impl_LogicEquivalent.f]
  rw [inI]
  refine ev_some ?_
  by_cases hn : 0 ≤ n ∧ n ≤ 6
  · obtain ⟨m, rfl⟩ : ∃ m : Nat, n = (m : Int) := ⟨n.toNat, by omega⟩
    have hm : m ≤ 6 := by omega
    have hp := pow64 hm
    refine ev_pos (by simp; omega) (Ev.bind (lvI (m : Int) a ha) ?_)
    by_cases hA : LV (m : Int) a = true
    · refine ev_pos hA (Ev.bind (lvI (m : Int) b hb) ?_)
      by_cases hB : LV (m : Int) b = true
      · refine ev_pos hB ?_
        have la := T_len hm hA
        have lb := T_len hm hB
        rw [tableI hm hA, tableI hm hB, Eqv_yes ⟨hn.1, hn.2, hA, hB⟩]
        refine ev_some (ev_some (Ev.bind (g := fun k => slices_Equal_bool_bool.f k (T (m : Int) a) (T (m : Int) b)) (a := decide (T (m : Int) a = T (m : Int) b)) ?_ (ev_of rfl)))
        simp only [slices_Equal_bool_bool.f]
        refine ev_pos (by rw [la, lb]) ?_
        exact cmpI _ _ (by rw [la, lb]) (by rw [la]; exact hp.2) (2 ^ m) 0 (by rw [la]; omega)
      · rw [Eqv_no (fun h => hB h.2.2.2)]
        exact ev_neg hB (ev_of rfl)
    · rw [Eqv_no (fun h => hA h.2.2.1)]
      exact ev_neg hA (ev_of rfl)
  · rw [Eqv_no (fun h => hn ⟨h.1, h.2.1⟩)]
    exact ev_neg (by simp; omega) (ev_of rfl)

theorem pure_holds : Pure := by
  intro a b n ha hb hn
  refine Ev.rounds ?_
  simp only [laws_FnExactLogicEquivalent.f]
  rcases sz_node a 1048576 (by omega) (by omega) ha.1 with ⟨r, hr, hr0⟩ | ⟨hla, hr⟩
  · rw [hr]; exact ev_some (ev_pos hr0 (ev_of rfl))
  · rw [hr]
    refine ev_some (ev_neg (by omega) ?_)
    rcases sz_node b (1048576 - (a.length : Int)) (by omega) (by omega) hb.1 with ⟨r, hr, hr0⟩ | ⟨hlb, hr⟩
    · rw [hr]; exact ev_some (ev_pos hr0 (ev_of rfl))
    · rw [hr]
      refine ev_some (ev_neg (by omega) ?_)
      have hna : a.length ≤ 1048576 := by omega
      have hnb : b.length ≤ 1048576 := by omega
      have hma : (a.map cv).length ≤ 1048576 := by simpa using hna
      have hmb : (b.map cv).length ≤ 1048576 := by simpa using hnb
      have ta := toNode_ev a hna
      have tb := toNode_ev b hnb
      refine Ev.bind ta (Ev.bind tb (Ev.bind (eqvS _ _ n hma hmb) (Ev.bind ta (Ev.bind tb (Ev.bind (eqvI _ _ n hma hmb) (ev_neg (by simp) ?_))))))
      refine Ev.bind ta (Ev.bind (eqNode_ev _ hma) (ev_pos rfl (Ev.bind tb (Ev.bind (eqNode_ev _ hmb) (ev_pos rfl (ev_of rfl))))))

end Go.Proofs.Ytmphligplngeaaa.fnExactLogicEquivalent

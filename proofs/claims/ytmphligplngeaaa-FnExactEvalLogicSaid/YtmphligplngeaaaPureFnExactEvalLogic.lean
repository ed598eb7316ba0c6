/- The law FnExactEvalLogic answers true for every image and every list of elements; no condition but that the numbers are of their kind. -/
import Derived.Test.YtmphligplngeaaaStFnExactEvalLogic
namespace Go.Proofs.Ytmphligplngeaaa.fnExactEvalLogic
open Go.RowKit Go.Proofs.Ytmphligplngeaaa.GFnExactEvalLogic Go.Proofs.YtmphligplngeaaaV.PrintWords Go.Proofs.YtmphligplngeaaaV.PrintLast Go.Proofs.YtmphligplngeaaaV.PrintMore
set_option linter.unusedVariables false
set_option linter.unusedSimpArgs false

theorem ev_succ {α : Type} {g : Nat → Option α} {r : α} (h : Ev (fun k => g (k + 1)) r) : Ev g r := Ev.step (fun _ => rfl) h
theorem ev_pos {α : Type} {c : Prop} [Decidable c] {g f : Nat → Option α} {r : α} (hc : c) (h : Ev g r) : Ev (fun k => if c then g k else f k) r := Ev.congr (fun _ => if_pos hc) h
theorem ev_neg {α : Type} {c : Prop} [Decidable c] {g f : Nat → Option α} {r : α} (hc : ¬ c) (h : Ev f r) : Ev (fun k => if c then g k else f k) r := Ev.congr (fun _ => if_neg hc) h
theorem ev_some {α β : Type} {a : α} {f : Nat → α → Option β} {r : β} (h : Ev (fun k => f k a) r) : Ev (fun k => (some a).bind (f k)) r := h
theorem ev_of {α : Type} {a : Option α} {r : α} (h : a = some r) : Ev (fun _ => a) r := ⟨0, fun _ _ => h⟩
theorem ev_eq {α : Type} {g : Nat → Option α} {r r' : α} (h : Ev g r) (e : r = r') : Ev g r' := e ▸ h
theorem wrap_small {i : Int} (h0 : -9223372036854775808 ≤ i) (h1 : i ≤ 9223372036854775807) : wrap64 i = i := by unfold wrap64; omega
theorem wf_bounds {x : Int} (h : (Lit.int .i64 x).wf = true) : -9223372036854775808 ≤ x ∧ x ≤ 9223372036854775807 := by
  simp [Lit.wf, IntKind.min, IntKind.max, IntKind.signed, IntKind.bits] at h
  omega
theorem set_keeps {α : Type} (l out : List α) (d : α) (i : Nat) (hi : i < l.length) (ho : out.length = l.length) (h : ∀ j, j < i → out[j]? = l[j]?) : ∀ j, j < i + 1 → (out.set i (l.getD i d))[j]? = l[j]? := by
  intro j hj
  rw [List.getElem?_set]
  by_cases e : i = j
  · subst e
    rw [if_pos rfl, if_pos (by omega), List.getD_eq_getElem?_getD, List.getElem?_eq_getElem hi]
    rfl
  · rw [if_neg e]
    exact h j (by omega)
theorem all_kept {α : Type} (l out : List α) (ho : out.length = l.length) (h : ∀ j, j < l.length → out[j]? = l[j]?) : out = l := by
  apply List.ext_getElem?
  intro j
  by_cases hj : j < l.length
  · exact h j hj
  · rw [List.getElem?_eq_none (by omega), List.getElem?_eq_none (by omega)]

theorem toBool_loop (l : List Bool) (hl : l.length ≤ 1048576) : ∀ (m i : Nat) (out : List Bool), i + m = l.length → out.length = l.length → (∀ j, j < i → out[j]? = l[j]?) → Ev (fun k => laws_toBoolS.l0 k l out (i : Int)) l := by
  intro m
  induction m with
  | zero =>
    intro i out hi ho h
    refine ev_succ ?_
    simp only [laws_toBoolS.l0]
    refine ev_neg (by omega) ?_
    exact ev_of (congrArg some (all_kept l out ho (fun j hj => h j (by omega))))
  | succ m ih =>
    intro i out hi ho h
    refine ev_succ ?_
    simp only [laws_toBoolS.l0]
    refine ev_pos (by omega) (ev_pos (by omega) (ev_pos (by omega) ?_))
    rw [wrap_small (by omega) (by omega)]
    have hs := ih (i + 1) (out.set i (l.getD i false)) (by omega) (by simpa using ho) (set_keeps l out false i (by omega) ho h)
    simpa [rdOf, rd] using hs
theorem toBool_ev (l : List Bool) (hl : l.length ≤ 1048576) : Ev (fun k => laws_toBoolS.f k l) l := by
  simp only [laws_toBoolS.f]
  refine ev_pos (by omega) (ev_pos (by omega) ?_)
  have h := toBool_loop l hl l.length 0 (List.replicate ((l.length : Int)).toNat false) (by omega) (by simp) (fun j hj => by omega)
  exact h

theorem toInt_loop (l : List Int) (hl : l.length ≤ 1048576) : ∀ (m i : Nat) (out : List Int), i + m = l.length → out.length = l.length → (∀ j, j < i → out[j]? = l[j]?) → Ev (fun k => laws_toIntS.l0 k l out (i : Int)) l := by
  intro m
  induction m with
  | zero =>
    intro i out hi ho h
    refine ev_succ ?_
    simp only [laws_toIntS.l0]
    refine ev_neg (by omega) ?_
    exact ev_of (congrArg some (all_kept l out ho (fun j hj => h j (by omega))))
  | succ m ih =>
    intro i out hi ho h
    refine ev_succ ?_
    simp only [laws_toIntS.l0]
    refine ev_pos (by omega) (ev_pos (by omega) (ev_pos (by omega) ?_))
    rw [wrap_small (by omega) (by omega)]
    have hs := ih (i + 1) (out.set i (l.getD i 0)) (by omega) (by simpa using ho) (set_keeps l out 0 i (by omega) ho h)
    simpa [rdOf, rd] using hs
theorem toInt_ev (l : List Int) (hl : l.length ≤ 1048576) : Ev (fun k => laws_toIntS.f k l) l := by
  simp only [laws_toIntS.f]
  refine ev_pos (by omega) (ev_pos (by omega) ?_)
  have h := toInt_loop l hl l.length 0 (List.replicate ((l.length : Int)).toNat 0) (by omega) (by simp) (fun j hj => by omega)
  exact h

theorem eqBool_loop (l : List Bool) (hl : l.length ≤ 1048576) : ∀ (m i : Nat), i + m = l.length → Ev (fun k => laws_eqBoolS.l0 k l l (i : Int)) true := by
  intro m
  induction m with
  | zero =>
    intro i hi
    refine ev_succ ?_
    simp only [laws_eqBoolS.l0]
    exact ev_neg (by omega) (ev_of rfl)
  | succ m ih =>
    intro i hi
    refine ev_succ ?_
    simp only [laws_eqBoolS.l0]
    refine ev_pos (by omega) (ev_pos (by omega) (ev_pos (by omega) ?_))
    refine ev_neg (by simp) ?_
    rw [wrap_small (by omega) (by omega)]
    exact ih (i + 1) (by omega)
theorem eqBool_ev (l : List Bool) (hl : l.length ≤ 1048576) : Ev (fun k => laws_eqBoolS.f k l l) true := by
  simp only [laws_eqBoolS.f]
  refine ev_pos (by first | rfl | trivial) ?_
  exact eqBool_loop l hl l.length 0 (by omega)

theorem eqInt_loop (l : List Int) (hl : l.length ≤ 1048576) : ∀ (m i : Nat), i + m = l.length → Ev (fun k => laws_eqIntS.l0 k l l (i : Int)) true := by
  intro m
  induction m with
  | zero =>
    intro i hi
    refine ev_succ ?_
    simp only [laws_eqIntS.l0]
    exact ev_neg (by omega) (ev_of rfl)
  | succ m ih =>
    intro i hi
    refine ev_succ ?_
    simp only [laws_eqIntS.l0]
    refine ev_pos (by omega) (ev_pos (by omega) (ev_pos (by omega) ?_))
    refine ev_pos (by first | rfl | trivial) ?_
    rw [wrap_small (by omega) (by omega)]
    exact ih (i + 1) (by omega)
theorem eqInt_ev (l : List Int) (hl : l.length ≤ 1048576) : Ev (fun k => laws_eqIntS.f k l l) true := by
  simp only [laws_eqIntS.f]
  refine ev_pos (by first | rfl | trivial) ?_
  exact eqInt_loop l hl l.length 0 (by omega)

theorem sz_image (b : List Bool) (w : List Int) (left : Int) (h0 : 0 ≤ left) (h1 : left ≤ 1048576) (hb : b.length ≤ maxLen) (hw : w.length ≤ maxLen) :
    (∃ r, laws_szImage.f b w left = some r ∧ r < 0) ∨ ((b.length : Int) + w.length ≤ left ∧ laws_szImage.f b w left = some (left - b.length - w.length)) := by
  unfold maxLen at hb hw
  unfold laws_szImage.f laws_szBoolS.f laws_szIntS.f
  have e1 : wrap64 (left - (b.length : Int)) = left - b.length := wrap_small (by omega) (by omega)
  rw [e1]
  by_cases h : left - (b.length : Int) < 0
  · rw [if_pos h]
    exact .inl ⟨-1, rfl, by omega⟩
  · rw [if_neg h]
    simp only [Option.bind_some]
    rw [if_neg h]
    have e2 : wrap64 (left - (b.length : Int) - (w.length : Int)) = left - b.length - w.length := wrap_small (by omega) (by omega)
    rw [e2]
    by_cases h2 : left - (b.length : Int) - (w.length : Int) < 0
    · rw [if_pos h2]
      exact .inl ⟨-1, rfl, by omega⟩
    · rw [if_neg h2]
      simp only [Option.bind_some]
      rw [if_neg h2]
      exact .inr ⟨by omega, rfl⟩
theorem toImage_ev (b : List Bool) (w : List Int) (hb : b.length ≤ 1048576) (hw : w.length ≤ 1048576) : Ev (fun k => laws_toImage.f k b w) (b, w) := by
  simp only [laws_toImage.f]
  refine Ev.bind (toBool_ev b hb) ?_
  refine Ev.bind (toInt_ev w hw) ?_
  exact ev_of rfl
theorem eqImage_ev (b : List Bool) (w : List Int) (hb : b.length ≤ 1048576) (hw : w.length ≤ 1048576) : Ev (fun k => laws_eqImage.f k b w b w) true := by
  simp only [laws_eqImage.f]
  refine Ev.bind (eqBool_ev b hb) (ev_pos rfl ?_)
  refine Ev.bind (eqInt_ev w hw) (ev_pos rfl ?_)
  exact ev_of rfl

theorem inS (a b c : Int) : spec_l1In.f a b c = some (decide (b ≤ a) && decide (a ≤ c)) := by
  unfold spec_l1In.f
  by_cases h : a ≥ b
  · rw [if_pos h]; simp [show b ≤ a from h]
  · rw [if_neg h]; simp [show ¬ b ≤ a from h]

/-- Is a number a word? -/
def word (x : Int) : Bool := decide (-32768 ≤ x) && decide (x ≤ 32767)
def iv (b : List Bool) (w : List Int) : Bool := decide ((b.length : Int) ≤ 16) && decide ((w.length : Int) ≤ 8) && w.all word
theorem ivI (b : List Bool) (w : List Int) : impl_ImageValid.f b w = some (iv b w) := by
  unfold impl_ImageValid.f iv
  have : w.all word = !w.any impl_ImageValid.bad := by
    induction w with
    | nil => rfl
    | cons x r ih =>
      rw [List.all_cons, List.any_cons, ih]
      simp [impl_ImageValid.bad, word]
  rw [this]
theorem ivS_loop (b : List Bool) (w : List Int) (hw : w.length ≤ 1048576) : ∀ (m i : Nat), i + m = w.length → Ev (fun k => spec_ImageValid.l0 k (i : Int) b w) (decide ((b.length : Int) ≤ 16) && decide ((w.length : Int) ≤ 8) && (w.drop i).all word) := by
  intro m
  induction m with
  | zero =>
    intro i hi
    refine ev_succ ?_
    simp only [spec_ImageValid.l0]
    refine ev_neg (by omega) ?_
    rw [List.drop_eq_nil_of_le (by omega)]
    by_cases h : (b.length : Int) ≤ 16
    · exact ev_pos h (ev_of (by simp [h]))
    · exact ev_neg h (ev_of (by simp [h]))
  | succ m ih =>
    intro i hi
    refine ev_succ ?_
    simp only [spec_ImageValid.l0]
    refine ev_pos (by omega) (ev_pos (by omega) ?_)
    have hg : rd w (i : Int) = w[i]'(by omega) := by simp [rd, List.getD_eq_getElem?_getD, show i < w.length by omega]
    have hd : w.drop i = w[i]'(by omega) :: w.drop (i + 1) := List.drop_eq_getElem_cons (by omega)
    rw [inS, hg, hd, List.all_cons]
    refine ev_some ?_
    by_cases h : word (w[i]'(by omega)) = true
    · refine ev_pos h ?_
      rw [wrap_small (by omega) (by omega), h, Bool.true_and]
      exact ih (i + 1) (by omega)
    · refine ev_neg h (ev_of ?_)
      rw [show word (w[i]'(by omega)) = false by simpa using h]
      simp
theorem ivS (b : List Bool) (w : List Int) (hw : w.length ≤ 1048576) : Ev (fun k => spec_ImageValid.f k b w) (iv b w) := by
  simp only [spec_ImageValid.f]
  exact ivS_loop b w hw w.length 0 (by omega)

theorem len_cap {l : Nat} (h : l ≤ maxLen) : (l : Int) ≤ 9223372036854775807 := by
  have : maxLen ≤ 9223372036854775807 := by decide
  omega
def cv (x : S71) : S69 := ⟨x.f0, x.f1⟩
theorem toNode_loop (l : List S71) (hl : l.length ≤ 1048576) : ∀ (m i : Nat) (out : List S69), i + m = l.length → out.length = l.length → (∀ j, j < i → out[j]? = (l.map cv)[j]?) → Ev (fun k => laws_toNodeS.l0 k l out (i : Int)) (l.map cv) := by
  intro m
  induction m with
  | zero =>
    intro i out hi ho h
    refine ev_succ ?_
    simp only [laws_toNodeS.l0]
    refine ev_neg (by omega) ?_
    exact ev_of (congrArg some (all_kept _ out (by simpa using ho) (fun j hj => h j (by simp at hj; omega))))
  | succ m ih =>
    intro i out hi ho h
    refine ev_succ ?_
    simp only [laws_toNodeS.l0, laws_toNode.f]
    refine ev_pos (by omega) (ev_pos (by omega) (ev_some (ev_pos (by omega) ?_)))
    rw [wrap_small (by omega) (by omega)]
    have hs := ih (i + 1) (out.set i ((l.map cv).getD i z69)) (by omega) (by simpa using ho) (set_keeps (l.map cv) out z69 i (by simp; omega) (by simpa using ho) h)
    rw [show (l.map cv).getD i z69 = cv (l[i]'(by omega)) by rw [List.getD_eq_getElem?_getD, List.getElem?_map, List.getElem?_eq_getElem (by omega)]; rfl] at hs
    have hg : rd_T71 l (i : Int) = l[i]'(by omega) := by unfold rd_T71; rw [Int.toNat_natCast, List.getD_eq_getElem?_getD, List.getElem?_eq_getElem (by omega)]; rfl
    rw [hg, Int.toNat_natCast]
    exact hs
theorem toNode_ev (l : List S71) (hl : l.length ≤ 1048576) : Ev (fun k => laws_toNodeS.f k l) (l.map cv) := by
  simp only [laws_toNodeS.f]
  refine ev_pos (by omega) (ev_pos (by omega) ?_)
  exact toNode_loop l hl l.length 0 (List.replicate ((l.length : Int)).toNat z69) (by omega) (by simp) (fun j hj => by omega)
theorem eqNode_loop (l : List S69) (hl : l.length ≤ 1048576) : ∀ (m i : Nat), i + m = l.length → Ev (fun k => laws_eqNodeS.l0 k l l (i : Int)) true := by
  intro m
  induction m with
  | zero =>
    intro i hi
    refine ev_succ ?_
    simp only [laws_eqNodeS.l0]
    exact ev_neg (by omega) (ev_of rfl)
  | succ m ih =>
    intro i hi
    refine ev_succ ?_
    simp only [laws_eqNodeS.l0, laws_eqNode.f]
    refine ev_pos (by omega) (ev_pos (by omega) (ev_pos (by omega) ?_))
    simp only [if_true]
    refine ev_some (ev_pos rfl ?_)
    rw [wrap_small (by omega) (by omega)]
    exact ih (i + 1) (by omega)
theorem eqNode_ev (l : List S69) (hl : l.length ≤ 1048576) : Ev (fun k => laws_eqNodeS.f k l l) true := by
  simp only [laws_eqNodeS.f]
  refine ev_pos (by first | rfl | trivial) ?_
  exact eqNode_loop l hl l.length 0 (by omega)
theorem rd75 (l : List S69) (i : Nat) (h : i < l.length) : rd_T69 l (i : Int) = l[i] := by
  unfold rd_T69; rw [Int.toNat_natCast, List.getD_eq_getElem?_getD, List.getElem?_eq_getElem h]; rfl

theorem inI (a b c : Int) : impl_in.f a b c = some (decide (b ≤ a) && decide (a ≤ c)) := by
  unfold impl_in.f
  by_cases h : a ≥ b
  · rw [if_pos h]; simp [show b ≤ a from h]
  · rw [if_neg h]; simp [show ¬ b ≤ a from h]

def need (o : Int) : Int := if o = 2 then 1 else if 3 ≤ o ∧ o ≤ 5 then 2 else 0
def okN (n d : Int) (x : S69) : Bool := decide (1 ≤ x.f0 ∧ x.f0 ≤ 7 ∧ need x.f0 ≤ d ∧ (if x.f0 = 1 then 0 ≤ x.f1 ∧ x.f1 < n else x.f1 = 0))
/-- The depth of the stack behind a list. -/
def lv (n : Int) : Int → List S69 → Bool
  | d, [] => d == 1
  | d, x :: r => if okN n d x then lv n (d - need x.f0 + 1) r else false
def LV (n : Int) (l : List S69) : Bool := decide ((l.length : Int) ≤ 24) && lv n 0 l
theorem needS (o : Int) : spec_l2Need.f o = some (if 1 ≤ o ∧ o ≤ 7 then need o else -1) := by
  unfold spec_l2Need.f
  rw [inS]
  by_cases h : 1 ≤ o ∧ o ≤ 7
  · have hc : o = 1 ∨ o = 2 ∨ o = 3 ∨ o = 4 ∨ o = 5 ∨ o = 6 ∨ o = 7 := by omega
    rcases hc with rfl | rfl | rfl | rfl | rfl | rfl | rfl <;> rfl
  · rw [if_neg h]
    have : (decide (1 ≤ o) && decide (o ≤ 7)) = false := by simp; omega
    rw [this]
    rfl
theorem need_b (o : Int) : 0 ≤ need o ∧ need o ≤ 2 := by
  unfold need
  split
  · omega
  · split <;> omega
theorem lvS_loop (n : Int) (l : List S69) (hl : l.length ≤ 1048576) : ∀ (m i : Nat) (d : Int), i + m = l.length → 0 ≤ d → d ≤ i → Ev (fun k => spec_LogicValid.l0 k l n d (i : Int)) (decide ((l.length : Int) ≤ 24) && lv n d (l.drop i)) := by
  intro m
  induction m with
  | zero =>
    intro i d hi h0 h1
    refine ev_succ ?_
    simp only [spec_LogicValid.l0]
    refine ev_neg (by omega) ?_
    rw [List.drop_eq_nil_of_le (by omega)]
    by_cases h : (l.length : Int) ≤ 24
    · exact ev_pos h (ev_of (by simp [h, lv]))
    · exact ev_neg h (ev_of (by simp [h]))
  | succ m ih =>
    intro i d hi h0 h1
    refine ev_succ ?_
    simp only [spec_LogicValid.l0]
    refine ev_pos (by omega) (ev_pos (by omega) ?_)
    rw [rd75 l i (by omega), List.drop_eq_getElem_cons (show i < l.length by omega)]
    generalize l[i] = x
    rw [needS]
    refine ev_some ?_
    have hb := need_b x.f0
    have bad : okN n d x = false → Ev (fun _ : Nat => some false) (decide ((l.length : Int) ≤ 24) && lv n d (x :: l.drop (i + 1))) := by
      intro h
      refine ev_of ?_
      simp [lv, h]
    have good : okN n d x = true → Ev (fun k => spec_LogicValid.l0 k l n (wrap64 ((wrap64 (d - need x.f0)) + 1)) (wrap64 ((i : Int) + 1))) (decide ((l.length : Int) ≤ 24) && lv n d (x :: l.drop (i + 1))) := by
      intro h
      have h2 : need x.f0 ≤ d := by simp [okN] at h; omega
      rw [wrap_small (i := d - need x.f0) (by omega) (by omega), wrap_small (i := d - need x.f0 + 1) (by omega) (by omega), wrap_small (i := (i : Int) + 1) (by omega) (by omega)]
      have := ih (i + 1) (d - need x.f0 + 1) (by omega) (by omega) (by omega)
      rw [show lv n d (x :: l.drop (i + 1)) = lv n (d - need x.f0 + 1) (l.drop (i + 1)) by simp [lv, h]]
      exact this
    by_cases hr : 1 ≤ x.f0 ∧ x.f0 ≤ 7
    · rw [if_pos hr]
      refine ev_neg (by omega) ?_
      by_cases hd : need x.f0 > d
      · exact ev_pos hd (bad (by simp [okN]; omega))
      · refine ev_neg hd ?_
        by_cases h1' : x.f0 = 1
        · refine ev_pos h1' ?_
          by_cases ha : x.f1 < 0
          · exact ev_pos ha (bad (by simp [okN, h1']; omega))
          · refine ev_neg ha ?_
            by_cases hc : x.f1 ≥ n
            · exact ev_pos hc (bad (by simp [okN, h1']; omega))
            · exact ev_neg hc (good (by simp only [okN, if_pos h1', decide_eq_true_eq]; omega))
        · refine ev_neg h1' ?_
          by_cases ha : x.f1 = 0
          · exact ev_pos ha (good (by simp only [okN, if_neg h1', decide_eq_true_eq]; omega))
          · exact ev_neg ha (bad (by simp [okN, h1', ha]))
    · rw [if_neg hr]
      exact ev_pos (by omega) (bad (by simp only [okN, decide_eq_false_iff_not]; omega))
theorem lvS (n : Int) (l : List S69) (hl : l.length ≤ 1048576) : Ev (fun k => spec_LogicValid.f k l n) (LV n l) := by
  simp only [spec_LogicValid.f]
  exact lvS_loop n l hl l.length 0 0 (by omega) (by omega) (by omega)
theorem lvI_loop (n : Int) (l : List S69) (hl : l.length ≤ 1048576) : ∀ (m i : Nat) (d : Int), i + m = l.length → 0 ≤ d → d ≤ i → Ev (fun k => impl_LogicValid.l0 k n d l (l.length : Int) (i : Int)) (lv n d (l.drop i)) := by
  intro m
  induction m with
  | zero =>
    intro i d hi h0 h1
    refine ev_succ ?_
    simp only [impl_LogicValid.l0]
    refine ev_neg (by omega) ?_
    rw [List.drop_eq_nil_of_le (by omega)]
    exact ev_of rfl
  | succ m ih =>
    intro i d hi h0 h1
    refine ev_succ ?_
    simp only [impl_LogicValid.l0]
    refine ev_pos (by omega) (ev_pos (by omega) (ev_pos (by omega) ?_))
    rw [rd75 l i (by omega), List.drop_eq_getElem_cons (show i < l.length by omega)]
    generalize l[i] = x
    have hb := need_b x.f0
    have bad : okN n d x = false → Ev (fun _ : Nat => some false) (lv n d (x :: l.drop (i + 1))) := by
      intro h
      refine ev_of ?_
      simp [lv, h]
    have good : ∀ d', okN n d x = true → d' = d - need x.f0 + 1 → 0 ≤ d' → d' ≤ i + 1 → Ev (fun k => impl_LogicValid.l0 k n d' l (l.length : Int) (wrap64 ((i : Int) + 1))) (lv n d (x :: l.drop (i + 1))) := by
      intro d' h e h2 h3
      rw [wrap_small (i := (i : Int) + 1) (by omega) (by omega)]
      have := ih (i + 1) d' (by omega) (by omega) (by omega)
      rw [show lv n d (x :: l.drop (i + 1)) = lv n d' (l.drop (i + 1)) by simp [lv, h, e]]
      exact this
    have w1 : wrap64 (d + 1) = d + 1 := wrap_small (by omega) (by omega)
    have w2 : wrap64 (d - 1) = d - 1 := wrap_small (by omega) (by omega)
    by_cases h1' : x.f0 = 1
    · refine ev_pos h1' (ev_succ ?_)
      simp only [impl_LogicValid.j1]
      refine ev_neg (by simp) (ev_pos h1' ?_)
      by_cases ha : x.f1 < 0
      · exact ev_pos ha (bad (by simp [okN, h1']; omega))
      · refine ev_neg ha ?_
        by_cases hc : x.f1 ≥ n
        · exact ev_pos hc (bad (by simp [okN, h1']; omega))
        · refine ev_neg hc ?_
          rw [w1]
          exact good _ (by simp only [okN, if_pos h1', decide_eq_true_eq]; rw [h1']; simp [need]; omega) (by rw [h1']; simp [need]) (by omega) (by omega)
    · refine ev_neg h1' (ev_succ ?_)
      simp only [impl_LogicValid.j1]
      by_cases hz : x.f1 = 0
      · refine ev_neg (by simp [hz]) (ev_neg h1' ?_)
        have hj3 : x.f0 ≠ 2 → x.f0 ≠ 6 → x.f0 ≠ 7 → ∀ b : Bool, b = decide (3 ≤ x.f0 ∧ x.f0 ≤ 5) → Ev (fun k => impl_LogicValid.j3 k n d l (l.length : Int) (i : Int) b) (lv n d (x :: l.drop (i + 1))) := by
          intro g2 g6 g7 b hbb
          refine ev_succ ?_
          simp only [impl_LogicValid.j3]
          by_cases hr : 3 ≤ x.f0 ∧ x.f0 ≤ 5
          · have hn : need x.f0 = 2 := by unfold need; rw [if_neg g2, if_pos hr]
            refine ev_pos (by rw [hbb]; exact decide_eq_true hr) ?_
            by_cases hd : d < 2
            · exact ev_pos hd (bad (by simp [okN, hn]; omega))
            · refine ev_neg hd ?_
              rw [w2]
              exact good _ (by simp only [okN, if_neg h1', decide_eq_true_eq, hn]; omega) (by omega) (by omega) (by omega)
          · refine ev_neg (by rw [hbb]; simpa using hr) (bad ?_)
            simp only [okN, decide_eq_false_iff_not]
            omega
        have hj2 : ∀ b : Bool, b = decide (x.f0 = 6 ∨ x.f0 = 7) → Ev (fun k => impl_LogicValid.j2 k n d l (l.length : Int) (i : Int) x.f0 b) (lv n d (x :: l.drop (i + 1))) := by
          intro b hbb
          refine ev_succ ?_
          simp only [impl_LogicValid.j2]
          by_cases h67 : x.f0 = 6 ∨ x.f0 = 7
          · have hn : need x.f0 = 0 := by unfold need; rw [if_neg (by omega), if_neg (by omega)]
            refine ev_pos (by rw [hbb]; exact decide_eq_true h67) ?_
            rw [w1]
            exact good _ (by simp only [okN, if_neg h1', decide_eq_true_eq, hn]; omega) (by omega) (by omega) (by omega)
          · refine ev_neg (by rw [hbb]; simpa using h67) ?_
            by_cases h2 : x.f0 = 2
            · have hn : need x.f0 = 1 := by unfold need; rw [if_pos h2]
              refine ev_pos h2 ?_
              by_cases hd : d < 1
              · exact ev_pos hd (bad (by simp [okN, hn]; omega))
              · exact ev_neg hd (good _ (by simp only [okN, if_neg h1', decide_eq_true_eq, hn]; omega) (by omega) (by omega) (by omega))
            · refine ev_neg h2 ?_
              have e3 : ¬ x.f0 = 6 := fun h => h67 (.inl h)
              have e4 : ¬ x.f0 = 7 := fun h => h67 (.inr h)
              by_cases g3 : x.f0 = 3
              · exact ev_pos g3 (hj3 h2 e3 e4 _ (by simp [g3]))
              · refine ev_neg g3 ?_
                by_cases g4 : x.f0 = 4
                · exact ev_pos g4 (hj3 h2 e3 e4 _ (by simp [g4]))
                · refine ev_neg g4 (hj3 h2 e3 e4 _ ?_)
                  by_cases g5 : x.f0 = 5
                  · simp [g5]
                  · rw [show (x.f0 == 5) = false by simpa using g5]
                    symm
                    simp only [decide_eq_false_iff_not]
                    omega
        by_cases g6 : x.f0 = 6
        · exact ev_pos g6 (hj2 _ (by simp [g6]))
        · refine ev_neg g6 (hj2 _ ?_)
          by_cases g7 : x.f0 = 7
          · simp [g7]
          · rw [show (x.f0 == 7) = false by simpa using g7]
            simp [g6, g7]
      · refine ev_pos (by simpa using hz) (bad (by simp [okN, h1', hz]))
theorem lvI (n : Int) (l : List S69) (hl : l.length ≤ 1048576) : Ev (fun k => impl_LogicValid.f k l n) (LV n l) := by
  simp only [impl_LogicValid.f]
  rw [inI]
  refine ev_some ?_
  unfold LV
  by_cases h0 : l.length = 0
  · have : l = [] := List.eq_nil_of_length_eq_zero h0
    subst this
    exact ev_neg (by simp) (ev_of rfl)
  · by_cases h : (l.length : Int) ≤ 24
    · refine ev_pos (by simp; omega) ?_
      rw [decide_eq_true h, Bool.true_and]
      exact lvI_loop n l hl l.length 0 0 (by omega) (by omega) (by omega)
    · refine ev_neg (by simp; omega) (ev_of (by simp [h]))

theorem run_some (n : Int) (bits : List Bool) (hb : n ≤ (bits.length : Int)) : ∀ (l : List S69) (d : Int) (st : List Bool), lv n d l = true → (st.length : Int) = d → ∃ s, evl.run bits l st = some s ∧ s.length = 1 := by
  intro l
  induction l with
  | nil =>
    intro d st h hd
    refine ⟨st, rfl, ?_⟩
    have : d = 1 := by simpa [lv] using h
    omega
  | cons x r ih =>
    intro d st h hd
    by_cases ho : okN n d x = true
    · rw [lv, if_pos ho] at h
      have hk := of_decide_eq_true ho
      have key : ∃ st', evl.step bits st x = some st' ∧ (st'.length : Int) = d - need x.f0 + 1 := by
        obtain ⟨h1, h7, hn, hc⟩ := hk
        unfold evl.step
        have hcase : x.f0 = 1 ∨ x.f0 = 2 ∨ x.f0 = 3 ∨ x.f0 = 4 ∨ x.f0 = 5 ∨ x.f0 = 6 ∨ x.f0 = 7 := by omega
        rcases hcase with e | e | e | e | e | e | e <;> rw [e] at hn hc ⊢
        · rw [if_pos rfl] at hc
          rw [if_pos rfl, if_pos (by omega)]
          exact ⟨_, rfl, by simp [need]; omega⟩
        · have hn' : (1 : Int) ≤ d := hn
          rw [if_neg (by decide), if_pos rfl, if_pos (by omega)]
          refine ⟨_, rfl, ?_⟩
          rw [List.length_append, List.length_take]
          simp [need]
          omega
        · have hn' : (2 : Int) ≤ d := hn
          rw [if_neg (by decide), if_neg (by decide), if_pos rfl, if_pos (by omega)]
          refine ⟨_, rfl, ?_⟩
          rw [List.length_append, List.length_take]
          simp [need]
          omega
        · have hn' : (2 : Int) ≤ d := hn
          rw [if_neg (by decide), if_neg (by decide), if_neg (by decide), if_pos rfl, if_pos (by omega)]
          refine ⟨_, rfl, ?_⟩
          rw [List.length_append, List.length_take]
          simp [need]
          omega
        · have hn' : (2 : Int) ≤ d := hn
          rw [if_neg (by decide), if_neg (by decide), if_neg (by decide), if_neg (by decide), if_pos rfl, if_pos (by omega)]
          refine ⟨_, rfl, ?_⟩
          rw [List.length_append, List.length_take]
          simp [need]
          omega
        · rw [if_neg (by decide), if_neg (by decide), if_neg (by decide), if_neg (by decide), if_neg (by decide)]
          exact ⟨_, rfl, by simp [need]; omega⟩
        · rw [if_neg (by decide), if_neg (by decide), if_neg (by decide), if_neg (by decide), if_neg (by decide)]
          exact ⟨_, rfl, by simp [need]; omega⟩
      obtain ⟨st', hs, hl⟩ := key
      obtain ⟨s, h1, h2⟩ := ih _ st' h hl
      refine ⟨s, ?_, h2⟩
      show (evl.step bits st x).bind (evl.run bits r) = some s
      rw [hs]
      exact h1
    · rw [lv, if_neg ho] at h
      exact absurd h (by simp)
theorem val_some {n : Int} {l : List S69} (h : LV n l = true) (bits : List Bool) (hb : n ≤ (bits.length : Int)) : ∃ b, evl.val bits l = some b := by
  unfold LV at h
  rw [Bool.and_eq_true] at h
  have h1 : (l.length : Int) ≤ 24 := of_decide_eq_true h.1
  obtain ⟨s, hs, hl⟩ := run_some n bits hb l 0 [] h.2 rfl
  unfold evl.val
  rw [if_pos (by omega), hs]
  exact ⟨_, if_pos (by omega)⟩

theorem sz_node (l : List S71) (left : Int) (h0 : 0 ≤ left) (h1 : left ≤ 1048576) (hl : l.length ≤ maxLen) : (∃ r, laws_szNodeS.f l left = some r ∧ r < 0) ∨ ((l.length : Int) ≤ left ∧ laws_szNodeS.f l left = some (left - (l.length : Int))) := by
  have hlm := len_cap hl
  unfold laws_szNodeS.f
  have w : wrap64 (left - (l.length : Int)) = left - (l.length : Int) := wrap_small (by omega) (by omega)
  rw [w]
  by_cases hb : left - (l.length : Int) < 0
  · rw [if_pos hb]; exact .inl ⟨-1, rfl, by omega⟩
  · rw [if_neg hb]; exact .inr ⟨by omega, rfl⟩

def Eva (b : List Bool) (w : List Int) (l : List S69) : Bool := if iv b w = true ∧ LV (b.length : Int) l = true then (evl.val b l).getD false else false
theorem Eva_no {b : List Bool} {w : List Int} {l : List S69} (h : ¬ (iv b w = true ∧ LV (b.length : Int) l = true)) : Eva b w l = false := by unfold Eva; rw [if_neg h]
theorem Eva_yes {b : List Bool} {w : List Int} {l : List S69} (h1 : iv b w = true) (h2 : LV (b.length : Int) l = true) : evl.val b l = some (Eva b w l) := by
  obtain ⟨v, hv⟩ := val_some h2 b (Int.le_refl _)
  unfold Eva
  rw [if_pos ⟨h1, h2⟩, hv]
  rfl
theorem evS (b : List Bool) (w : List Int) (l : List S69) (hw : w.length ≤ 1048576) (hl : l.length ≤ 1048576) : Ev (fun k => spec_EvalLogic.f k b w l) (Eva b w l) := by
  simp only [spec_EvalLogic.f]
  refine Ev.bind (ivS b w hw) ?_
  by_cases h1 : iv b w = true
  · refine ev_pos h1 (Ev.bind (lvS _ l hl) ?_)
    by_cases h2 : LV (b.length : Int) l = true
    · refine ev_pos h2 ?_
      have he : spec_l2Eval.f l b = some (Eva b w l) := Eva_yes h1 h2
      rw [he]
      exact ev_some (ev_of rfl)
    · rw [Eva_no (fun h => h2 h.2)]
      exact ev_neg h2 (ev_of rfl)
  · rw [Eva_no (fun h => h1 h.1)]
    exact ev_neg h1 (ev_of rfl)
theorem evI (b : List Bool) (w : List Int) (l : List S69) (hl : l.length ≤ 1048576) : Ev (fun k => impl_EvalLogic.f k b w l) (Eva b w l) := by
  simp only [impl_EvalLogic.f]
  rw [ivI]
  refine ev_some ?_
  by_cases h1 : iv b w = true
  · refine ev_pos h1 (Ev.bind (lvI _ l hl) ?_)
    by_cases h2 : LV (b.length : Int) l = true
    · exact ev_pos h2 (ev_of (Eva_yes h1 h2))
    · rw [Eva_no (fun h => h2 h.2)]
      exact ev_neg h2 (ev_of rfl)
  · rw [Eva_no (fun h => h1 h.1)]
    exact ev_neg h1 (ev_of rfl)

theorem pure_holds : Pure := by
  intro b w l hb hw hl
  refine Ev.rounds ?_
  simp only [laws_FnExactEvalLogic.f]
  rcases sz_image b w 1048576 (by omega) (by omega) hb.1 hw.1 with ⟨r, hr, hneg⟩ | ⟨hle, hr⟩
  · rw [hr]
    exact ev_some (ev_pos hneg (ev_of rfl))
  · rw [hr]
    refine ev_some (ev_neg (by omega) ?_)
    rcases sz_node l (1048576 - (b.length : Int) - (w.length : Int)) (by omega) (by omega) hl.1 with ⟨r, hr, hr0⟩ | ⟨hla, hr⟩
    · rw [hr]; exact ev_some (ev_pos hr0 (ev_of rfl))
    · rw [hr]
      refine ev_some (ev_neg (by omega) ?_)
      have hbn : b.length ≤ 1048576 := by omega
      have hwn : w.length ≤ 1048576 := by omega
      have hln : l.length ≤ 1048576 := by omega
      have hmn : (l.map cv).length ≤ 1048576 := by simpa using hln
      have t := toNode_ev l hln
      have ti := toImage_ev b w hbn hwn
      refine Ev.bind ti (Ev.bind t (Ev.bind (evS b w _ hwn hmn) (Ev.bind ti (Ev.bind t (Ev.bind (evI b w _ hmn) (ev_neg (by simp) ?_))))))
      refine Ev.bind ti (Ev.bind (eqImage_ev b w hbn hwn) (ev_pos rfl (Ev.bind t (Ev.bind (eqNode_ev _ hmn) (ev_pos rfl (ev_of rfl))))))

end Go.Proofs.Ytmphligplngeaaa.fnExactEvalLogic

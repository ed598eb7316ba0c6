/- The law FnExactImageValid answers true for every image; no condition but that the numbers are of their kind. -/
import Derived.Test.YtmlhkalgaeemaaaStFnExactImageValid
namespace Go.Proofs.Ytmlhkalgaeemaaa.fnExactImageValid
open Go.RowKit Go.Proofs.Ytmlhkalgaeemaaa.GFnExactImageValid Go.Proofs.YtmlhkalgaeemaaaV.PrintWords Go.Proofs.YtmlhkalgaeemaaaV.PrintLast Go.Proofs.YtmlhkalgaeemaaaV.PrintMore
set_option linter.unusedVariables false
set_option linter.unusedSimpArgs false

theorem ev_succ {α : Type} {g : Nat → Option α} {r : α} (h : Ev (fun k => g (k + 1)) r) : Ev g r := Ev.step (fun _ => rfl) h
theorem ev_pos {α : Type} {c : Prop} [Decidable c] {g f : Nat → Option α} {r : α} (hc : c) (h : Ev g r) : Ev (fun k => if c then g k else f k) r := Ev.congr (fun _ => if_pos hc) h
theorem ev_neg {α : Type} {c : Prop} [Decidable c] {g f : Nat → Option α} {r : α} (hc : ¬ c) (h : Ev f r) : Ev (fun k => if c then g k else f k) r := Ev.congr (fun _ => if_neg hc) h
theorem ev_some {α β : Type} {a : α} {f : Nat → α → Option β} {r : β} (h : Ev (fun k => f k a) r) : Ev (fun k => (some a).bind (f k)) r := h
theorem ev_of {α : Type} {a : Option α} {r : α} (h : a = some r) : Ev (fun _ => a) r := ⟨0, fun _ _ => h⟩
theorem ev_eq {α : Type} {g : Nat → Option α} {r r' : α} (h : Ev g r) (e : r = r') : Ev g r' := e ▸ h
theorem wrap_small {i : Int} (h0 : -9223372036854775808 ≤ i) (h1 : i ≤ 9223372036854775807) : wrap64 i = i := by unfold wrap64; omega
theorem wf_bounds {x : Int} (h : (Lit.int .i64 x).wf = true) : -9223372036854775808 ≤ x ∧ x ≤ 9223372036854775807 := by
  simp [Lit.wf, IntKind.min, IntKind.max, IntKind.signed, IntKind.bits] at h
  omega
theorem set_keeps {α : Type} (l out : List α) (d : α) (i : Nat) (hi : i < l.length) (ho : out.length = l.length) (h : ∀ j, j < i → out[j]? = l[j]?) : ∀ j, j < i + 1 → (out.set i (l.getD i d))[j]? = l[j]? := by
  intro j hj
  rw [List.getElem?_set]
  by_cases e : i = j
  · subst e
    rw [if_pos rfl, if_pos (by omega), List.getD_eq_getElem?_getD, List.getElem?_eq_getElem hi]
    rfl
  · rw [if_neg e]
    exact h j (by omega)
theorem all_kept {α : Type} (l out : List α) (ho : out.length = l.length) (h : ∀ j, j < l.length → out[j]? = l[j]?) : out = l := by
  apply List.ext_getElem?
  intro j
  by_cases hj : j < l.length
  · exact h j hj
  · rw [List.getElem?_eq_none (by omega), List.getElem?_eq_none (by omega)]

theorem toBool_loop (l : List Bool) (hl : l.length ≤ 1048576) : ∀ (m i : Nat) (out : List Bool), i + m = l.length → out.length = l.length → (∀ j, j < i → out[j]? = l[j]?) → Ev (fun k => laws_toBoolS.l0 k l out (i : Int)) l := by
  intro m
  induction m with
  | zero =>
    intro i out hi ho h
    refine ev_succ ?_
    simp only [laws_toBoolS.l0]
    refine ev_neg (by omega) ?_
    exact ev_of (congrArg some (all_kept l out ho (fun j hj => h j (by omega))))
  | succ m ih =>
    intro i out hi ho h
    refine ev_succ ?_
    simp only [laws_toBoolS.l0]
    refine ev_pos (by omega) (ev_pos (by omega) (ev_pos (by omega) ?_))
    rw [wrap_small (by omega) (by omega)]
    have hs := ih (i + 1) (out.set i (l.getD i false)) (by omega) (by simpa using ho) (set_keeps l out false i (by omega) ho h)
    simpa [rdOf, rd] using hs
theorem toBool_ev (l : List Bool) (hl : l.length ≤ 1048576) : Ev (fun k => laws_toBoolS.f k l) l := by
  simp only [laws_toBoolS.f]
  refine ev_pos (by omega) (ev_pos (by omega) ?_)
  have h := toBool_loop l hl l.length 0 (List.replicate ((l.length : Int)).toNat false) (by omega) (by simp) (fun j hj => by omega)
  exact h

theorem toInt_loop (l : List Int) (hl : l.length ≤ 1048576) : ∀ (m i : Nat) (out : List Int), i + m = l.length → out.length = l.length → (∀ j, j < i → out[j]? = l[j]?) → Ev (fun k => laws_toIntS.l0 k l out (i : Int)) l := by
  intro m
  induction m with
  | zero =>
    intro i out hi ho h
    refine ev_succ ?_
    simp only [laws_toIntS.l0]
    refine ev_neg (by omega) ?_
    exact ev_of (congrArg some (all_kept l out ho (fun j hj => h j (by omega))))
  | succ m ih =>
    intro i out hi ho h
    refine ev_succ ?_
    simp only [laws_toIntS.l0]
    refine ev_pos (by omega) (ev_pos (by omega) (ev_pos (by omega) ?_))
    rw [wrap_small (by omega) (by omega)]
    have hs := ih (i + 1) (out.set i (l.getD i 0)) (by omega) (by simpa using ho) (set_keeps l out 0 i (by omega) ho h)
    simpa [rdOf, rd] using hs
theorem toInt_ev (l : List Int) (hl : l.length ≤ 1048576) : Ev (fun k => laws_toIntS.f k l) l := by
  simp only [laws_toIntS.f]
  refine ev_pos (by omega) (ev_pos (by omega) ?_)
  have h := toInt_loop l hl l.length 0 (List.replicate ((l.length : Int)).toNat 0) (by omega) (by simp) (fun j hj => by omega)
  exact h

theorem eqBool_loop (l : List Bool) (hl : l.length ≤ 1048576) : ∀ (m i : Nat), i + m = l.length → Ev (fun k => laws_eqBoolS.l0 k l l (i : Int)) true := by
  intro m
  induction m with
  | zero =>
    intro i hi
    refine ev_succ ?_
    simp only [laws_eqBoolS.l0]
    exact ev_neg (by omega) (ev_of rfl)
  | succ m ih =>
    intro i hi
    refine ev_succ ?_
    simp only [laws_eqBoolS.l0]
    refine ev_pos (by omega) (ev_pos (by omega) (ev_pos (by omega) ?_))
    refine ev_neg (by simp) ?_
    rw [wrap_small (by omega) (by omega)]
    exact ih (i + 1) (by omega)
theorem eqBool_ev (l : List Bool) (hl : l.length ≤ 1048576) : Ev (fun k => laws_eqBoolS.f k l l) true := by
  simp only [laws_eqBoolS.f]
  refine ev_pos (by first | rfl | trivial) ?_
  exact eqBool_loop l hl l.length 0 (by omega)

theorem eqInt_loop (l : List Int) (hl : l.length ≤ 1048576) : ∀ (m i : Nat), i + m = l.length → Ev (fun k => laws_eqIntS.l0 k l l (i : Int)) true := by
  intro m
  induction m with
  | zero =>
    intro i hi
    refine ev_succ ?_
    simp only [laws_eqIntS.l0]
    exact ev_neg (by omega) (ev_of rfl)
  | succ m ih =>
    intro i hi
    refine ev_succ ?_
    simp only [laws_eqIntS.l0]
    refine ev_pos (by omega) (ev_pos (by omega) (ev_pos (by omega) ?_))
    refine ev_pos (by first | rfl | trivial) ?_
    rw [wrap_small (by omega) (by omega)]
    exact ih (i + 1) (by omega)
theorem eqInt_ev (l : List Int) (hl : l.length ≤ 1048576) : Ev (fun k => laws_eqIntS.f k l l) true := by
  simp only [laws_eqIntS.f]
  refine ev_pos (by first | rfl | trivial) ?_
  exact eqInt_loop l hl l.length 0 (by omega)

theorem sz_image (b : List Bool) (w : List Int) (left : Int) (h0 : 0 ≤ left) (h1 : left ≤ 1048576) (hb : b.length ≤ maxLen) (hw : w.length ≤ maxLen) :
    (∃ r, laws_szImage.f b w left = some r ∧ r < 0) ∨ ((b.length : Int) + w.length ≤ left ∧ laws_szImage.f b w left = some (left - b.length - w.length)) := by
  unfold maxLen at hb hw
  unfold laws_szImage.f laws_szBoolS.f laws_szIntS.f
  have e1 : wrap64 (left - (b.length : Int)) = left - b.length := wrap_small (by omega) (by omega)
  rw [e1]
  by_cases h : left - (b.length : Int) < 0
  · rw [if_pos h]
    exact .inl ⟨-1, rfl, by omega⟩
  · rw [if_neg h]
    simp only [Option.bind_some]
    rw [if_neg h]
    have e2 : wrap64 (left - (b.length : Int) - (w.length : Int)) = left - b.length - w.length := wrap_small (by omega) (by omega)
    rw [e2]
    by_cases h2 : left - (b.length : Int) - (w.length : Int) < 0
    · rw [if_pos h2]
      exact .inl ⟨-1, rfl, by omega⟩
    · rw [if_neg h2]
      simp only [Option.bind_some]
      rw [if_neg h2]
      exact .inr ⟨by omega, rfl⟩
theorem toImage_ev (b : List Bool) (w : List Int) (hb : b.length ≤ 1048576) (hw : w.length ≤ 1048576) : Ev (fun k => laws_toImage.f k b w) (b, w) := by
  simp only [laws_toImage.f]
  refine Ev.bind (toBool_ev b hb) ?_
  refine Ev.bind (toInt_ev w hw) ?_
  exact ev_of rfl
theorem eqImage_ev (b : List Bool) (w : List Int) (hb : b.length ≤ 1048576) (hw : w.length ≤ 1048576) : Ev (fun k => laws_eqImage.f k b w b w) true := by
  simp only [laws_eqImage.f]
  refine Ev.bind (eqBool_ev b hb) (ev_pos rfl ?_)
  refine Ev.bind (eqInt_ev w hw) (ev_pos rfl ?_)
  exact ev_of rfl

theorem inS (a b c : Int) : spec_l1In.f a b c = some (decide (b ≤ a) && decide (a ≤ c)) := by
  unfold spec_l1In.f
  by_cases h : a ≥ b
  · rw [if_pos h]; simp [show b ≤ a from h]
  · rw [if_neg h]; simp [show ¬ b ≤ a from h]

/-- Is a number a word? -/
def word (x : Int) : Bool := decide (-32768 ≤ x) && decide (x ≤ 32767)
def iv (b : List Bool) (w : List Int) : Bool := decide ((b.length : Int) ≤ 16) && decide ((w.length : Int) ≤ 8) && w.all word
theorem ivI (b : List Bool) (w : List Int) : impl_ImageValid.f b w = some (iv b w) := by
  unfold impl_ImageValid.f iv
  have : w.all word = !w.any impl_ImageValid.bad := by
    induction w with
    | nil => rfl
    | cons x r ih =>
      rw [List.all_cons, List.any_cons, ih]
      simp [impl_ImageValid.bad, word]
  rw [this]
theorem ivS_loop (b : List Bool) (w : List Int) (hw : w.length ≤ 1048576) : ∀ (m i : Nat), i + m = w.length → Ev (fun k => spec_ImageValid.l0 k (i : Int) b w) (decide ((b.length : Int) ≤ 16) && decide ((w.length : Int) ≤ 8) && (w.drop i).all word) := by
  intro m
  induction m with
  | zero =>
    intro i hi
    refine ev_succ ?_
    simp only [spec_ImageValid.l0]
    refine ev_neg (by omega) ?_
    rw [List.drop_eq_nil_of_le (by omega)]
    by_cases h : (b.length : Int) ≤ 16
    · exact ev_pos h (ev_of (by simp [h]))
    · exact ev_neg h (ev_of (by simp [h]))
  | succ m ih =>
    intro i hi
    refine ev_succ ?_
    simp only [spec_ImageValid.l0]
    refine ev_pos (by omega) (ev_pos (by omega) ?_)
    have hg : rd w (i : Int) = w[i]'(by omega) := by simp [rd, List.getD_eq_getElem?_getD, show i < w.length by omega]
    have hd : w.drop i = w[i]'(by omega) :: w.drop (i + 1) := List.drop_eq_getElem_cons (by omega)
    rw [inS, hg, hd, List.all_cons]
    refine ev_some ?_
    by_cases h : word (w[i]'(by omega)) = true
    · refine ev_pos h ?_
      rw [wrap_small (by omega) (by omega), h, Bool.true_and]
      exact ih (i + 1) (by omega)
    · refine ev_neg h (ev_of ?_)
      rw [show word (w[i]'(by omega)) = false by simpa using h]
      simp
theorem ivS (b : List Bool) (w : List Int) (hw : w.length ≤ 1048576) : Ev (fun k => spec_ImageValid.f k b w) (iv b w) := by
  simp only [spec_ImageValid.f]
  exact ivS_loop b w hw w.length 0 (by omega)

theorem pure_holds : Pure := by
  intro b w hb hw
  refine Ev.rounds ?_
  simp only [laws_FnExactImageValid.f]
  rcases sz_image b w 1048576 (by omega) (by omega) hb.1 hw.1 with ⟨r, hr, hneg⟩ | ⟨hle, hr⟩
  · rw [hr]
    exact ev_some (ev_pos hneg (ev_of rfl))
  · rw [hr]
    have hbn : b.length ≤ 1048576 := by omega
    have hwn : w.length ≤ 1048576 := by omega
    refine ev_some (ev_neg (by omega) ?_)
    refine Ev.bind (toImage_ev b w hbn hwn) ?_
    refine Ev.bind (ivS b w hwn) ?_
    refine Ev.bind (toImage_ev b w hbn hwn) ?_
    dsimp only
    rw [ivI]
    refine ev_some (ev_neg (by simp) ?_)
    refine Ev.bind (toImage_ev b w hbn hwn) ?_
    refine Ev.bind (eqImage_ev b w hbn hwn) ?_
    exact ev_pos rfl (ev_of rfl)

end Go.Proofs.Ytmlhkalgaeemaaa.fnExactImageValid

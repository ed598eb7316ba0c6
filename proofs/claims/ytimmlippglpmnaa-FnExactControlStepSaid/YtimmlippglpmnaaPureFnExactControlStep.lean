/- The law FnExactControlStep answers true for every controller and every two numbers; no condition but that the numbers are of their kind. -/
import Derived.Test.YtimmlippglpmnaaStFnExactControlStep
namespace Go.Proofs.Ytimmlippglpmnaa.fnExactControlStep
open Go.RowKit Go.Proofs.Ytimmlippglpmnaa.GFnExactControlStep Go.Proofs.YtimmlippglpmnaaV.PrintWords Go.Proofs.YtimmlippglpmnaaV.PrintLast Go.Proofs.YtimmlippglpmnaaV.PrintMore
set_option linter.unusedVariables false
set_option linter.unusedSimpArgs false

theorem ev_succ {α : Type} {g : Nat → Option α} {r : α} (h : Ev (fun k => g (k + 1)) r) : Ev g r := Ev.step (fun _ => rfl) h
theorem ev_pos {α : Type} {c : Prop} [Decidable c] {g f : Nat → Option α} {r : α} (hc : c) (h : Ev g r) : Ev (fun k => if c then g k else f k) r := Ev.congr (fun _ => if_pos hc) h
theorem ev_neg {α : Type} {c : Prop} [Decidable c] {g f : Nat → Option α} {r : α} (hc : ¬ c) (h : Ev f r) : Ev (fun k => if c then g k else f k) r := Ev.congr (fun _ => if_neg hc) h
theorem ev_some {α β : Type} {a : α} {f : Nat → α → Option β} {r : β} (h : Ev (fun k => f k a) r) : Ev (fun k => (some a).bind (f k)) r := h
theorem ev_of {α : Type} {a : Option α} {r : α} (h : a = some r) : Ev (fun _ => a) r := ⟨0, fun _ _ => h⟩
theorem ev_eq {α : Type} {g : Nat → Option α} {r r' : α} (h : Ev g r) (e : r = r') : Ev g r' := e ▸ h
theorem wrap_small {i : Int} (h0 : -9223372036854775808 ≤ i) (h1 : i ≤ 9223372036854775807) : wrap64 i = i := by unfold wrap64; omega
theorem wf_bounds {x : Int} (h : (Lit.int .i64 x).wf = true) : -9223372036854775808 ≤ x ∧ x ≤ 9223372036854775807 := by
  simp [Lit.wf, IntKind.min, IntKind.max, IntKind.signed, IntKind.bits] at h
  omega
theorem set_keeps {α : Type} (l out : List α) (d : α) (i : Nat) (hi : i < l.length) (ho : out.length = l.length) (h : ∀ j, j < i → out[j]? = l[j]?) : ∀ j, j < i + 1 → (out.set i (l.getD i d))[j]? = l[j]? := by
  intro j hj
  rw [List.getElem?_set]
  by_cases e : i = j
  · subst e
    rw [if_pos rfl, if_pos (by omega), List.getD_eq_getElem?_getD, List.getElem?_eq_getElem hi]
    rfl
  · rw [if_neg e]
    exact h j (by omega)
theorem all_kept {α : Type} (l out : List α) (ho : out.length = l.length) (h : ∀ j, j < l.length → out[j]? = l[j]?) : out = l := by
  apply List.ext_getElem?
  intro j
  by_cases hj : j < l.length
  · exact h j hj
  · rw [List.getElem?_eq_none (by omega), List.getElem?_eq_none (by omega)]

theorem inS (a b c : Int) : spec_l1In.f a b c = some (decide (b ≤ a) && decide (a ≤ c)) := by
  unfold spec_l1In.f
  by_cases h : a ≥ b
  · rw [if_pos h]; simp [show b ≤ a from h]
  · rw [if_neg h]; simp [show ¬ b ≤ a from h]
/-- Is a number a word? -/
def word (x : Int) : Bool := decide (-32768 ≤ x) && decide (x ≤ 32767)
theorem word_iff (x : Int) : word x = true ↔ -32768 ≤ x ∧ x ≤ 32767 := by simp [word]
theorem wS (x : Int) : spec_l7Word.f x = some (word x) := by
  unfold spec_l7Word.f
  rw [inS]
  rfl
theorem areW (l : List Int) : impl_areWords.f l = some (l.all word) := by
  unfold impl_areWords.f
  have : l.all word = !l.any impl_areWords.bad := by
    induction l with
    | nil => rfl
    | cons x r ih =>
      rw [List.all_cons, List.any_cons, ih]
      simp [impl_areWords.bad, word]
  rw [this]

theorem inI (a b c : Int) : impl_in.f a b c = some (decide (b ≤ a) && decide (a ≤ c)) := by
  unfold impl_in.f
  by_cases h : a ≥ b
  · rw [if_pos h]; simp [show b ≤ a from h]
  · rw [if_neg h]; simp [show ¬ b ≤ a from h]

/-- Is a controller valid? -/
def cval (kp ki kd lo hi su la : Int) : Bool := (decide (0 ≤ kp) && decide (kp ≤ 4096)) && ((decide (0 ≤ ki) && decide (ki ≤ 4096)) && ((decide (0 ≤ kd) && decide (kd ≤ 4096)) && (word lo && (word hi && (decide (lo ≤ hi) && ((decide (wrap64 (256 * lo) ≤ su) && decide (su ≤ wrap64 (256 * hi))) && word la))))))
theorem cvS (kp ki kd lo hi su la : Int) : spec_ControlValid.f kp ki kd lo hi su la = some (cval kp ki kd lo hi su la) := by
  unfold spec_ControlValid.f cval
  simp only [inS, wS, Option.bind_some]
  generalize (decide (0 ≤ kp) && decide (kp ≤ 4096)) = b1
  generalize (decide (0 ≤ ki) && decide (ki ≤ 4096)) = b2
  generalize (decide (0 ≤ kd) && decide (kd ≤ 4096)) = b3
  generalize (decide (wrap64 (256 * lo) ≤ su) && decide (su ≤ wrap64 (256 * hi))) = b4
  generalize word lo = b5
  generalize word hi = b6
  generalize word la = b7
  by_cases h : lo ≤ hi
  · cases b1 <;> cases b2 <;> cases b3 <;> cases b4 <;> cases b5 <;> cases b6 <;> cases b7 <;> simp [h]
  · cases b1 <;> cases b2 <;> cases b3 <;> cases b4 <;> cases b5 <;> cases b6 <;> cases b7 <;> simp [h]
theorem cvI (kp ki kd lo hi su la : Int) : impl_ControlValid.f kp ki kd lo hi su la = some (cval kp ki kd lo hi su la) := by
  unfold impl_ControlValid.f cval
  simp only [inI, areW, Option.bind_some, List.all_cons, List.all_nil, Bool.and_true]
  generalize (decide (0 ≤ kp) && decide (kp ≤ 4096)) = b1
  generalize (decide (0 ≤ ki) && decide (ki ≤ 4096)) = b2
  generalize (decide (0 ≤ kd) && decide (kd ≤ 4096)) = b3
  generalize (decide (wrap64 (256 * lo) ≤ su) && decide (su ≤ wrap64 (256 * hi))) = b4
  generalize word lo = b5
  generalize word hi = b6
  generalize word la = b7
  by_cases h : lo ≤ hi
  · cases b1 <;> cases b2 <;> cases b3 <;> cases b4 <;> cases b5 <;> cases b6 <;> cases b7 <;> simp [h]
  · cases b1 <;> cases b2 <;> cases b3 <;> cases b4 <;> cases b5 <;> cases b6 <;> cases b7 <;> simp [h]

/-- A quotient, rounded down, as Go's text has it. -/
def flo (a b : Int) : Int := if Int.tmod a b < 0 then wrap64 (wrap64 (Int.tdiv a b) - 1) else wrap64 (Int.tdiv a b)
theorem floS (a b : Int) (h : b ≠ 0) : spec_l7Floor.f a b = some (flo a b) := by
  unfold spec_l7Floor.f flo
  rw [if_neg h]
  split <;> rfl
theorem floI (a b : Int) (h : b ≠ 0) : impl_floor.f a b = some (flo a b) := by
  unfold impl_floor.f flo
  rw [if_neg h]
  split <;> rfl

/-- The integral behind a step. -/
def csum (ki lo hi su want have_ : Int) : Int := mx (wrap64 (256 * lo)) (mn (wrap64 (256 * hi)) (wrap64 (su + wrap64 (ki * wrap64 (want - have_)))))
/-- The output of a step. -/
def cout (kp ki kd lo hi su la want have_ : Int) : Int := mx lo (mn hi (flo (wrap64 (wrap64 (wrap64 (kp * wrap64 (want - have_)) + csum ki lo hi su want have_) - wrap64 (kd * wrap64 (have_ - la)))) 256))
theorem stepS (kp ki kd lo hi su la want have_ : Int) : spec_l8Step.f kp ki kd lo hi su la want have_ = some (kp, ki, kd, lo, hi, csum ki lo hi su want have_, have_, cout kp ki kd lo hi su la want have_) := by
  unfold spec_l8Step.f
  simp only [spec_l1Clip.f, Option.bind_some, floS _ 256 (by decide)]
  rfl
theorem cval_bounds {kp ki kd lo hi su la : Int} (h : cval kp ki kd lo hi su la = true) : (-32768 ≤ lo ∧ lo ≤ 32767) ∧ (-32768 ≤ hi ∧ hi ≤ 32767) ∧ lo ≤ hi := by
  simp only [cval, Bool.and_eq_true, word_iff, decide_eq_true_eq] at h
  omega
theorem stepI (kp ki kd lo hi su la want have_ : Int) : Ev (fun k => impl_ControlStep.f k kp ki kd lo hi su la want have_) (if cval kp ki kd lo hi su la && (word want && word have_) then (kp, ki, kd, lo, hi, csum ki lo hi su want have_, have_, cout kp ki kd lo hi su la want have_) else (0, 0, 0, 0, 0, 0, 0, 0)) := by
  simp only [impl_ControlStep.f]
  rw [cvI]
  refine ev_some ?_
  cases hv : cval kp ki kd lo hi su la
  · refine ev_neg (by simp) (ev_succ ?_)
    simp only [impl_ControlStep.j0]
    exact ev_pos trivial (ev_of rfl)
  · refine ev_pos rfl ?_
    rw [areW]
    refine ev_some (ev_succ ?_)
    simp only [impl_ControlStep.j0, List.all_cons, List.all_nil, Bool.and_true]
    cases hw : (word want && word have_)
    · exact ev_pos rfl (ev_of rfl)
    · refine ev_neg (by simp) (ev_of ?_)
      have hb := cval_bounds hv
      simp only [impl_Control_bound.f, Option.bind_some, floI _ 256 (by decide), Int.one_mul, wrap_small (i := lo) (by omega) (by omega), wrap_small (i := hi) (by omega) (by omega)]
      rfl

theorem pure_holds : Pure := by
  intro kp ki kd lo hi su la want have_ _ _ _ _ _ _ _ _ _
  refine Ev.rounds ?_
  simp only [laws_FnExactControlStep.f, laws_toControl.f]
  have hS : spec_ControlStep.f kp ki kd lo hi su la want have_ = some (if cval kp ki kd lo hi su la && (word want && word have_) then (kp, ki, kd, lo, hi, csum ki lo hi su want have_, have_, cout kp ki kd lo hi su la want have_) else (0, 0, 0, 0, 0, 0, 0, 0)) := by
    unfold spec_ControlStep.f
    rw [cvS]
    simp only [wS, stepS, Option.bind_some]
    cases cval kp ki kd lo hi su la <;> cases word want <;> cases word have_ <;> rfl
  refine ev_some ?_
  dsimp only
  rw [hS]
  refine ev_some (ev_some ?_)
  refine Ev.bind (stepI kp ki kd lo hi su la want have_) ?_
  generalize (if (cval kp ki kd lo hi su la && (word want && word have_)) = true then (kp, ki, kd, lo, hi, csum ki lo hi su want have_, have_, cout kp ki kd lo hi su la want have_) else (0, 0, 0, 0, 0, 0, 0, 0)) = r
  exact ev_of (by simp [laws_eqControl.f])

end Go.Proofs.Ytimmlippglpmnaa.fnExactControlStep

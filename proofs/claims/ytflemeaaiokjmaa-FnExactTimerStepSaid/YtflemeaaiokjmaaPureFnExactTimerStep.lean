/- The law FnExactTimerStep answers true for every timer, bool and number; no condition but that the numbers are of their kind. -/
import Derived.Test.YtflemeaaiokjmaaStFnExactTimerStep
namespace Go.Proofs.Ytflemeaaiokjmaa.fnExactTimerStep
open Go.RowKit Go.Proofs.Ytflemeaaiokjmaa.GFnExactTimerStep Go.Proofs.YtflemeaaiokjmaaV.PrintWords Go.Proofs.YtflemeaaiokjmaaV.PrintLast Go.Proofs.YtflemeaaiokjmaaV.PrintMore
set_option linter.unusedVariables false
set_option linter.unusedSimpArgs false

theorem ev_succ {α : Type} {g : Nat → Option α} {r : α} (h : Ev (fun k => g (k + 1)) r) : Ev g r := Ev.step (fun _ => rfl) h
theorem ev_pos {α : Type} {c : Prop} [Decidable c] {g f : Nat → Option α} {r : α} (hc : c) (h : Ev g r) : Ev (fun k => if c then g k else f k) r := Ev.congr (fun _ => if_pos hc) h
theorem ev_neg {α : Type} {c : Prop} [Decidable c] {g f : Nat → Option α} {r : α} (hc : ¬ c) (h : Ev f r) : Ev (fun k => if c then g k else f k) r := Ev.congr (fun _ => if_neg hc) h
theorem ev_some {α β : Type} {a : α} {f : Nat → α → Option β} {r : β} (h : Ev (fun k => f k a) r) : Ev (fun k => (some a).bind (f k)) r := h
theorem ev_of {α : Type} {a : Option α} {r : α} (h : a = some r) : Ev (fun _ => a) r := ⟨0, fun _ _ => h⟩
theorem ev_eq {α : Type} {g : Nat → Option α} {r r' : α} (h : Ev g r) (e : r = r') : Ev g r' := e ▸ h
theorem wrap_small {i : Int} (h0 : -9223372036854775808 ≤ i) (h1 : i ≤ 9223372036854775807) : wrap64 i = i := by unfold wrap64; omega
theorem wf_bounds {x : Int} (h : (Lit.int .i64 x).wf = true) : -9223372036854775808 ≤ x ∧ x ≤ 9223372036854775807 := by
  simp [Lit.wf, IntKind.min, IntKind.max, IntKind.signed, IntKind.bits] at h
  omega
theorem set_keeps {α : Type} (l out : List α) (d : α) (i : Nat) (hi : i < l.length) (ho : out.length = l.length) (h : ∀ j, j < i → out[j]? = l[j]?) : ∀ j, j < i + 1 → (out.set i (l.getD i d))[j]? = l[j]? := by
  intro j hj
  rw [List.getElem?_set]
  by_cases e : i = j
  · subst e
    rw [if_pos rfl, if_pos (by omega), List.getD_eq_getElem?_getD, List.getElem?_eq_getElem hi]
    rfl
  · rw [if_neg e]
    exact h j (by omega)
theorem all_kept {α : Type} (l out : List α) (ho : out.length = l.length) (h : ∀ j, j < l.length → out[j]? = l[j]?) : out = l := by
  apply List.ext_getElem?
  intro j
  by_cases hj : j < l.length
  · exact h j hj
  · rw [List.getElem?_eq_none (by omega), List.getElem?_eq_none (by omega)]

theorem inS (a b c : Int) : spec_l1In.f a b c = some (decide (b ≤ a) && decide (a ≤ c)) := by
  unfold spec_l1In.f
  by_cases h : a ≥ b
  · rw [if_pos h]; simp [show b ≤ a from h]
  · rw [if_neg h]; simp [show ¬ b ≤ a from h]
theorem inI (a b c : Int) : impl_in.f a b c = some (decide (b ≤ a) && decide (a ≤ c)) := by
  unfold impl_in.f
  by_cases h : a ≥ b
  · rw [if_pos h]; simp [show b ≤ a from h]
  · rw [if_neg h]; simp [show ¬ b ≤ a from h]

/-- Is a timer valid? -/
def tvalid (k p e : Int) : Bool := (decide (1 ≤ k) && decide (k ≤ 3)) && ((decide (0 ≤ p) && decide (p ≤ 10000)) && (decide (0 ≤ e) && decide (e ≤ p)))
theorem tvS (k p e : Int) (b o : Bool) : spec_TimerValid.f k p e b o = some (tvalid k p e) := by
  unfold spec_TimerValid.f tvalid
  rw [inS, Option.bind_some, inS, Option.bind_some, inS]
  cases (decide (1 ≤ k) && decide (k ≤ 3)) <;> cases (decide (0 ≤ p) && decide (p ≤ 10000)) <;> simp
theorem tvI (k p e : Int) (b o : Bool) : impl_TimerValid.f k p e b o = some (tvalid k p e) := by
  unfold impl_TimerValid.f tvalid
  rw [inI, Option.bind_some, inI, Option.bind_some, inI]
  cases (decide (1 ≤ k) && decide (k ≤ 3)) <;> cases (decide (0 ≤ p) && decide (p ≤ 10000)) <;> simp

/-- A step of a timer: the elapsed time and the output behind it. -/
abbrev P := impl_Timer_step.pair
theorem mn_comm (a b : Int) : mn a b = mn b a := by unfold mn; split <;> split <;> omega
theorem l5 (k p e dt : Int) (b o i : Bool) (hk : 1 ≤ k) (hk3 : k ≤ 3) : spec_l5Step.f k p e b o i dt = some (k, p, (P k p e b o i dt).1, i, (P k p e b o i dt).2) := by
  unfold spec_l5Step.f P impl_Timer_step.pair
  rw [mn_comm p]
  have hc : k = 1 ∨ k = 2 ∨ k = 3 := by omega
  rcases hc with rfl | rfl | rfl
  · cases i <;> cases b <;> simp
  · cases i <;> cases o <;> simp
  · by_cases h : e < p
    · cases i <;> cases o <;> cases b <;> simp [h, show ¬ p ≤ e by omega]
    · cases i <;> cases o <;> cases b <;> simp [h, show p ≤ e by omega]
theorem stepI (k p e dt : Int) (b o i : Bool) : impl_Timer_step.f k p e b o i dt = some (k, p, (P k p e b o i dt).1, i, (P k p e b o i dt).2) := rfl
theorem tv_kind {k p e : Int} (h : tvalid k p e = true) : 1 ≤ k ∧ k ≤ 3 := by
  simp [tvalid] at h
  omega

theorem pure_holds : Pure := by
  intro k p e b o i dt _ _ _ _
  have hS : spec_TimerStep.f k p e b o i dt = some (if tvalid k p e && (decide (0 ≤ dt) && decide (dt ≤ 1000)) then (k, p, (P k p e b o i dt).1, i, (P k p e b o i dt).2) else (0, 0, 0, false, false)) := by
    unfold spec_TimerStep.f
    rw [tvS]
    simp only [Option.bind_some, inS]
    cases hv : tvalid k p e
    · rfl
    · cases (decide (0 ≤ dt) && decide (dt ≤ 1000))
      · rfl
      · have h := tv_kind hv
        rw [l5 k p e dt b o i h.1 h.2]
        rfl
  have hI : impl_TimerStep.f k p e b o i dt = some (if tvalid k p e && (decide (0 ≤ dt) && decide (dt ≤ 1000)) then (k, p, (P k p e b o i dt).1, i, (P k p e b o i dt).2) else (0, 0, 0, false, false)) := by
    unfold impl_TimerStep.f
    rw [tvI]
    simp only [Option.bind_some, inI, stepI]
    cases hv : tvalid k p e
    · rfl
    · cases (decide (0 ≤ dt) && decide (dt ≤ 1000)) <;> rfl
  unfold laws_FnExactTimerStep.f laws_toTimer.f
  simp only [Option.bind_some]
  rw [hS, hI]
  generalize (if (tvalid k p e && (decide (0 ≤ dt) && decide (dt ≤ 1000))) = true then (k, p, (P k p e b o i dt).1, i, (P k p e b o i dt).2) else (0, 0, 0, false, false)) = r
  simp [laws_eqTimer.f]

end Go.Proofs.Ytflemeaaiokjmaa.fnExactTimerStep

/- The law FnExactNewTimer answers true for every two numbers; no condition. -/
import Derived.Test.YtflemeaaiokjmaaStFnExactNewTimer
namespace Go.Proofs.Ytflemeaaiokjmaa.fnExactNewTimer
open Go.RowKit Go.Proofs.Ytflemeaaiokjmaa.PFnExactNewTimer Go.Proofs.YtflemeaaiokjmaaW.PrintWords Go.Proofs.YtflemeaaiokjmaaW.PrintLast Go.Proofs.YtflemeaaiokjmaaW.PrintMore
set_option linter.unusedVariables false
set_option linter.unusedSimpArgs false

theorem ev_succ {α : Type} {g : Nat → Option α} {r : α} (h : Ev (fun k => g (k + 1)) r) : Ev g r := Ev.step (fun _ => rfl) h
theorem ev_pos {α : Type} {c : Prop} [Decidable c] {g f : Nat → Option α} {r : α} (hc : c) (h : Ev g r) : Ev (fun k => if c then g k else f k) r := Ev.congr (fun _ => if_pos hc) h
theorem ev_neg {α : Type} {c : Prop} [Decidable c] {g f : Nat → Option α} {r : α} (hc : ¬ c) (h : Ev f r) : Ev (fun k => if c then g k else f k) r := Ev.congr (fun _ => if_neg hc) h
theorem ev_some {α β : Type} {a : α} {f : Nat → α → Option β} {r : β} (h : Ev (fun k => f k a) r) : Ev (fun k => (some a).bind (f k)) r := h
theorem ev_of {α : Type} {a : Option α} {r : α} (h : a = some r) : Ev (fun _ => a) r := ⟨0, fun _ _ => h⟩
theorem ev_eq {α : Type} {g : Nat → Option α} {r r' : α} (h : Ev g r) (e : r = r') : Ev g r' := e ▸ h
theorem wrap_small {i : Int} (h0 : -9223372036854775808 ≤ i) (h1 : i ≤ 9223372036854775807) : wrap64 i = i := by unfold wrap64; omega
theorem wf_bounds {x : Int} (h : (Lit.int .i64 x).wf = true) : -9223372036854775808 ≤ x ∧ x ≤ 9223372036854775807 := by
  simp [Lit.wf, IntKind.min, IntKind.max, IntKind.signed, IntKind.bits] at h
  omega
theorem set_keeps {α : Type} (l out : List α) (d : α) (i : Nat) (hi : i < l.length) (ho : out.length = l.length) (h : ∀ j, j < i → out[j]? = l[j]?) : ∀ j, j < i + 1 → (out.set i (l.getD i d))[j]? = l[j]? := by
  intro j hj
  rw [List.getElem?_set]
  by_cases e : i = j
  · subst e
    rw [if_pos rfl, if_pos (by omega), List.getD_eq_getElem?_getD, List.getElem?_eq_getElem hi]
    rfl
  · rw [if_neg e]
    exact h j (by omega)
theorem all_kept {α : Type} (l out : List α) (ho : out.length = l.length) (h : ∀ j, j < l.length → out[j]? = l[j]?) : out = l := by
  apply List.ext_getElem?
  intro j
  by_cases hj : j < l.length
  · exact h j hj
  · rw [List.getElem?_eq_none (by omega), List.getElem?_eq_none (by omega)]

theorem inS (a b c : Int) : spec_l1In.f a b c = some (decide (b ≤ a) && decide (a ≤ c)) := by
  unfold spec_l1In.f
  by_cases h : a ≥ b
  · rw [if_pos h]; simp [show b ≤ a from h]
  · rw [if_neg h]; simp [show ¬ b ≤ a from h]
theorem inI (a b c : Int) : impl_in.f a b c = some (decide (b ≤ a) && decide (a ≤ c)) := by
  unfold impl_in.f
  by_cases h : a ≥ b
  · rw [if_pos h]; simp [show b ≤ a from h]
  · rw [if_neg h]; simp [show ¬ b ≤ a from h]

/-- Is a timer valid? -/
def tvalid (k p e : Int) : Bool := (decide (1 ≤ k) && decide (k ≤ 3)) && ((decide (0 ≤ p) && decide (p ≤ 10000)) && (decide (0 ≤ e) && decide (e ≤ p)))
theorem tvS (k p e : Int) (b o : Bool) : spec_TimerValid.f k p e b o = some (tvalid k p e) := by
  unfold spec_TimerValid.f tvalid
  rw [inS, Option.bind_some, inS, Option.bind_some, inS]
  cases (decide (1 ≤ k) && decide (k ≤ 3)) <;> cases (decide (0 ≤ p) && decide (p ≤ 10000)) <;> simp
theorem tvI (k p e : Int) (b o : Bool) : impl_TimerValid.f k p e b o = some (tvalid k p e) := by
  unfold impl_TimerValid.f tvalid
  rw [inI, Option.bind_some, inI, Option.bind_some, inI]
  cases (decide (1 ≤ k) && decide (k ≤ 3)) <;> cases (decide (0 ≤ p) && decide (p ≤ 10000)) <;> simp

theorem pure_holds : Pure := by
  intro k p _ _
  have h : impl_NewTimer.f k p = spec_NewTimer.f k p := by
    unfold impl_NewTimer.f spec_NewTimer.f
    rw [tvS, tvI]
  obtain ⟨r, hr⟩ : ∃ r, spec_NewTimer.f k p = some r := by
    unfold spec_NewTimer.f
    rw [tvS]
    cases tvalid k p 0
    · exact ⟨_, rfl⟩
    · by_cases h1 : k = 1
      · exact ⟨(k, p, 0, false, false), by simp [h1]⟩
      · exact ⟨(k, p, p, false, false), by simp [h1]⟩
  unfold laws_FnExactNewTimer.f
  rw [h, hr]
  simp [laws_eqTimer.f]

end Go.Proofs.Ytflemeaaiokjmaa.fnExactNewTimer

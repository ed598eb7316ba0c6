/- The law FnExactCounterStep answers true for every counter and every four bools; no condition but that its numbers are of their kind. -/
import Derived.Test.YtflemeaaiokjmaaStFnExactCounterStep
namespace Go.Proofs.Ytflemeaaiokjmaa.fnExactCounterStep
open Go.RowKit Go.Proofs.Ytflemeaaiokjmaa.PFnExactCounterStep Go.Proofs.YtflemeaaiokjmaaW.PrintWords Go.Proofs.YtflemeaaiokjmaaW.PrintLast Go.Proofs.YtflemeaaiokjmaaW.PrintMore
set_option linter.unusedVariables false
set_option linter.unusedSimpArgs false

theorem ev_succ {α : Type} {g : Nat → Option α} {r : α} (h : Ev (fun k => g (k + 1)) r) : Ev g r := Ev.step (fun _ => rfl) h
theorem ev_pos {α : Type} {c : Prop} [Decidable c] {g f : Nat → Option α} {r : α} (hc : c) (h : Ev g r) : Ev (fun k => if c then g k else f k) r := Ev.congr (fun _ => if_pos hc) h
theorem ev_neg {α : Type} {c : Prop} [Decidable c] {g f : Nat → Option α} {r : α} (hc : ¬ c) (h : Ev f r) : Ev (fun k => if c then g k else f k) r := Ev.congr (fun _ => if_neg hc) h
theorem ev_some {α β : Type} {a : α} {f : Nat → α → Option β} {r : β} (h : Ev (fun k => f k a) r) : Ev (fun k => (some a).bind (f k)) r := h
theorem ev_of {α : Type} {a : Option α} {r : α} (h : a = some r) : Ev (fun _ => a) r := ⟨0, fun _ _ => h⟩
theorem ev_eq {α : Type} {g : Nat → Option α} {r r' : α} (h : Ev g r) (e : r = r') : Ev g r' := e ▸ h
theorem wrap_small {i : Int} (h0 : -9223372036854775808 ≤ i) (h1 : i ≤ 9223372036854775807) : wrap64 i = i := by unfold wrap64; omega
theorem wf_bounds {x : Int} (h : (Lit.int .i64 x).wf = true) : -9223372036854775808 ≤ x ∧ x ≤ 9223372036854775807 := by
  simp [Lit.wf, IntKind.min, IntKind.max, IntKind.signed, IntKind.bits] at h
  omega
theorem set_keeps {α : Type} (l out : List α) (d : α) (i : Nat) (hi : i < l.length) (ho : out.length = l.length) (h : ∀ j, j < i → out[j]? = l[j]?) : ∀ j, j < i + 1 → (out.set i (l.getD i d))[j]? = l[j]? := by
  intro j hj
  rw [List.getElem?_set]
  by_cases e : i = j
  · subst e
    rw [if_pos rfl, if_pos (by omega), List.getD_eq_getElem?_getD, List.getElem?_eq_getElem hi]
    rfl
  · rw [if_neg e]
    exact h j (by omega)
theorem all_kept {α : Type} (l out : List α) (ho : out.length = l.length) (h : ∀ j, j < l.length → out[j]? = l[j]?) : out = l := by
  apply List.ext_getElem?
  intro j
  by_cases hj : j < l.length
  · exact h j hj
  · rw [List.getElem?_eq_none (by omega), List.getElem?_eq_none (by omega)]

theorem inS (a b c : Int) : spec_l1In.f a b c = some (decide (b ≤ a) && decide (a ≤ c)) := by
  unfold spec_l1In.f
  by_cases h : a ≥ b
  · rw [if_pos h]; simp [show b ≤ a from h]
  · rw [if_neg h]; simp [show ¬ b ≤ a from h]
theorem inI (a b c : Int) : impl_in.f a b c = some (decide (b ≤ a) && decide (a ≤ c)) := by
  unfold impl_in.f
  by_cases h : a ≥ b
  · rw [if_pos h]; simp [show b ≤ a from h]
  · rw [if_neg h]; simp [show ¬ b ≤ a from h]

/-- Is a counter valid? -/
def cvalid (p v : Int) : Bool := (decide (0 ≤ p) && decide (p ≤ 9999)) && (decide (0 ≤ v) && decide (v ≤ 9999))
theorem cvS (p v : Int) (u d : Bool) : spec_CounterValid.f p v u d = some (cvalid p v) := by
  unfold spec_CounterValid.f cvalid
  rw [inS, Option.bind_some, inS]
  cases (decide (0 ≤ p) && decide (p ≤ 9999)) <;> simp
theorem cvI (p v : Int) (u d : Bool) : impl_CounterValid.f p v u d = some (cvalid p v) := by
  unfold impl_CounterValid.f cvalid
  rw [inI, Option.bind_some, inI]
  cases (decide (0 ≤ p) && decide (p ≤ 9999)) <;> simp

/-- A step of a counter. -/
def cstep (p v : Int) (u d up down reset load : Bool) : Int × Int × Bool × Bool :=
  if reset then (p, 0, up, down) else if load then (p, p, up, down)
  else if (up && !u) && !(down && !d) then (p, mn 9999 (v + 1), up, down) else if (down && !d) && !(up && !u) then (p, mx 0 (v - 1), up, down) else (p, v, up, down)
theorem riseI (a b : Bool) : impl_RisingEdge.f a b = some (b && !a) := by cases a <;> cases b <;> rfl
theorem mn_comm (a b : Int) : mn a b = mn b a := by unfold mn; split <;> split <;> omega
theorem mx_comm (a b : Int) : mx a b = mx b a := by unfold mx; split <;> split <;> omega
theorem l6_ev (p v : Int) (u d up down reset load : Bool) (h : 0 ≤ v) (h2 : v ≤ 9999) : Ev (fun k => spec_l6Step.f k p v u d up down reset load) (cstep p v u d up down reset load) := by
  have w1 : wrap64 (v + 1) = v + 1 := wrap_small (by omega) (by omega)
  have w2 : wrap64 (v - 1) = v - 1 := wrap_small (by omega) (by omega)
  refine ⟨3, fun k hk => ?_⟩
  obtain ⟨k, rfl⟩ : ∃ m, k = m + 3 := ⟨k - 3, by omega⟩
  cases u <;> cases d <;> cases up <;> cases down <;> cases reset <;> cases load <;> simp [spec_l6Step.f, spec_l6Step.j0, spec_l6Step.j1, spec_l6Step.j2, cstep, w1, w2]
theorem stepI_ev (p v : Int) (u d up down reset load : Bool) : Ev (fun k => impl_CounterStep.f k p v u d up down reset load) (if cvalid p v then cstep p v u d up down reset load else (0, 0, false, false)) := by
  refine ⟨1, fun k hk => ?_⟩
  obtain ⟨k, rfl⟩ : ∃ m, k = m + 1 := ⟨k - 1, by omega⟩
  show impl_CounterStep.f (k + 1) p v u d up down reset load = _
  unfold impl_CounterStep.f
  rw [cvI, Option.bind_some]
  cases hv : cvalid p v
  · rfl
  · have hb : 0 ≤ v ∧ v ≤ 9999 := by simp [cvalid] at hv; omega
    have w1 : wrap64 (v + 1) = v + 1 := wrap_small (by omega) (by omega)
    have w2 : wrap64 (v - 1) = v - 1 := wrap_small (by omega) (by omega)
    simp only [riseI, if_true, Option.bind_some]
    cases u <;> cases d <;> cases up <;> cases down <;> cases reset <;> cases load <;> simp [impl_CounterStep.j0, cstep, w1, w2, mn_comm, mx_comm]

theorem pure_holds : Pure := by
  intro p v u d up down reset load _ _
  refine Ev.rounds ?_
  simp only [laws_FnExactCounterStep.f, laws_toCounter.f]
  refine ev_some ?_
  have hS : Ev (fun k => spec_CounterStep.f k p v u d up down reset load) (if cvalid p v then cstep p v u d up down reset load else (0, 0, false, false)) := by
    simp only [spec_CounterStep.f]
    rw [cvS]
    refine ev_some ?_
    cases hv : cvalid p v
    · exact ev_neg (by simp) (ev_of rfl)
    · have hb : 0 ≤ v ∧ v ≤ 9999 := by simp [cvalid] at hv; omega
      refine ev_pos rfl ?_
      refine Ev.bind (l6_ev p v u d up down reset load hb.1 hb.2) ?_
      exact ev_of rfl
  refine Ev.bind hS ?_
  refine ev_some ?_
  refine Ev.bind (stepI_ev p v u d up down reset load) ?_
  generalize (if cvalid p v = true then cstep p v u d up down reset load else (0, 0, false, false)) = r
  exact ev_of (by simp [laws_eqCounter.f])

end Go.Proofs.Ytflemeaaiokjmaa.fnExactCounterStep

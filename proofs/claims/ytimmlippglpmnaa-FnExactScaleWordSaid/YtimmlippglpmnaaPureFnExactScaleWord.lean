/- The law FnExactScaleWord answers true for every five numbers; no condition. -/
import Derived.Test.YtimmlippglpmnaaStFnExactScaleWord
namespace Go.Proofs.Ytimmlippglpmnaa.fnExactScaleWord
open Go.RowKit Go.Proofs.Ytimmlippglpmnaa.GFnExactScaleWord Go.Proofs.YtimmlippglpmnaaV.PrintWords Go.Proofs.YtimmlippglpmnaaV.PrintLast Go.Proofs.YtimmlippglpmnaaV.PrintMore
set_option linter.unusedVariables false
set_option linter.unusedSimpArgs false

theorem ev_succ {α : Type} {g : Nat → Option α} {r : α} (h : Ev (fun k => g (k + 1)) r) : Ev g r := Ev.step (fun _ => rfl) h
theorem ev_pos {α : Type} {c : Prop} [Decidable c] {g f : Nat → Option α} {r : α} (hc : c) (h : Ev g r) : Ev (fun k => if c then g k else f k) r := Ev.congr (fun _ => if_pos hc) h
theorem ev_neg {α : Type} {c : Prop} [Decidable c] {g f : Nat → Option α} {r : α} (hc : ¬ c) (h : Ev f r) : Ev (fun k => if c then g k else f k) r := Ev.congr (fun _ => if_neg hc) h
theorem ev_some {α β : Type} {a : α} {f : Nat → α → Option β} {r : β} (h : Ev (fun k => f k a) r) : Ev (fun k => (some a).bind (f k)) r := h
theorem ev_of {α : Type} {a : Option α} {r : α} (h : a = some r) : Ev (fun _ => a) r := ⟨0, fun _ _ => h⟩
theorem ev_eq {α : Type} {g : Nat → Option α} {r r' : α} (h : Ev g r) (e : r = r') : Ev g r' := e ▸ h
theorem wrap_small {i : Int} (h0 : -9223372036854775808 ≤ i) (h1 : i ≤ 9223372036854775807) : wrap64 i = i := by unfold wrap64; omega
theorem wf_bounds {x : Int} (h : (Lit.int .i64 x).wf = true) : -9223372036854775808 ≤ x ∧ x ≤ 9223372036854775807 := by
  simp [Lit.wf, IntKind.min, IntKind.max, IntKind.signed, IntKind.bits] at h
  omega
theorem set_keeps {α : Type} (l out : List α) (d : α) (i : Nat) (hi : i < l.length) (ho : out.length = l.length) (h : ∀ j, j < i → out[j]? = l[j]?) : ∀ j, j < i + 1 → (out.set i (l.getD i d))[j]? = l[j]? := by
  intro j hj
  rw [List.getElem?_set]
  by_cases e : i = j
  · subst e
    rw [if_pos rfl, if_pos (by omega), List.getD_eq_getElem?_getD, List.getElem?_eq_getElem hi]
    rfl
  · rw [if_neg e]
    exact h j (by omega)
theorem all_kept {α : Type} (l out : List α) (ho : out.length = l.length) (h : ∀ j, j < l.length → out[j]? = l[j]?) : out = l := by
  apply List.ext_getElem?
  intro j
  by_cases hj : j < l.length
  · exact h j hj
  · rw [List.getElem?_eq_none (by omega), List.getElem?_eq_none (by omega)]

theorem inS (a b c : Int) : spec_l1In.f a b c = some (decide (b ≤ a) && decide (a ≤ c)) := by
  unfold spec_l1In.f
  by_cases h : a ≥ b
  · rw [if_pos h]; simp [show b ≤ a from h]
  · rw [if_neg h]; simp [show ¬ b ≤ a from h]
/-- Is a number a word? -/
def word (x : Int) : Bool := decide (-32768 ≤ x) && decide (x ≤ 32767)
theorem word_iff (x : Int) : word x = true ↔ -32768 ≤ x ∧ x ≤ 32767 := by simp [word]
theorem wS (x : Int) : spec_l7Word.f x = some (word x) := by
  unfold spec_l7Word.f
  rw [inS]
  rfl
theorem areW (l : List Int) : impl_areWords.f l = some (l.all word) := by
  unfold impl_areWords.f
  have : l.all word = !l.any impl_areWords.bad := by
    induction l with
    | nil => rfl
    | cons x r ih =>
      rw [List.all_cons, List.any_cons, ih]
      simp [impl_areWords.bad, word]
  rw [this]

/-- A quotient, rounded down, as Go's text has it. -/
def flo (a b : Int) : Int := if Int.tmod a b < 0 then wrap64 (wrap64 (Int.tdiv a b) - 1) else wrap64 (Int.tdiv a b)
theorem floS (a b : Int) (h : b ≠ 0) : spec_l7Floor.f a b = some (flo a b) := by
  unfold spec_l7Floor.f flo
  rw [if_neg h]
  split <;> rfl
theorem floI (a b : Int) (h : b ≠ 0) : impl_floor.f a b = some (flo a b) := by
  unfold impl_floor.f flo
  rw [if_neg h]
  split <;> rfl

def scaled (a b c d e : Int) : Int := if word a && word b && word c && word d && word e && decide (b < c) then wrap64 (d + flo (wrap64 (wrap64 (mx b (mn c a) - b) * wrap64 (e - d))) (wrap64 (c - b))) else 0

theorem pure_holds : Pure := by
  intro a b c d e _ _ _ _ _
  refine ⟨1, ?_⟩
  have hS : spec_ScaleWord.f 1 a b c d e = some (scaled a b c d e) := by
    unfold spec_ScaleWord.f scaled
    rw [wS, wS, wS, wS, wS]
    simp only [Option.bind_some, spec_ScaleWord.j0]
    cases h1 : word a
    · rfl
    · cases h2 : word b
      · rfl
      · cases h3 : word c
        · rfl
        · cases h4 : word d
          · rfl
          · cases h5 : word e
            · rfl
            · by_cases h6 : b ≥ c
              · simp [h6, show ¬ b < c by omega]
              · rw [word_iff] at h2 h3
                have hne : wrap64 (c - b) ≠ 0 := by rw [wrap_small (by omega) (by omega)]; omega
                simp only [spec_l1Clip.f, Option.bind_some, floS _ _ hne]
                simp [h6, show b < c by omega]
  have hI : impl_ScaleWord.f a b c d e = some (scaled a b c d e) := by
    unfold impl_ScaleWord.f scaled
    rw [areW]
    simp only [List.all_cons, List.all_nil, Bool.and_true, Option.bind_some]
    cases h1 : word a
    · rfl
    · cases h2 : word b
      · rfl
      · cases h3 : word c
        · rfl
        · cases h4 : word d
          · rfl
          · cases h5 : word e
            · rfl
            · by_cases h6 : b ≥ c
              · simp [h6, show ¬ b < c by omega]
              · rw [word_iff] at h2 h3
                have hne : wrap64 (c - b) ≠ 0 := by rw [wrap_small (by omega) (by omega)]; omega
                simp only [floI _ _ hne, Option.bind_some]
                simp [h6, show b < c by omega]
  unfold laws_FnExactScaleWord.f
  rw [hS, hI]
  simp

end Go.Proofs.Ytimmlippglpmnaa.fnExactScaleWord

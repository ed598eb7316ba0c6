/- The law FnRisingEdge answers true for every list of bytes; no condition. -/
import Derived.Test.YtdcjbnedbohofaaStFnRisingEdge
namespace Go.Proofs.Ytdcjbnedbohofaa.fnRisingEdge
open Go.RowKit Go.Proofs.Ytdcjbnedbohofaa.GFnRisingEdge Go.Proofs.YtdcjbnedbohofaaV.PrintWords Go.Proofs.YtdcjbnedbohofaaV.PrintLast Go.Proofs.YtdcjbnedbohofaaV.PrintMore
set_option linter.unusedVariables false
set_option linter.unusedSimpArgs false

theorem ev_succ {α : Type} {g : Nat → Option α} {r : α} (h : Ev (fun k => g (k + 1)) r) : Ev g r := Ev.step (fun _ => rfl) h
theorem ev_pos {α : Type} {c : Prop} [Decidable c] {g f : Nat → Option α} {r : α} (hc : c) (h : Ev g r) : Ev (fun k => if c then g k else f k) r := Ev.congr (fun _ => if_pos hc) h
theorem ev_neg {α : Type} {c : Prop} [Decidable c] {g f : Nat → Option α} {r : α} (hc : ¬ c) (h : Ev f r) : Ev (fun k => if c then g k else f k) r := Ev.congr (fun _ => if_neg hc) h
theorem ev_some {α β : Type} {a : α} {f : Nat → α → Option β} {r : β} (h : Ev (fun k => f k a) r) : Ev (fun k => (some a).bind (f k)) r := h
theorem ev_of {α : Type} {a : Option α} {r : α} (h : a = some r) : Ev (fun _ => a) r := ⟨0, fun _ _ => h⟩
theorem ev_eq {α : Type} {g : Nat → Option α} {r r' : α} (h : Ev g r) (e : r = r') : Ev g r' := e ▸ h
theorem wrap_small {i : Int} (h0 : -9223372036854775808 ≤ i) (h1 : i ≤ 9223372036854775807) : wrap64 i = i := by unfold wrap64; omega
theorem wf_bounds {x : Int} (h : (Lit.int .i64 x).wf = true) : -9223372036854775808 ≤ x ∧ x ≤ 9223372036854775807 := by
  simp [Lit.wf, IntKind.min, IntKind.max, IntKind.signed, IntKind.bits] at h
  omega
theorem set_keeps {α : Type} (l out : List α) (d : α) (i : Nat) (hi : i < l.length) (ho : out.length = l.length) (h : ∀ j, j < i → out[j]? = l[j]?) : ∀ j, j < i + 1 → (out.set i (l.getD i d))[j]? = l[j]? := by
  intro j hj
  rw [List.getElem?_set]
  by_cases e : i = j
  · subst e
    rw [if_pos rfl, if_pos (by omega), List.getD_eq_getElem?_getD, List.getElem?_eq_getElem hi]
    rfl
  · rw [if_neg e]
    exact h j (by omega)
theorem all_kept {α : Type} (l out : List α) (ho : out.length = l.length) (h : ∀ j, j < l.length → out[j]? = l[j]?) : out = l := by
  apply List.ext_getElem?
  intro j
  by_cases hj : j < l.length
  · exact h j hj
  · rw [List.getElem?_eq_none (by omega), List.getElem?_eq_none (by omega)]

/-- One draw: from a place of at most 1000 on, a number is drawn, and the place moves by one. -/
theorem pick_ends (l : List Int) (p n : Int) (h0 : 0 ≤ p) (h1 : p ≤ 1000) (hl : l.length ≤ 2000) (hn : 1 ≤ n) : ∃ v, spec_l20Rd_pick.f 1 l p n = some (v, p + 1) := by
  have e1 : wrap64 (p + 1) = p + 1 := by unfold wrap64; omega
  have e2 : wrap64 (p + 1 - 1) = p := by unfold wrap64; omega
  unfold spec_l20Rd_pick.f
  rw [if_neg (by omega), e1]
  by_cases hz : (l.length : Int) = 0
  · rw [show ((l.length : Int) == 0) = true from by simpa using hz]
    exact ⟨0, by simp only [spec_l20Rd_pick.j0]; rw [if_pos trivial]⟩
  · rw [show ((l.length : Int) == 0) = false from by simpa using hz]
    simp only [spec_l20Rd_pick.j0]
    rw [if_neg (by simp), e2]
    by_cases hp : p < (l.length : Int)
    · rw [if_pos hp, if_pos h0, if_neg (by omega)]
      exact ⟨_, rfl⟩
    · rw [if_neg hp, if_neg hz]
      have f1 : ∀ x : Int, 0 ≤ x → 0 ≤ Int.tmod x (l.length : Int) ∧ Int.tmod x (l.length : Int) < (l.length : Int) := fun x hx => by
        rw [Int.tmod_eq_emod_of_nonneg hx]
        exact ⟨Int.emod_nonneg _ hz, Int.emod_lt_of_pos _ (by omega)⟩
      have w1 : wrap64 (p * 7) = p * 7 := by unfold wrap64; omega
      have w2 : wrap64 (p * 7 + 3) = p * 7 + 3 := by unfold wrap64; omega
      rw [w1, w2, if_pos (f1 p h0).1, if_pos (f1 p h0).2, if_pos (f1 _ (by omega)).1, if_pos (f1 _ (by omega)).2, if_neg (by omega)]
      exact ⟨_, rfl⟩
theorem open_ends (l : List Int) : ∃ m : List Int, spec_l20Open.f l = some (m, 0) ∧ m.length ≤ 2000 := by
  unfold spec_l20Open.f
  by_cases h : (l.length : Int) > 2000
  · rw [if_pos h, if_pos (by omega)]
    exact ⟨_, rfl, by rw [List.length_take]; omega⟩
  · rw [if_neg h]
    exact ⟨_, rfl, by omega⟩

theorem pure_holds : Pure := by
  intro l _
  refine ⟨1, ?_⟩
  unfold laws_FnRisingEdge.f
  by_cases hb : (l.length : Int) > 1048576
  · rw [if_pos hb]
  · rw [if_neg hb]
    unfold spec_DrawRisingEdge.f
    obtain ⟨m, hm, hml⟩ := open_ends l
    obtain ⟨u, hu⟩ := pick_ends m 0 2 (by omega) (by omega) hml (by omega)
    obtain ⟨v, hv⟩ := pick_ends m 1 2 (by omega) (by omega) hml (by omega)
    rw [hm]
    simp only [Option.bind_some]
    rw [hu]
    simp only [Option.bind_some, Int.zero_add]
    rw [hv]
    rfl

end Go.Proofs.Ytdcjbnedbohofaa.fnRisingEdge

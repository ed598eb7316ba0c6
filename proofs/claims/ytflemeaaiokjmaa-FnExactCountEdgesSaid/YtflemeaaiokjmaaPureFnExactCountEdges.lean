/- The law FnExactCountEdges answers true for every counter and every list of bools; no condition but that the numbers are of their kind. -/
import Derived.Test.YtflemeaaiokjmaaStFnExactCountEdges
namespace Go.Proofs.Ytflemeaaiokjmaa.fnExactCountEdges
open Go.RowKit Go.Proofs.Ytflemeaaiokjmaa.PFnExactCountEdges Go.Proofs.YtflemeaaiokjmaaW.PrintWords Go.Proofs.YtflemeaaiokjmaaW.PrintLast Go.Proofs.YtflemeaaiokjmaaW.PrintMore
set_option linter.unusedVariables false
set_option linter.unusedSimpArgs false

theorem ev_succ {α : Type} {g : Nat → Option α} {r : α} (h : Ev (fun k => g (k + 1)) r) : Ev g r := Ev.step (fun _ => rfl) h
theorem ev_pos {α : Type} {c : Prop} [Decidable c] {g f : Nat → Option α} {r : α} (hc : c) (h : Ev g r) : Ev (fun k => if c then g k else f k) r := Ev.congr (fun _ => if_pos hc) h
theorem ev_neg {α : Type} {c : Prop} [Decidable c] {g f : Nat → Option α} {r : α} (hc : ¬ c) (h : Ev f r) : Ev (fun k => if c then g k else f k) r := Ev.congr (fun _ => if_neg hc) h
theorem ev_some {α β : Type} {a : α} {f : Nat → α → Option β} {r : β} (h : Ev (fun k => f k a) r) : Ev (fun k => (some a).bind (f k)) r := h
theorem ev_of {α : Type} {a : Option α} {r : α} (h : a = some r) : Ev (fun _ => a) r := ⟨0, fun _ _ => h⟩
theorem ev_eq {α : Type} {g : Nat → Option α} {r r' : α} (h : Ev g r) (e : r = r') : Ev g r' := e ▸ h
theorem wrap_small {i : Int} (h0 : -9223372036854775808 ≤ i) (h1 : i ≤ 9223372036854775807) : wrap64 i = i := by unfold wrap64; omega
theorem wf_bounds {x : Int} (h : (Lit.int .i64 x).wf = true) : -9223372036854775808 ≤ x ∧ x ≤ 9223372036854775807 := by
  simp [Lit.wf, IntKind.min, IntKind.max, IntKind.signed, IntKind.bits] at h
  omega
theorem set_keeps {α : Type} (l out : List α) (d : α) (i : Nat) (hi : i < l.length) (ho : out.length = l.length) (h : ∀ j, j < i → out[j]? = l[j]?) : ∀ j, j < i + 1 → (out.set i (l.getD i d))[j]? = l[j]? := by
  intro j hj
  rw [List.getElem?_set]
  by_cases e : i = j
  · subst e
    rw [if_pos rfl, if_pos (by omega), List.getD_eq_getElem?_getD, List.getElem?_eq_getElem hi]
    rfl
  · rw [if_neg e]
    exact h j (by omega)
theorem all_kept {α : Type} (l out : List α) (ho : out.length = l.length) (h : ∀ j, j < l.length → out[j]? = l[j]?) : out = l := by
  apply List.ext_getElem?
  intro j
  by_cases hj : j < l.length
  · exact h j hj
  · rw [List.getElem?_eq_none (by omega), List.getElem?_eq_none (by omega)]

theorem toBool_loop (l : List Bool) (hl : l.length ≤ 1048576) : ∀ (m i : Nat) (out : List Bool), i + m = l.length → out.length = l.length → (∀ j, j < i → out[j]? = l[j]?) → Ev (fun k => laws_toBoolS.l0 k l out (i : Int)) l := by
  intro m
  induction m with
  | zero =>
    intro i out hi ho h
    refine ev_succ ?_
    simp only [laws_toBoolS.l0]
    refine ev_neg (by omega) ?_
    exact ev_of (congrArg some (all_kept l out ho (fun j hj => h j (by omega))))
  | succ m ih =>
    intro i out hi ho h
    refine ev_succ ?_
    simp only [laws_toBoolS.l0]
    refine ev_pos (by omega) (ev_pos (by omega) (ev_pos (by omega) ?_))
    rw [wrap_small (by omega) (by omega)]
    have hs := ih (i + 1) (out.set i (l.getD i false)) (by omega) (by simpa using ho) (set_keeps l out false i (by omega) ho h)
    simpa [rdOf, rd] using hs
theorem toBool_ev (l : List Bool) (hl : l.length ≤ 1048576) : Ev (fun k => laws_toBoolS.f k l) l := by
  simp only [laws_toBoolS.f]
  refine ev_pos (by omega) (ev_pos (by omega) ?_)
  have h := toBool_loop l hl l.length 0 (List.replicate ((l.length : Int)).toNat false) (by omega) (by simp) (fun j hj => by omega)
  exact h

theorem eqBool_loop (l : List Bool) (hl : l.length ≤ 1048576) : ∀ (m i : Nat), i + m = l.length → Ev (fun k => laws_eqBoolS.l0 k l l (i : Int)) true := by
  intro m
  induction m with
  | zero =>
    intro i hi
    refine ev_succ ?_
    simp only [laws_eqBoolS.l0]
    exact ev_neg (by omega) (ev_of rfl)
  | succ m ih =>
    intro i hi
    refine ev_succ ?_
    simp only [laws_eqBoolS.l0]
    refine ev_pos (by omega) (ev_pos (by omega) (ev_pos (by omega) ?_))
    refine ev_neg (by simp) ?_
    rw [wrap_small (by omega) (by omega)]
    exact ih (i + 1) (by omega)
theorem eqBool_ev (l : List Bool) (hl : l.length ≤ 1048576) : Ev (fun k => laws_eqBoolS.f k l l) true := by
  simp only [laws_eqBoolS.f]
  refine ev_pos (by first | rfl | trivial) ?_
  exact eqBool_loop l hl l.length 0 (by omega)

theorem inS (a b c : Int) : spec_l1In.f a b c = some (decide (b ≤ a) && decide (a ≤ c)) := by
  unfold spec_l1In.f
  by_cases h : a ≥ b
  · rw [if_pos h]; simp [show b ≤ a from h]
  · rw [if_neg h]; simp [show ¬ b ≤ a from h]
theorem inI (a b c : Int) : impl_in.f a b c = some (decide (b ≤ a) && decide (a ≤ c)) := by
  unfold impl_in.f
  by_cases h : a ≥ b
  · rw [if_pos h]; simp [show b ≤ a from h]
  · rw [if_neg h]; simp [show ¬ b ≤ a from h]

/-- Is a counter valid? -/
def cvalid (p v : Int) : Bool := (decide (0 ≤ p) && decide (p ≤ 9999)) && (decide (0 ≤ v) && decide (v ≤ 9999))
theorem cvS (p v : Int) (u d : Bool) : spec_CounterValid.f p v u d = some (cvalid p v) := by
  unfold spec_CounterValid.f cvalid
  rw [inS, Option.bind_some, inS]
  cases (decide (0 ≤ p) && decide (p ≤ 9999)) <;> simp
theorem cvI (p v : Int) (u d : Bool) : impl_CounterValid.f p v u d = some (cvalid p v) := by
  unfold impl_CounterValid.f cvalid
  rw [inI, Option.bind_some, inI]
  cases (decide (0 ≤ p) && decide (p ≤ 9999)) <;> simp

/-- A step of a counter. -/
def cstep (p v : Int) (u d up down reset load : Bool) : Int × Int × Bool × Bool :=
  if reset then (p, 0, up, down) else if load then (p, p, up, down)
  else if (up && !u) && !(down && !d) then (p, mn 9999 (v + 1), up, down) else if (down && !d) && !(up && !u) then (p, mx 0 (v - 1), up, down) else (p, v, up, down)
theorem riseI (a b : Bool) : impl_RisingEdge.f a b = some (b && !a) := by cases a <;> cases b <;> rfl
theorem mn_comm (a b : Int) : mn a b = mn b a := by unfold mn; split <;> split <;> omega
theorem mx_comm (a b : Int) : mx a b = mx b a := by unfold mx; split <;> split <;> omega
theorem l6_ev (p v : Int) (u d up down reset load : Bool) (h : 0 ≤ v) (h2 : v ≤ 9999) : Ev (fun k => spec_l6Step.f k p v u d up down reset load) (cstep p v u d up down reset load) := by
  have w1 : wrap64 (v + 1) = v + 1 := wrap_small (by omega) (by omega)
  have w2 : wrap64 (v - 1) = v - 1 := wrap_small (by omega) (by omega)
  refine ⟨3, fun k hk => ?_⟩
  obtain ⟨k, rfl⟩ : ∃ m, k = m + 3 := ⟨k - 3, by omega⟩
  cases u <;> cases d <;> cases up <;> cases down <;> cases reset <;> cases load <;> simp [spec_l6Step.f, spec_l6Step.j0, spec_l6Step.j1, spec_l6Step.j2, cstep, w1, w2]
theorem stepI_ev (p v : Int) (u d up down reset load : Bool) : Ev (fun k => impl_CounterStep.f k p v u d up down reset load) (if cvalid p v then cstep p v u d up down reset load else (0, 0, false, false)) := by
  refine ⟨1, fun k hk => ?_⟩
  obtain ⟨k, rfl⟩ : ∃ m, k = m + 1 := ⟨k - 1, by omega⟩
  show impl_CounterStep.f (k + 1) p v u d up down reset load = _
  unfold impl_CounterStep.f
  rw [cvI, Option.bind_some]
  cases hv : cvalid p v
  · rfl
  · have hb : 0 ≤ v ∧ v ≤ 9999 := by simp [cvalid] at hv; omega
    have w1 : wrap64 (v + 1) = v + 1 := wrap_small (by omega) (by omega)
    have w2 : wrap64 (v - 1) = v - 1 := wrap_small (by omega) (by omega)
    simp only [riseI, if_true, Option.bind_some]
    cases u <;> cases d <;> cases up <;> cases down <;> cases reset <;> cases load <;> simp [impl_CounterStep.j0, cstep, w1, w2, mn_comm, mx_comm]

theorem cstep_valid (p v : Int) (u d up : Bool) (h : cvalid p v = true) : cvalid (cstep p v u d up false false false).1 (cstep p v u d up false false false).2.1 = true := by
  have hb : 0 ≤ p ∧ p ≤ 9999 ∧ 0 ≤ v ∧ v ≤ 9999 := by simp [cvalid] at h; omega
  unfold cstep
  cases u <;> cases d <;> cases up <;> simp [cvalid, mn, mx] <;> (repeat split) <;> omega
/-- A counter behind some steps. -/
def cruns : Int → Int → Bool → Bool → List Bool → Int × Int × Bool × Bool
  | p, v, u, d, [] => (p, v, u, d)
  | p, v, u, d, x :: r => cruns (cstep p v u d x false false false).1 (cstep p v u d x false false false).2.1 (cstep p v u d x false false false).2.2.1 (cstep p v u d x false false false).2.2.2 r
def countR (p v : Int) (u d : Bool) (l : List Bool) : Int × Int × Bool × Bool := if cvalid p v = true ∧ l.length ≤ 200 then cruns p v u d l else (0, 0, false, false)
theorem specL (l : List Bool) (hl : l.length ≤ 200) : ∀ (r q : List Bool) (p v : Int) (u d : Bool), l = q ++ r → cvalid p v = true → Ev (fun k => spec_CountEdges.l0 k l (q.length : Int) p v u d) (cruns p v u d r) := by
  intro r
  induction r with
  | nil =>
    intro q p v u d hq hv
    refine ev_succ ?_
    simp only [spec_CountEdges.l0]
    have : l.length = q.length := by rw [hq]; simp
    exact ev_neg (by omega) (ev_of rfl)
  | cons x r ih =>
    intro q p v u d hq hv
    refine ev_succ ?_
    simp only [spec_CountEdges.l0]
    have hll : l.length = q.length + (r.length + 1) := by rw [hq]; simp
    have hx : rdOf false l (q.length : Int) = x := by simp [rdOf, hq]
    refine ev_pos (by omega) (ev_pos (by omega) ?_)
    rw [hx]
    have hb : 0 ≤ v ∧ v ≤ 9999 := by simp [cvalid] at hv; omega
    refine Ev.bind (l6_ev p v u d x false false false hb.1 hb.2) ?_
    rw [wrap_small (by omega) (by omega)]
    have h := ih (q ++ [x]) (cstep p v u d x false false false).1 (cstep p v u d x false false false).2.1 (cstep p v u d x false false false).2.2.1 (cstep p v u d x false false false).2.2.2 (by simp [hq]) (cstep_valid p v u d x hv)
    simpa [cruns] using h
theorem implL (l : List Bool) (hl : l.length ≤ 200) : ∀ (r q : List Bool) (p v : Int) (u d : Bool), l = q ++ r → cvalid p v = true → Ev (fun k => impl_CountEdges.l0 k l (l.length : Int) (q.length : Int) p v u d) (cruns p v u d r) := by
  intro r
  induction r with
  | nil =>
    intro q p v u d hq hv
    refine ev_succ ?_
    simp only [impl_CountEdges.l0]
    have : l.length = q.length := by rw [hq]; simp
    exact ev_neg (by omega) (ev_of rfl)
  | cons x r ih =>
    intro q p v u d hq hv
    refine ev_succ ?_
    simp only [impl_CountEdges.l0]
    have hll : l.length = q.length + (r.length + 1) := by rw [hq]; simp
    have hx : rdOf false l (q.length : Int) = x := by simp [rdOf, hq]
    refine ev_pos (by omega) (ev_pos (by omega) (ev_pos (by omega) ?_))
    rw [hx]
    refine Ev.bind (ev_eq (stepI_ev p v u d x false false false) (if_pos hv)) ?_
    rw [wrap_small (by omega) (by omega)]
    have h := ih (q ++ [x]) (cstep p v u d x false false false).1 (cstep p v u d x false false false).2.1 (cstep p v u d x false false false).2.2.1 (cstep p v u d x false false false).2.2.2 (by simp [hq]) (cstep_valid p v u d x hv)
    simpa [cruns] using h
theorem specC_ev (p v : Int) (u d : Bool) (l : List Bool) (hn : l.length ≤ 1048576) : Ev (fun k => spec_CountEdges.f k p v u d l) (countR p v u d l) := by
  simp only [spec_CountEdges.f]
  rw [cvS]
  refine ev_some ?_
  unfold countR
  cases hv : cvalid p v
  · refine ev_neg (by simp) (ev_succ ?_)
    simp only [spec_CountEdges.j0]
    exact ev_pos trivial (ev_of (by simp))
  · refine ev_pos rfl (ev_succ ?_)
    simp only [spec_CountEdges.j0]
    by_cases h : (l.length : Int) > 200
    · refine ev_pos (by simpa using h) (ev_of ?_)
      rw [if_neg (by omega)]
    · refine ev_neg (by simpa using h) ?_
      rw [if_pos (by first | exact ⟨rfl, by omega⟩ | exact ⟨trivial, by omega⟩)]
      exact specL l (by omega) l [] p v u d rfl hv
theorem implC_ev (p v : Int) (u d : Bool) (l : List Bool) (hn : l.length ≤ 1048576) : Ev (fun k => impl_CountEdges.f k p v u d l) (countR p v u d l) := by
  simp only [impl_CountEdges.f]
  rw [cvI]
  refine ev_some ?_
  unfold countR
  cases hv : cvalid p v
  · refine ev_neg (by simp) (ev_succ ?_)
    simp only [impl_CountEdges.j0]
    exact ev_pos trivial (ev_of (by simp))
  · refine ev_pos rfl (ev_succ ?_)
    simp only [impl_CountEdges.j0]
    by_cases h : (l.length : Int) > 200
    · refine ev_pos (by simpa using h) (ev_of ?_)
      rw [if_neg (by omega)]
    · refine ev_neg (by simpa using h) ?_
      rw [if_pos (by first | exact ⟨rfl, by omega⟩ | exact ⟨trivial, by omega⟩)]
      exact implL l (by omega) l [] p v u d rfl hv

theorem pure_holds : Pure := by
  intro p v u d l _ _ hl
  refine Ev.rounds ?_
  simp only [laws_FnExactCountEdges.f, laws_toCounter.f]
  by_cases hb : (l.length : Int) > 1048576
  · exact ev_pos hb (ev_of rfl)
  · have hn : l.length ≤ 1048576 := by omega
    refine ev_neg hb (ev_some ?_)
    refine Ev.bind (toBool_ev l hn) ?_
    refine Ev.bind (specC_ev p v u d l hn) ?_
    refine Ev.bind (toBool_ev l hn) (ev_some ?_)
    refine Ev.bind (implC_ev p v u d l hn) ?_
    generalize countR p v u d l = r
    refine Ev.bind (a := true) (ev_of (by simp [laws_eqCounter.f])) ?_
    refine ev_pos rfl ?_
    refine Ev.bind (toBool_ev l hn) ?_
    refine Ev.bind (eqBool_ev l hn) ?_
    exact ev_pos rfl (ev_of rfl)

end Go.Proofs.Ytflemeaaiokjmaa.fnExactCountEdges

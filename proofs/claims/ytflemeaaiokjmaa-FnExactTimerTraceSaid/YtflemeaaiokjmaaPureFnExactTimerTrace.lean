/- The law FnExactTimerTrace answers true for every timer, list of bools and number; no condition but that the numbers are of their kind. -/
import Derived.Test.YtflemeaaiokjmaaStFnExactTimerTrace
namespace Go.Proofs.Ytflemeaaiokjmaa.fnExactTimerTrace
open Go.RowKit Go.Proofs.Ytflemeaaiokjmaa.GFnExactTimerTrace Go.Proofs.YtflemeaaiokjmaaV.PrintWords Go.Proofs.YtflemeaaiokjmaaV.PrintLast Go.Proofs.YtflemeaaiokjmaaV.PrintMore
set_option linter.unusedVariables false
set_option linter.unusedSimpArgs false

theorem ev_succ {α : Type} {g : Nat → Option α} {r : α} (h : Ev (fun k => g (k + 1)) r) : Ev g r := Ev.step (fun _ => rfl) h
theorem ev_pos {α : Type} {c : Prop} [Decidable c] {g f : Nat → Option α} {r : α} (hc : c) (h : Ev g r) : Ev (fun k => if c then g k else f k) r := Ev.congr (fun _ => if_pos hc) h
theorem ev_neg {α : Type} {c : Prop} [Decidable c] {g f : Nat → Option α} {r : α} (hc : ¬ c) (h : Ev f r) : Ev (fun k => if c then g k else f k) r := Ev.congr (fun _ => if_neg hc) h
theorem ev_some {α β : Type} {a : α} {f : Nat → α → Option β} {r : β} (h : Ev (fun k => f k a) r) : Ev (fun k => (some a).bind (f k)) r := h
theorem ev_of {α : Type} {a : Option α} {r : α} (h : a = some r) : Ev (fun _ => a) r := ⟨0, fun _ _ => h⟩
theorem ev_eq {α : Type} {g : Nat → Option α} {r r' : α} (h : Ev g r) (e : r = r') : Ev g r' := e ▸ h
theorem wrap_small {i : Int} (h0 : -9223372036854775808 ≤ i) (h1 : i ≤ 9223372036854775807) : wrap64 i = i := by unfold wrap64; omega
theorem wf_bounds {x : Int} (h : (Lit.int .i64 x).wf = true) : -9223372036854775808 ≤ x ∧ x ≤ 9223372036854775807 := by
  simp [Lit.wf, IntKind.min, IntKind.max, IntKind.signed, IntKind.bits] at h
  omega
theorem set_keeps {α : Type} (l out : List α) (d : α) (i : Nat) (hi : i < l.length) (ho : out.length = l.length) (h : ∀ j, j < i → out[j]? = l[j]?) : ∀ j, j < i + 1 → (out.set i (l.getD i d))[j]? = l[j]? := by
  intro j hj
  rw [List.getElem?_set]
  by_cases e : i = j
  · subst e
    rw [if_pos rfl, if_pos (by omega), List.getD_eq_getElem?_getD, List.getElem?_eq_getElem hi]
    rfl
  · rw [if_neg e]
    exact h j (by omega)
theorem all_kept {α : Type} (l out : List α) (ho : out.length = l.length) (h : ∀ j, j < l.length → out[j]? = l[j]?) : out = l := by
  apply List.ext_getElem?
  intro j
  by_cases hj : j < l.length
  · exact h j hj
  · rw [List.getElem?_eq_none (by omega), List.getElem?_eq_none (by omega)]

theorem toBool_loop (l : List Bool) (hl : l.length ≤ 1048576) : ∀ (m i : Nat) (out : List Bool), i + m = l.length → out.length = l.length → (∀ j, j < i → out[j]? = l[j]?) → Ev (fun k => laws_toBoolS.l0 k l out (i : Int)) l := by
  intro m
  induction m with
  | zero =>
    intro i out hi ho h
    refine ev_succ ?_
    simp only [laws_toBoolS.l0]
    refine ev_neg (by omega) ?_
    exact ev_of (congrArg some (all_kept l out ho (fun j hj => h j (by omega))))
  | succ m ih =>
    intro i out hi ho h
    refine ev_succ ?_
    simp only [laws_toBoolS.l0]
    refine ev_pos (by omega) (ev_pos (by omega) (ev_pos (by omega) ?_))
    rw [wrap_small (by omega) (by omega)]
    have hs := ih (i + 1) (out.set i (l.getD i false)) (by omega) (by simpa using ho) (set_keeps l out false i (by omega) ho h)
    simpa [rdOf, rd] using hs
theorem toBool_ev (l : List Bool) (hl : l.length ≤ 1048576) : Ev (fun k => laws_toBoolS.f k l) l := by
  simp only [laws_toBoolS.f]
  refine ev_pos (by omega) (ev_pos (by omega) ?_)
  have h := toBool_loop l hl l.length 0 (List.replicate ((l.length : Int)).toNat false) (by omega) (by simp) (fun j hj => by omega)
  exact h

theorem eqBool_loop (l : List Bool) (hl : l.length ≤ 1048576) : ∀ (m i : Nat), i + m = l.length → Ev (fun k => laws_eqBoolS.l0 k l l (i : Int)) true := by
  intro m
  induction m with
  | zero =>
    intro i hi
    refine ev_succ ?_
    simp only [laws_eqBoolS.l0]
    exact ev_neg (by omega) (ev_of rfl)
  | succ m ih =>
    intro i hi
    refine ev_succ ?_
    simp only [laws_eqBoolS.l0]
    refine ev_pos (by omega) (ev_pos (by omega) (ev_pos (by omega) ?_))
    refine ev_neg (by simp) ?_
    rw [wrap_small (by omega) (by omega)]
    exact ih (i + 1) (by omega)
theorem eqBool_ev (l : List Bool) (hl : l.length ≤ 1048576) : Ev (fun k => laws_eqBoolS.f k l l) true := by
  simp only [laws_eqBoolS.f]
  refine ev_pos (by first | rfl | trivial) ?_
  exact eqBool_loop l hl l.length 0 (by omega)

def mkBool (c : Int) (n : Nat) : List Bool := (List.range n).map fun j : Nat => ((Int.tmod (c + (j : Int)) 3) == 0)
theorem mkBool_length (c : Int) (n : Nat) : (mkBool c n).length = n := by simp [mkBool]
theorem mkBool_get (c : Int) (n i : Nat) (h : i < n) : (mkBool c n)[i]? = some ((Int.tmod (c + (i : Int)) 3) == 0) := by
  simp [mkBool, h]
theorem markBool_loop (l : List Bool) (c : Int) (hc : 0 ≤ c) (hc2 : c ≤ 100000000) (hl : l.length ≤ 1048576) : ∀ (m i : Nat) (out : List Bool), i + m = l.length → out.length = l.length → (∀ j, j < i → out[j]? = (mkBool c l.length)[j]?) →
    Ev (fun k => laws_markBoolS.l0 k out (c + (i : Int)) (i : Int)) (c + (l.length : Int), mkBool c l.length) := by
  intro m
  induction m with
  | zero =>
    intro i out hi ho h
    refine ev_succ ?_
    simp only [laws_markBoolS.l0]
    refine ev_neg (by omega) ?_
    have e : out = mkBool c l.length := all_kept _ _ (by rw [mkBool_length, ho]) (fun j hj => h j (by rw [mkBool_length] at hj; omega))
    exact ev_of (by rw [e, show i = l.length by omega])
  | succ m ih =>
    intro i out hi ho h
    refine ev_succ ?_
    simp only [laws_markBoolS.l0]
    refine ev_pos (by omega) (ev_pos (by omega) ?_)
    rw [wrap_small (by omega) (by omega), wrap_small (by omega) (by omega)]
    have hg := mkBool_get c l.length i (by omega)
    have hs := ih (i + 1) (out.set i ((mkBool c l.length).getD i false)) (by omega) (by simpa using ho) (set_keeps _ out false i (by rw [mkBool_length]; omega) (by rw [mkBool_length, ho]) h)
    rw [List.getD_eq_getElem?_getD, hg] at hs
    simp only [Option.getD_some] at hs
    have e1 : c + (i : Int) + 1 = c + ((i + 1 : Nat) : Int) := by omega
    rw [e1]
    exact hs
theorem markBool_ev (l : List Bool) (c : Int) (hc : 0 ≤ c) (hc2 : c ≤ 100000000) (hl : l.length ≤ 1048576) : Ev (fun k => laws_markBoolS.f k l c) (c + (l.length : Int), mkBool c l.length) := by
  simp only [laws_markBoolS.f]
  have h := markBool_loop l c hc hc2 hl l.length 0 l (by omega) rfl (fun j hj => by omega)
  have e : c + ((0 : Nat) : Int) = c := by omega
  rw [e] at h
  exact h

theorem heldBool_loop (c : Int) (n : Nat) (hc : 0 ≤ c) (hc2 : c ≤ 100000000) (hn : n ≤ 1048576) : ∀ (m i : Nat), i + m = n → Ev (fun k => laws_heldBoolS.l0 k (mkBool c n) (c + (i : Int)) (i : Int)) (c + (n : Int)) := by
  intro m
  induction m with
  | zero =>
    intro i hi
    refine ev_succ ?_
    simp only [laws_heldBoolS.l0]
    exact ev_neg (by rw [mkBool_length]; omega) (ev_of (by rw [show i = n by omega]))
  | succ m ih =>
    intro i hi
    refine ev_succ ?_
    simp only [laws_heldBoolS.l0]
    refine ev_pos (by rw [mkBool_length]; omega) (ev_pos (by omega) ?_)
    have hg := mkBool_get c n i (by omega)
    refine ev_neg (by simp [rdOf, List.getD_eq_getElem?_getD, hg]) ?_
    rw [wrap_small (by omega) (by omega), wrap_small (by omega) (by omega)]
    have e1 : c + (i : Int) + 1 = c + ((i + 1 : Nat) : Int) := by omega
    rw [e1]
    exact ih (i + 1) (by omega)
theorem heldBool_ev (c : Int) (n : Nat) (hc : 0 ≤ c) (hc2 : c ≤ 100000000) (hn : n ≤ 1048576) : Ev (fun k => laws_heldBoolS.f k (mkBool c n) c) (c + (n : Int)) := by
  simp only [laws_heldBoolS.f]
  have h := heldBool_loop c n hc hc2 hn n 0 (by omega)
  have e : c + ((0 : Nat) : Int) = c := by omega
  rw [e] at h
  exact h

theorem inS (a b c : Int) : spec_l1In.f a b c = some (decide (b ≤ a) && decide (a ≤ c)) := by
  unfold spec_l1In.f
  by_cases h : a ≥ b
  · rw [if_pos h]; simp [show b ≤ a from h]
  · rw [if_neg h]; simp [show ¬ b ≤ a from h]
theorem inI (a b c : Int) : impl_in.f a b c = some (decide (b ≤ a) && decide (a ≤ c)) := by
  unfold impl_in.f
  by_cases h : a ≥ b
  · rw [if_pos h]; simp [show b ≤ a from h]
  · rw [if_neg h]; simp [show ¬ b ≤ a from h]

/-- Is a timer valid? -/
def tvalid (k p e : Int) : Bool := (decide (1 ≤ k) && decide (k ≤ 3)) && ((decide (0 ≤ p) && decide (p ≤ 10000)) && (decide (0 ≤ e) && decide (e ≤ p)))
theorem tvS (k p e : Int) (b o : Bool) : spec_TimerValid.f k p e b o = some (tvalid k p e) := by
  unfold spec_TimerValid.f tvalid
  rw [inS, Option.bind_some, inS, Option.bind_some, inS]
  cases (decide (1 ≤ k) && decide (k ≤ 3)) <;> cases (decide (0 ≤ p) && decide (p ≤ 10000)) <;> simp
theorem tvI (k p e : Int) (b o : Bool) : impl_TimerValid.f k p e b o = some (tvalid k p e) := by
  unfold impl_TimerValid.f tvalid
  rw [inI, Option.bind_some, inI, Option.bind_some, inI]
  cases (decide (1 ≤ k) && decide (k ≤ 3)) <;> cases (decide (0 ≤ p) && decide (p ≤ 10000)) <;> simp

/-- A step of a timer: the elapsed time and the output behind it. -/
abbrev P := impl_Timer_step.pair
theorem mn_comm (a b : Int) : mn a b = mn b a := by unfold mn; split <;> split <;> omega
theorem l5 (k p e dt : Int) (b o i : Bool) (hk : 1 ≤ k) (hk3 : k ≤ 3) : spec_l5Step.f k p e b o i dt = some (k, p, (P k p e b o i dt).1, i, (P k p e b o i dt).2) := by
  unfold spec_l5Step.f P impl_Timer_step.pair
  rw [mn_comm p]
  have hc : k = 1 ∨ k = 2 ∨ k = 3 := by omega
  rcases hc with rfl | rfl | rfl
  · cases i <;> cases b <;> simp
  · cases i <;> cases o <;> simp
  · by_cases h : e < p
    · cases i <;> cases o <;> cases b <;> simp [h, show ¬ p ≤ e by omega]
    · cases i <;> cases o <;> cases b <;> simp [h, show p ≤ e by omega]
theorem stepI (k p e dt : Int) (b o i : Bool) : impl_Timer_step.f k p e b o i dt = some (k, p, (P k p e b o i dt).1, i, (P k p e b o i dt).2) := rfl
theorem tv_kind {k p e : Int} (h : tvalid k p e = true) : 1 ≤ k ∧ k ≤ 3 := by
  simp [tvalid] at h
  omega

/-- The outputs of a timer. -/
def tr (k p dt : Int) : Int → Bool → Bool → List Bool → List Bool
  | _, _, _, [] => []
  | e, b, o, x :: r => (P k p e b o x dt).2 :: tr k p dt (P k p e b o x dt).1 x (P k p e b o x dt).2 r
theorem tr_length (k p dt : Int) : ∀ (l : List Bool) (e : Int) (b o : Bool), (tr k p dt e b o l).length = l.length
  | [], _, _, _ => rfl
  | x :: r, e, b, o => by simp [tr, tr_length k p dt r]
def trR (k p e : Int) (b o : Bool) (l : List Bool) (dt : Int) : List Bool := if tvalid k p e = true ∧ (decide (0 ≤ dt) && decide (dt ≤ 1000)) = true ∧ l.length ≤ 200 then tr k p dt e b o l else []
theorem trR_len (k p e : Int) (b o : Bool) (l : List Bool) (dt : Int) : (trR k p e b o l dt).length ≤ l.length := by
  unfold trR
  split
  · rw [tr_length]; omega
  · simp
theorem trSL (k p dt : Int) (hk : 1 ≤ k) (hk3 : k ≤ 3) (l : List Bool) (hl : l.length ≤ 200) : ∀ (r q out : List Bool) (e : Int) (b o : Bool), l = q ++ r → out.length = q.length → Ev (fun n => spec_TimerTrace.l0 n l dt out (q.length : Int) k p e b o) (out ++ tr k p dt e b o r) := by
  intro r
  induction r with
  | nil =>
    intro q out e b o hp ho
    refine ev_succ ?_
    simp only [spec_TimerTrace.l0]
    have : l.length = q.length := by rw [hp]; simp
    exact ev_neg (by omega) (ev_of (by simp [tr]))
  | cons x r ih =>
    intro q out e b o hp ho
    refine ev_succ ?_
    simp only [spec_TimerTrace.l0]
    have hll : l.length = q.length + (r.length + 1) := by rw [hp]; simp
    have hv : rdOf false l (q.length : Int) = x := by simp [rdOf, hp]
    refine ev_pos (by omega) (ev_pos (by omega) ?_)
    rw [hv, l5 k p e dt b o x hk hk3]
    refine ev_some (ev_pos (by omega) ?_)
    rw [wrap_small (by omega) (by omega)]
    have h := ih (q ++ [x]) (out ++ [(P k p e b o x dt).2]) (P k p e b o x dt).1 x (P k p e b o x dt).2 (by simp [hp]) (by simp [ho])
    simpa [tr] using h
theorem trS (k p e dt : Int) (b o : Bool) (l : List Bool) (hn : l.length ≤ 1048576) : Ev (fun n => spec_TimerTrace.f n k p e b o l dt) (trR k p e b o l dt) := by
  simp only [spec_TimerTrace.f]
  rw [tvS, inS]
  refine ev_some (ev_some ?_)
  unfold trR
  cases hv : tvalid k p e
  · refine ev_neg (by simp) (ev_succ ?_)
    simp only [spec_TimerTrace.j0]
    exact ev_pos trivial (ev_of (by simp))
  · have hk := tv_kind hv
    refine ev_pos rfl (ev_some ?_)
    cases hd : (decide (0 ≤ dt) && decide (dt ≤ 1000))
    · refine ev_neg (by simp) (ev_succ ?_)
      simp only [spec_TimerTrace.j0]
      exact ev_pos trivial (ev_of (by simp))
    · refine ev_pos rfl (ev_succ ?_)
      simp only [spec_TimerTrace.j0]
      by_cases h : (l.length : Int) > 200
      · refine ev_pos (by simpa using h) (ev_of ?_)
        rw [if_neg (by omega)]
      · refine ev_neg (by simpa using h) ?_
        rw [if_pos (by refine ⟨?_, ?_, ?_⟩ <;> first | rfl | trivial | omega)]
        exact trSL k p dt hk.1 hk.2 l (by omega) l [] [] e b o rfl rfl
theorem trIL (k p dt : Int) (l : List Bool) (hl : l.length ≤ 200) (W : List Bool) (hW : W.length = l.length) : ∀ (r q out : List Bool) (e : Int) (b o : Bool), l = q ++ r → out.length = l.length → (∀ j, j < q.length → out[j]? = W[j]?) → tr k p dt e b o r = W.drop q.length →
    Ev (fun n => impl_TimerTrace.l0 n dt out l (l.length : Int) (q.length : Int) k p e b o) W := by
  intro r
  induction r with
  | nil =>
    intro q out e b o hp ho hk hd
    refine ev_succ ?_
    simp only [impl_TimerTrace.l0]
    have : l.length = q.length := by rw [hp]; simp
    exact ev_neg (by omega) (ev_of (congrArg some (all_kept _ _ (by omega) (fun j hj => hk j (by omega)))))
  | cons x r ih =>
    intro q out e b o hp ho hk hd
    refine ev_succ ?_
    simp only [impl_TimerTrace.l0]
    have hll : l.length = q.length + (r.length + 1) := by rw [hp]; simp
    have hv : rdOf false l (q.length : Int) = x := by simp [rdOf, hp]
    refine ev_pos (by omega) (ev_pos (by omega) (ev_pos (by omega) ?_))
    rw [hv, stepI]
    refine ev_some (ev_pos (by omega) ?_)
    rw [wrap_small (by omega) (by omega)]
    have hdr : W.drop q.length = (P k p e b o x dt).2 :: tr k p dt (P k p e b o x dt).1 x (P k p e b o x dt).2 r := hd.symm
    have hw : W.getD q.length false = (P k p e b o x dt).2 := by
      have := congrArg (fun x => x[0]?) hdr
      simp at this
      rw [List.getD_eq_getElem?_getD, this]
      rfl
    have hs := set_keeps W out false q.length (by omega) (by omega) hk
    rw [hw] at hs
    have h2 := ih (q ++ [x]) (out.set q.length (P k p e b o x dt).2) (P k p e b o x dt).1 x (P k p e b o x dt).2 (by simp [hp]) (by simpa using ho) (fun j hj => hs j (by simpa using hj)) (by
      have := congrArg (List.drop 1) hdr
      simp at this
      simp [this])
    simpa using h2
theorem trI (k p e dt : Int) (b o : Bool) (l : List Bool) (hn : l.length ≤ 1048576) : Ev (fun n => impl_TimerTrace.f n k p e b o l dt) (trR k p e b o l dt) := by
  simp only [impl_TimerTrace.f]
  rw [tvI]
  refine ev_some ?_
  unfold trR
  cases hv : tvalid k p e
  · refine ev_neg (by simp) (ev_succ ?_)
    simp only [impl_TimerTrace.j0]
    exact ev_pos trivial (ev_of (by simp))
  · refine ev_pos rfl ?_
    by_cases h : (l.length : Int) > 200
    · refine ev_pos h (ev_succ ?_)
      simp only [impl_TimerTrace.j0]
      refine ev_pos trivial (ev_of ?_)
      rw [if_neg (by omega)]
    · refine ev_neg h ?_
      rw [inI]
      refine ev_some (ev_succ ?_)
      simp only [impl_TimerTrace.j0]
      cases hd : (decide (0 ≤ dt) && decide (dt ≤ 1000))
      · exact ev_pos rfl (ev_of (by simp))
      · refine ev_neg (by simp) (ev_pos (by omega) (ev_pos (by omega) ?_))
        rw [if_pos (by refine ⟨?_, ?_, ?_⟩ <;> first | rfl | trivial | omega)]
        have := trIL k p dt l (by omega) (tr k p dt e b o l) (tr_length k p dt l e b o) l [] (List.replicate ((l.length : Int)).toNat false) e b o rfl (by simp) (fun j hj => by simp at hj) rfl
        simpa using this

theorem pure_holds : Pure := by
  intro k p e b o l dt _ _ _ _ _
  refine Ev.rounds ?_
  simp only [laws_FnExactTimerTrace.f, laws_toTimer.f]
  by_cases hb : (l.length : Int) > 1048576
  · exact ev_pos hb (ev_of rfl)
  · have hn : l.length ≤ 1048576 := by omega
    refine ev_neg hb (ev_some ?_)
    have hR := trR_len k p e b o l dt
    refine Ev.bind (toBool_ev l hn) ?_
    refine Ev.bind (trS k p e dt b o l hn) ?_
    refine Ev.bind (toBool_ev l hn) (ev_some ?_)
    refine Ev.bind (trI k p e dt b o l hn) ?_
    refine Ev.bind (eqBool_ev _ (by omega)) ?_
    refine ev_pos rfl ?_
    refine Ev.bind (toBool_ev l hn) ?_
    refine Ev.bind (eqBool_ev l hn) ?_
    refine ev_pos rfl ?_
    refine Ev.bind (markBool_ev l 1 (by omega) (by omega) hn) ?_
    refine ev_neg (by show ¬ (1 + (l.length : Int) < 0); omega) ?_
    refine Ev.bind (eqBool_ev _ (by omega)) ?_
    refine ev_succ ?_
    simp only [laws_FnExactTimerTrace.j0, laws_toTimer.f]
    refine ev_neg (by simp) ?_
    refine Ev.bind (markBool_ev _ 1 (by omega) (by omega) (by omega)) ?_
    refine Ev.bind (heldBool_ev 1 _ (by omega) (by omega) (by omega)) ?_
    refine ev_neg (by omega) (ev_pos rfl (ev_some ?_))
    refine Ev.bind (toBool_ev l hn) ?_
    refine Ev.bind (trI k p e dt b o l hn) ?_
    refine Ev.bind (eqBool_ev _ (by omega)) ?_
    refine ev_pos rfl ?_
    refine Ev.bind (heldBool_ev 1 _ (by omega) (by omega) (by omega)) ?_
    refine ev_neg (by omega) (ev_pos rfl (ev_of rfl))

end Go.Proofs.Ytflemeaaiokjmaa.fnExactTimerTrace

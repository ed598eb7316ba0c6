/- The law FnExactControlTrace answers true for every controller, every number and every list of numbers; no condition but that the numbers are of their kind. -/
import Derived.Test.YtimmlippglpmnaaStFnExactControlTrace
namespace Go.Proofs.Ytimmlippglpmnaa.fnExactControlTrace
open Go.RowKit Go.Proofs.Ytimmlippglpmnaa.GFnExactControlTrace Go.Proofs.YtimmlippglpmnaaV.PrintWords Go.Proofs.YtimmlippglpmnaaV.PrintLast Go.Proofs.YtimmlippglpmnaaV.PrintMore
set_option linter.unusedVariables false
set_option linter.unusedSimpArgs false

theorem ev_succ {α : Type} {g : Nat → Option α} {r : α} (h : Ev (fun k => g (k + 1)) r) : Ev g r := Ev.step (fun _ => rfl) h
theorem ev_pos {α : Type} {c : Prop} [Decidable c] {g f : Nat → Option α} {r : α} (hc : c) (h : Ev g r) : Ev (fun k => if c then g k else f k) r := Ev.congr (fun _ => if_pos hc) h
theorem ev_neg {α : Type} {c : Prop} [Decidable c] {g f : Nat → Option α} {r : α} (hc : ¬ c) (h : Ev f r) : Ev (fun k => if c then g k else f k) r := Ev.congr (fun _ => if_neg hc) h
theorem ev_some {α β : Type} {a : α} {f : Nat → α → Option β} {r : β} (h : Ev (fun k => f k a) r) : Ev (fun k => (some a).bind (f k)) r := h
theorem ev_of {α : Type} {a : Option α} {r : α} (h : a = some r) : Ev (fun _ => a) r := ⟨0, fun _ _ => h⟩
theorem ev_eq {α : Type} {g : Nat → Option α} {r r' : α} (h : Ev g r) (e : r = r') : Ev g r' := e ▸ h
theorem wrap_small {i : Int} (h0 : -9223372036854775808 ≤ i) (h1 : i ≤ 9223372036854775807) : wrap64 i = i := by unfold wrap64; omega
theorem wf_bounds {x : Int} (h : (Lit.int .i64 x).wf = true) : -9223372036854775808 ≤ x ∧ x ≤ 9223372036854775807 := by
  simp [Lit.wf, IntKind.min, IntKind.max, IntKind.signed, IntKind.bits] at h
  omega
theorem set_keeps {α : Type} (l out : List α) (d : α) (i : Nat) (hi : i < l.length) (ho : out.length = l.length) (h : ∀ j, j < i → out[j]? = l[j]?) : ∀ j, j < i + 1 → (out.set i (l.getD i d))[j]? = l[j]? := by
  intro j hj
  rw [List.getElem?_set]
  by_cases e : i = j
  · subst e
    rw [if_pos rfl, if_pos (by omega), List.getD_eq_getElem?_getD, List.getElem?_eq_getElem hi]
    rfl
  · rw [if_neg e]
    exact h j (by omega)
theorem all_kept {α : Type} (l out : List α) (ho : out.length = l.length) (h : ∀ j, j < l.length → out[j]? = l[j]?) : out = l := by
  apply List.ext_getElem?
  intro j
  by_cases hj : j < l.length
  · exact h j hj
  · rw [List.getElem?_eq_none (by omega), List.getElem?_eq_none (by omega)]

theorem toInt_loop (l : List Int) (hl : l.length ≤ 1048576) : ∀ (m i : Nat) (out : List Int), i + m = l.length → out.length = l.length → (∀ j, j < i → out[j]? = l[j]?) → Ev (fun k => laws_toIntS.l0 k l out (i : Int)) l := by
  intro m
  induction m with
  | zero =>
    intro i out hi ho h
    refine ev_succ ?_
    simp only [laws_toIntS.l0]
    refine ev_neg (by omega) ?_
    exact ev_of (congrArg some (all_kept l out ho (fun j hj => h j (by omega))))
  | succ m ih =>
    intro i out hi ho h
    refine ev_succ ?_
    simp only [laws_toIntS.l0]
    refine ev_pos (by omega) (ev_pos (by omega) (ev_pos (by omega) ?_))
    rw [wrap_small (by omega) (by omega)]
    have hs := ih (i + 1) (out.set i (l.getD i 0)) (by omega) (by simpa using ho) (set_keeps l out 0 i (by omega) ho h)
    simpa [rdOf, rd] using hs
theorem toInt_ev (l : List Int) (hl : l.length ≤ 1048576) : Ev (fun k => laws_toIntS.f k l) l := by
  simp only [laws_toIntS.f]
  refine ev_pos (by omega) (ev_pos (by omega) ?_)
  have h := toInt_loop l hl l.length 0 (List.replicate ((l.length : Int)).toNat 0) (by omega) (by simp) (fun j hj => by omega)
  exact h

theorem eqInt_loop (l : List Int) (hl : l.length ≤ 1048576) : ∀ (m i : Nat), i + m = l.length → Ev (fun k => laws_eqIntS.l0 k l l (i : Int)) true := by
  intro m
  induction m with
  | zero =>
    intro i hi
    refine ev_succ ?_
    simp only [laws_eqIntS.l0]
    exact ev_neg (by omega) (ev_of rfl)
  | succ m ih =>
    intro i hi
    refine ev_succ ?_
    simp only [laws_eqIntS.l0]
    refine ev_pos (by omega) (ev_pos (by omega) (ev_pos (by omega) ?_))
    refine ev_pos (by first | rfl | trivial) ?_
    rw [wrap_small (by omega) (by omega)]
    exact ih (i + 1) (by omega)
theorem eqInt_ev (l : List Int) (hl : l.length ≤ 1048576) : Ev (fun k => laws_eqIntS.f k l l) true := by
  simp only [laws_eqIntS.f]
  refine ev_pos (by first | rfl | trivial) ?_
  exact eqInt_loop l hl l.length 0 (by omega)

def mkInt (c : Int) (n : Nat) : List Int := (List.range n).map fun j : Nat => (c + (j : Int))
theorem mkInt_length (c : Int) (n : Nat) : (mkInt c n).length = n := by simp [mkInt]
theorem mkInt_get (c : Int) (n i : Nat) (h : i < n) : (mkInt c n)[i]? = some (c + (i : Int)) := by
  simp [mkInt, h]
theorem markInt_loop (l : List Int) (c : Int) (hc : 0 ≤ c) (hc2 : c ≤ 100000000) (hl : l.length ≤ 1048576) : ∀ (m i : Nat) (out : List Int), i + m = l.length → out.length = l.length → (∀ j, j < i → out[j]? = (mkInt c l.length)[j]?) →
    Ev (fun k => laws_markIntS.l0 k out (c + (i : Int)) (i : Int)) (c + (l.length : Int), mkInt c l.length) := by
  intro m
  induction m with
  | zero =>
    intro i out hi ho h
    refine ev_succ ?_
    simp only [laws_markIntS.l0]
    refine ev_neg (by omega) ?_
    have e : out = mkInt c l.length := all_kept _ _ (by rw [mkInt_length, ho]) (fun j hj => h j (by rw [mkInt_length] at hj; omega))
    exact ev_of (by rw [e, show i = l.length by omega])
  | succ m ih =>
    intro i out hi ho h
    refine ev_succ ?_
    simp only [laws_markIntS.l0]
    refine ev_pos (by omega) (ev_pos (by omega) ?_)
    rw [wrap_small (by omega) (by omega), wrap_small (by omega) (by omega)]
    have hg := mkInt_get c l.length i (by omega)
    have hs := ih (i + 1) (out.set i ((mkInt c l.length).getD i 0)) (by omega) (by simpa using ho) (set_keeps _ out 0 i (by rw [mkInt_length]; omega) (by rw [mkInt_length, ho]) h)
    rw [List.getD_eq_getElem?_getD, hg] at hs
    simp only [Option.getD_some] at hs
    have e1 : c + (i : Int) + 1 = c + ((i + 1 : Nat) : Int) := by omega
    rw [e1]
    exact hs
theorem markInt_ev (l : List Int) (c : Int) (hc : 0 ≤ c) (hc2 : c ≤ 100000000) (hl : l.length ≤ 1048576) : Ev (fun k => laws_markIntS.f k l c) (c + (l.length : Int), mkInt c l.length) := by
  simp only [laws_markIntS.f]
  have h := markInt_loop l c hc hc2 hl l.length 0 l (by omega) rfl (fun j hj => by omega)
  have e : c + ((0 : Nat) : Int) = c := by omega
  rw [e] at h
  exact h

theorem heldInt_loop (c : Int) (n : Nat) (hc : 0 ≤ c) (hc2 : c ≤ 100000000) (hn : n ≤ 1048576) : ∀ (m i : Nat), i + m = n → Ev (fun k => laws_heldIntS.l0 k (mkInt c n) (c + (i : Int)) (i : Int)) (c + (n : Int)) := by
  intro m
  induction m with
  | zero =>
    intro i hi
    refine ev_succ ?_
    simp only [laws_heldIntS.l0]
    exact ev_neg (by rw [mkInt_length]; omega) (ev_of (by rw [show i = n by omega]))
  | succ m ih =>
    intro i hi
    refine ev_succ ?_
    simp only [laws_heldIntS.l0]
    refine ev_pos (by rw [mkInt_length]; omega) (ev_pos (by omega) ?_)
    have hg := mkInt_get c n i (by omega)
    refine ev_pos (by simp [rd, List.getD_eq_getElem?_getD, hg]) ?_
    rw [wrap_small (by omega) (by omega), wrap_small (by omega) (by omega)]
    have e1 : c + (i : Int) + 1 = c + ((i + 1 : Nat) : Int) := by omega
    rw [e1]
    exact ih (i + 1) (by omega)
theorem heldInt_ev (c : Int) (n : Nat) (hc : 0 ≤ c) (hc2 : c ≤ 100000000) (hn : n ≤ 1048576) : Ev (fun k => laws_heldIntS.f k (mkInt c n) c) (c + (n : Int)) := by
  simp only [laws_heldIntS.f]
  have h := heldInt_loop c n hc hc2 hn n 0 (by omega)
  have e : c + ((0 : Nat) : Int) = c := by omega
  rw [e] at h
  exact h

theorem inS (a b c : Int) : spec_l1In.f a b c = some (decide (b ≤ a) && decide (a ≤ c)) := by
  unfold spec_l1In.f
  by_cases h : a ≥ b
  · rw [if_pos h]; simp [show b ≤ a from h]
  · rw [if_neg h]; simp [show ¬ b ≤ a from h]
/-- Is a number a word? -/
def word (x : Int) : Bool := decide (-32768 ≤ x) && decide (x ≤ 32767)
theorem word_iff (x : Int) : word x = true ↔ -32768 ≤ x ∧ x ≤ 32767 := by simp [word]
theorem wS (x : Int) : spec_l7Word.f x = some (word x) := by
  unfold spec_l7Word.f
  rw [inS]
  rfl
theorem areW (l : List Int) : impl_areWords.f l = some (l.all word) := by
  unfold impl_areWords.f
  have : l.all word = !l.any impl_areWords.bad := by
    induction l with
    | nil => rfl
    | cons x r ih =>
      rw [List.all_cons, List.any_cons, ih]
      simp [impl_areWords.bad, word]
  rw [this]

theorem inI (a b c : Int) : impl_in.f a b c = some (decide (b ≤ a) && decide (a ≤ c)) := by
  unfold impl_in.f
  by_cases h : a ≥ b
  · rw [if_pos h]; simp [show b ≤ a from h]
  · rw [if_neg h]; simp [show ¬ b ≤ a from h]

/-- Is a controller valid? -/
def cval (kp ki kd lo hi su la : Int) : Bool := (decide (0 ≤ kp) && decide (kp ≤ 4096)) && ((decide (0 ≤ ki) && decide (ki ≤ 4096)) && ((decide (0 ≤ kd) && decide (kd ≤ 4096)) && (word lo && (word hi && (decide (lo ≤ hi) && ((decide (wrap64 (256 * lo) ≤ su) && decide (su ≤ wrap64 (256 * hi))) && word la))))))
theorem cvS (kp ki kd lo hi su la : Int) : spec_ControlValid.f kp ki kd lo hi su la = some (cval kp ki kd lo hi su la) := by
  unfold spec_ControlValid.f cval
  simp only [inS, wS, Option.bind_some]
  generalize (decide (0 ≤ kp) && decide (kp ≤ 4096)) = b1
  generalize (decide (0 ≤ ki) && decide (ki ≤ 4096)) = b2
  generalize (decide (0 ≤ kd) && decide (kd ≤ 4096)) = b3
  generalize (decide (wrap64 (256 * lo) ≤ su) && decide (su ≤ wrap64 (256 * hi))) = b4
  generalize word lo = b5
  generalize word hi = b6
  generalize word la = b7
  by_cases h : lo ≤ hi
  · cases b1 <;> cases b2 <;> cases b3 <;> cases b4 <;> cases b5 <;> cases b6 <;> cases b7 <;> simp [h]
  · cases b1 <;> cases b2 <;> cases b3 <;> cases b4 <;> cases b5 <;> cases b6 <;> cases b7 <;> simp [h]
theorem cvI (kp ki kd lo hi su la : Int) : impl_ControlValid.f kp ki kd lo hi su la = some (cval kp ki kd lo hi su la) := by
  unfold impl_ControlValid.f cval
  simp only [inI, areW, Option.bind_some, List.all_cons, List.all_nil, Bool.and_true]
  generalize (decide (0 ≤ kp) && decide (kp ≤ 4096)) = b1
  generalize (decide (0 ≤ ki) && decide (ki ≤ 4096)) = b2
  generalize (decide (0 ≤ kd) && decide (kd ≤ 4096)) = b3
  generalize (decide (wrap64 (256 * lo) ≤ su) && decide (su ≤ wrap64 (256 * hi))) = b4
  generalize word lo = b5
  generalize word hi = b6
  generalize word la = b7
  by_cases h : lo ≤ hi
  · cases b1 <;> cases b2 <;> cases b3 <;> cases b4 <;> cases b5 <;> cases b6 <;> cases b7 <;> simp [h]
  · cases b1 <;> cases b2 <;> cases b3 <;> cases b4 <;> cases b5 <;> cases b6 <;> cases b7 <;> simp [h]

/-- A quotient, rounded down, as Go's text has it. -/
def flo (a b : Int) : Int := if Int.tmod a b < 0 then wrap64 (wrap64 (Int.tdiv a b) - 1) else wrap64 (Int.tdiv a b)
theorem floS (a b : Int) (h : b ≠ 0) : spec_l7Floor.f a b = some (flo a b) := by
  unfold spec_l7Floor.f flo
  rw [if_neg h]
  split <;> rfl
theorem floI (a b : Int) (h : b ≠ 0) : impl_floor.f a b = some (flo a b) := by
  unfold impl_floor.f flo
  rw [if_neg h]
  split <;> rfl

/-- The integral behind a step. -/
def csum (ki lo hi su want have_ : Int) : Int := mx (wrap64 (256 * lo)) (mn (wrap64 (256 * hi)) (wrap64 (su + wrap64 (ki * wrap64 (want - have_)))))
/-- The output of a step. -/
def cout (kp ki kd lo hi su la want have_ : Int) : Int := mx lo (mn hi (flo (wrap64 (wrap64 (wrap64 (kp * wrap64 (want - have_)) + csum ki lo hi su want have_) - wrap64 (kd * wrap64 (have_ - la)))) 256))
theorem stepS (kp ki kd lo hi su la want have_ : Int) : spec_l8Step.f kp ki kd lo hi su la want have_ = some (kp, ki, kd, lo, hi, csum ki lo hi su want have_, have_, cout kp ki kd lo hi su la want have_) := by
  unfold spec_l8Step.f
  simp only [spec_l1Clip.f, Option.bind_some, floS _ 256 (by decide)]
  rfl
theorem cval_bounds {kp ki kd lo hi su la : Int} (h : cval kp ki kd lo hi su la = true) : (-32768 ≤ lo ∧ lo ≤ 32767) ∧ (-32768 ≤ hi ∧ hi ≤ 32767) ∧ lo ≤ hi := by
  simp only [cval, Bool.and_eq_true, word_iff, decide_eq_true_eq] at h
  omega
theorem stepI (kp ki kd lo hi su la want have_ : Int) : Ev (fun k => impl_ControlStep.f k kp ki kd lo hi su la want have_) (if cval kp ki kd lo hi su la && (word want && word have_) then (kp, ki, kd, lo, hi, csum ki lo hi su want have_, have_, cout kp ki kd lo hi su la want have_) else (0, 0, 0, 0, 0, 0, 0, 0)) := by
  simp only [impl_ControlStep.f]
  rw [cvI]
  refine ev_some ?_
  cases hv : cval kp ki kd lo hi su la
  · refine ev_neg (by simp) (ev_succ ?_)
    simp only [impl_ControlStep.j0]
    exact ev_pos trivial (ev_of rfl)
  · refine ev_pos rfl ?_
    rw [areW]
    refine ev_some (ev_succ ?_)
    simp only [impl_ControlStep.j0, List.all_cons, List.all_nil, Bool.and_true]
    cases hw : (word want && word have_)
    · exact ev_pos rfl (ev_of rfl)
    · refine ev_neg (by simp) (ev_of ?_)
      have hb := cval_bounds hv
      simp only [impl_Control_bound.f, Option.bind_some, floI _ 256 (by decide), Int.one_mul, wrap_small (i := lo) (by omega) (by omega), wrap_small (i := hi) (by omega) (by omega)]
      rfl

theorem wI (x : Int) : impl_isWord.f x = some (word x) := by
  unfold impl_isWord.f
  rw [inI]
  rfl
theorem cval_step {kp ki kd lo hi su la want x : Int} (h : cval kp ki kd lo hi su la = true) (hx : word x = true) : cval kp ki kd lo hi (csum ki lo hi su want x) x = true := by
  have hb := cval_bounds h
  have e1 : wrap64 (256 * lo) = 256 * lo := wrap_small (by omega) (by omega)
  have e2 : wrap64 (256 * hi) = 256 * hi := wrap_small (by omega) (by omega)
  simp only [cval, Bool.and_eq_true, word_iff, decide_eq_true_eq] at h hx ⊢
  rw [e1, e2] at h ⊢
  have e3 : 256 * lo ≤ csum ki lo hi su want x ∧ csum ki lo hi su want x ≤ 256 * hi := by
    unfold csum
    rw [e1, e2]
    generalize wrap64 (su + wrap64 (ki * wrap64 (want - x))) = z
    unfold mx mn
    (repeat' split) <;> omega
  omega
/-- The outputs of a controller. -/
def outs (kp ki kd lo hi : Int) (want : Int) : Int → Int → List Int → List Int
  | _, _, [] => []
  | su, la, x :: r => cout kp ki kd lo hi su la want x :: outs kp ki kd lo hi want (csum ki lo hi su want x) x r
theorem outs_length (kp ki kd lo hi want : Int) : ∀ (l : List Int) (su la : Int), (outs kp ki kd lo hi want su la l).length = l.length
  | [], _, _ => rfl
  | x :: r, su, la => by simp [outs, outs_length kp ki kd lo hi want r]
def traceR (kp ki kd lo hi su la want : Int) (l : List Int) : List Int := if cval kp ki kd lo hi su la = true ∧ word want = true ∧ l.length ≤ 200 ∧ l.all word = true then outs kp ki kd lo hi want su la l else []
theorem traceR_len (kp ki kd lo hi su la want : Int) (l : List Int) : (traceR kp ki kd lo hi su la want l).length ≤ l.length := by
  unfold traceR
  split
  · rw [outs_length]; omega
  · simp
theorem specL (kp ki kd lo hi want : Int) (l : List Int) (hl : l.length ≤ 200) : ∀ (r p : List Int) (out : List Int) (su la : Int), l = p ++ r → out.length = p.length →
    Ev (fun k => spec_ControlTrace.l0 k want l out (p.length : Int) kp ki kd lo hi su la) (if r.all word then out ++ outs kp ki kd lo hi want su la r else []) := by
  intro r
  induction r with
  | nil =>
    intro p out su la hp ho
    refine ev_succ ?_
    simp only [spec_ControlTrace.l0]
    have : l.length = p.length := by rw [hp]; simp
    exact ev_neg (by omega) (ev_of (by simp [outs]))
  | cons x r ih =>
    intro p out su la hp ho
    refine ev_succ ?_
    simp only [spec_ControlTrace.l0]
    have hll : l.length = p.length + (r.length + 1) := by rw [hp]; simp
    have hx : rd l (p.length : Int) = x := by simp [rd, hp]
    refine ev_pos (by omega) (ev_pos (by omega) ?_)
    rw [hx, wS]
    refine ev_some ?_
    cases hw : word x
    · exact ev_neg (by simp) (ev_of (by simp [hw]))
    · refine ev_pos rfl ?_
      rw [stepS]
      refine ev_some (ev_pos (by omega) ?_)
      rw [wrap_small (by omega) (by omega)]
      have h := ih (p ++ [x]) (out ++ [cout kp ki kd lo hi su la want x]) (csum ki lo hi su want x) x (by simp [hp]) (by simp [ho])
      simpa [outs, hw] using h
theorem traceS (kp ki kd lo hi su la want : Int) (l : List Int) (hn : l.length ≤ 1048576) : Ev (fun k => spec_ControlTrace.f k kp ki kd lo hi su la want l) (traceR kp ki kd lo hi su la want l) := by
  simp only [spec_ControlTrace.f]
  rw [cvS, wS]
  refine ev_some (ev_some ?_)
  unfold traceR
  cases hv : cval kp ki kd lo hi su la
  · refine ev_neg (by simp) (ev_succ ?_)
    simp only [spec_ControlTrace.j0]
    exact ev_pos trivial (ev_of (by simp))
  · refine ev_pos rfl (ev_some ?_)
    cases hw : word want
    · refine ev_neg (by simp) (ev_succ ?_)
      simp only [spec_ControlTrace.j0]
      exact ev_pos trivial (ev_of (by simp))
    · refine ev_pos rfl (ev_succ ?_)
      simp only [spec_ControlTrace.j0]
      by_cases h : (l.length : Int) > 200
      · refine ev_pos (by simpa using h) (ev_of ?_)
        rw [if_neg (by omega)]
      · refine ev_neg (by simpa using h) ?_
        refine ev_eq (specL kp ki kd lo hi want l (by omega) l [] [] su la rfl rfl) ?_
        cases ha : l.all word
        · simp
        · rw [if_pos rfl, if_pos (by refine ⟨?_, ?_, ?_, ?_⟩ <;> first | rfl | trivial | omega)]
          rfl
theorem implL (kp ki kd lo hi want : Int) (hwant : word want = true) (l : List Int) (hl : l.length ≤ 200) (W : List Int) (hW : W.length = l.length) : ∀ (r p : List Int) (out : List Int) (su la : Int), l = p ++ r → r.all word = true → cval kp ki kd lo hi su la = true → out.length = l.length → (∀ j, j < p.length → out[j]? = W[j]?) → outs kp ki kd lo hi want su la r = W.drop p.length →
    Ev (fun k => impl_ControlTrace.l0 k want out l (l.length : Int) (p.length : Int) kp ki kd lo hi su la) W := by
  intro r
  induction r with
  | nil =>
    intro p out su la hp ha hv ho hk hd
    refine ev_succ ?_
    simp only [impl_ControlTrace.l0]
    have : l.length = p.length := by rw [hp]; simp
    exact ev_neg (by omega) (ev_of (congrArg some (all_kept _ _ (by omega) (fun j hj => hk j (by omega)))))
  | cons x r ih =>
    intro p out su la hp ha hv ho hk hd
    refine ev_succ ?_
    simp only [impl_ControlTrace.l0]
    have hll : l.length = p.length + (r.length + 1) := by rw [hp]; simp
    have hx : rd l (p.length : Int) = x := by simp [rd, hp]
    have ha' : word x = true ∧ r.all word = true := by simpa using ha
    refine ev_pos (by omega) (ev_pos (by omega) (ev_pos (by omega) ?_))
    rw [hx]
    refine Ev.bind (ev_eq (stepI kp ki kd lo hi su la want x) (if_pos (by rw [hv, hwant, ha'.1]; rfl))) ?_
    refine ev_pos (by omega) ?_
    rw [wrap_small (by omega) (by omega)]
    have hdr : W.drop p.length = cout kp ki kd lo hi su la want x :: outs kp ki kd lo hi want (csum ki lo hi su want x) x r := hd.symm
    have hw : W.getD p.length 0 = cout kp ki kd lo hi su la want x := by
      have := congrArg (fun x => x[0]?) hdr
      simp at this
      rw [List.getD_eq_getElem?_getD, this]
      rfl
    have hs := set_keeps W out 0 p.length (by omega) (by omega) hk
    rw [hw] at hs
    have h2 := ih (p ++ [x]) (out.set p.length (cout kp ki kd lo hi su la want x)) (csum ki lo hi su want x) x (by simp [hp]) ha'.2 (cval_step hv ha'.1) (by simpa using ho) (fun j hj => hs j (by simpa using hj)) (by
      have := congrArg (List.drop 1) hdr
      simp at this
      simp [this])
    simpa using h2
theorem traceI (kp ki kd lo hi su la want : Int) (l : List Int) (hn : l.length ≤ 1048576) : Ev (fun k => impl_ControlTrace.f k kp ki kd lo hi su la want l) (traceR kp ki kd lo hi su la want l) := by
  simp only [impl_ControlTrace.f]
  rw [cvI, wI]
  refine ev_some ?_
  unfold traceR
  cases hv : cval kp ki kd lo hi su la
  · refine ev_neg (by simp) (ev_succ ?_)
    simp only [impl_ControlTrace.j0]
    exact ev_pos trivial (ev_of (by simp))
  · refine ev_pos rfl (ev_some ?_)
    cases hw : word want
    · refine ev_neg (by simp) (ev_succ ?_)
      simp only [impl_ControlTrace.j0]
      exact ev_pos trivial (ev_of (by simp))
    · refine ev_pos rfl ?_
      by_cases h : (l.length : Int) > 200
      · refine ev_pos h (ev_succ ?_)
        simp only [impl_ControlTrace.j0]
        refine ev_pos trivial (ev_of ?_)
        rw [if_neg (by omega)]
      · refine ev_neg h ?_
        rw [areW]
        refine ev_some (ev_succ ?_)
        simp only [impl_ControlTrace.j0]
        cases ha : l.all word
        · exact ev_pos rfl (ev_of (by simp))
        · refine ev_neg (by simp) (ev_pos (by omega) (ev_pos (by omega) ?_))
          rw [if_pos (by refine ⟨?_, ?_, ?_, ?_⟩ <;> first | rfl | trivial | omega)]
          have := implL kp ki kd lo hi want hw l (by omega) (outs kp ki kd lo hi want su la l) (outs_length _ _ _ _ _ _ l su la) l [] (List.replicate ((l.length : Int)).toNat 0) su la rfl ha hv (by simp) (fun j hj => by simp at hj) rfl
          simpa using this

theorem pure_holds : Pure := by
  intro kp ki kd lo hi su la want l _ _ _ _ _ _ _ _ _
  refine Ev.rounds ?_
  simp only [laws_FnExactControlTrace.f, laws_toControl.f]
  by_cases hb : (l.length : Int) > 1048576
  · exact ev_pos hb (ev_of rfl)
  · have hn : l.length ≤ 1048576 := by omega
    refine ev_neg hb ?_
    have hR := traceR_len kp ki kd lo hi su la want l
    refine ev_some ?_
    refine Ev.bind (toInt_ev l hn) ?_
    refine Ev.bind (traceS kp ki kd lo hi su la want l hn) ?_
    refine Ev.bind (toInt_ev l hn) ?_
    refine ev_some ?_
    refine Ev.bind (traceI kp ki kd lo hi su la want l hn) ?_
    refine Ev.bind (eqInt_ev _ (by omega)) ?_
    refine ev_pos rfl ?_
    refine Ev.bind (toInt_ev l hn) ?_
    refine Ev.bind (eqInt_ev l hn) ?_
    refine ev_pos rfl ?_
    refine Ev.bind (markInt_ev l 1 (by omega) (by omega) hn) ?_
    refine ev_neg (by show ¬ (1 + (l.length : Int) < 0); omega) ?_
    refine Ev.bind (eqInt_ev _ (by omega)) ?_
    refine ev_succ ?_
    simp only [laws_FnExactControlTrace.j0, laws_toControl.f]
    refine ev_neg (by simp) ?_
    refine Ev.bind (markInt_ev _ 1 (by omega) (by omega) (by omega)) ?_
    refine Ev.bind (heldInt_ev 1 _ (by omega) (by omega) (by omega)) ?_
    refine ev_neg (by omega) (ev_pos rfl (ev_some ?_))
    refine Ev.bind (toInt_ev l hn) ?_
    refine Ev.bind (traceI kp ki kd lo hi su la want l hn) ?_
    refine Ev.bind (eqInt_ev _ (by omega)) ?_
    refine ev_pos rfl ?_
    refine Ev.bind (heldInt_ev 1 _ (by omega) (by omega) (by omega)) ?_
    refine ev_neg (by omega) (ev_pos rfl (ev_of rfl))

end Go.Proofs.Ytimmlippglpmnaa.fnExactControlTrace

/- The law FnExactMovingAverage answers true for every list of numbers and every number; no condition but that the numbers are of their kind. -/
import Derived.Test.YtimmlippglpmnaaStFnExactMovingAverage
namespace Go.Proofs.Ytimmlippglpmnaa.fnExactMovingAverage
open Go.RowKit Go.Proofs.Ytimmlippglpmnaa.GFnExactMovingAverage Go.Proofs.YtimmlippglpmnaaV.PrintWords Go.Proofs.YtimmlippglpmnaaV.PrintLast Go.Proofs.YtimmlippglpmnaaV.PrintMore
set_option linter.unusedVariables false
set_option linter.unusedSimpArgs false

theorem ev_succ {α : Type} {g : Nat → Option α} {r : α} (h : Ev (fun k => g (k + 1)) r) : Ev g r := Ev.step (fun _ => rfl) h
theorem ev_pos {α : Type} {c : Prop} [Decidable c] {g f : Nat → Option α} {r : α} (hc : c) (h : Ev g r) : Ev (fun k => if c then g k else f k) r := Ev.congr (fun _ => if_pos hc) h
theorem ev_neg {α : Type} {c : Prop} [Decidable c] {g f : Nat → Option α} {r : α} (hc : ¬ c) (h : Ev f r) : Ev (fun k => if c then g k else f k) r := Ev.congr (fun _ => if_neg hc) h
theorem ev_some {α β : Type} {a : α} {f : Nat → α → Option β} {r : β} (h : Ev (fun k => f k a) r) : Ev (fun k => (some a).bind (f k)) r := h
theorem ev_of {α : Type} {a : Option α} {r : α} (h : a = some r) : Ev (fun _ => a) r := ⟨0, fun _ _ => h⟩
theorem ev_eq {α : Type} {g : Nat → Option α} {r r' : α} (h : Ev g r) (e : r = r') : Ev g r' := e ▸ h
theorem wrap_small {i : Int} (h0 : -9223372036854775808 ≤ i) (h1 : i ≤ 9223372036854775807) : wrap64 i = i := by unfold wrap64; omega
theorem wf_bounds {x : Int} (h : (Lit.int .i64 x).wf = true) : -9223372036854775808 ≤ x ∧ x ≤ 9223372036854775807 := by
  simp [Lit.wf, IntKind.min, IntKind.max, IntKind.signed, IntKind.bits] at h
  omega
theorem set_keeps {α : Type} (l out : List α) (d : α) (i : Nat) (hi : i < l.length) (ho : out.length = l.length) (h : ∀ j, j < i → out[j]? = l[j]?) : ∀ j, j < i + 1 → (out.set i (l.getD i d))[j]? = l[j]? := by
  intro j hj
  rw [List.getElem?_set]
  by_cases e : i = j
  · subst e
    rw [if_pos rfl, if_pos (by omega), List.getD_eq_getElem?_getD, List.getElem?_eq_getElem hi]
    rfl
  · rw [if_neg e]
    exact h j (by omega)
theorem all_kept {α : Type} (l out : List α) (ho : out.length = l.length) (h : ∀ j, j < l.length → out[j]? = l[j]?) : out = l := by
  apply List.ext_getElem?
  intro j
  by_cases hj : j < l.length
  · exact h j hj
  · rw [List.getElem?_eq_none (by omega), List.getElem?_eq_none (by omega)]

theorem toInt_loop (l : List Int) (hl : l.length ≤ 1048576) : ∀ (m i : Nat) (out : List Int), i + m = l.length → out.length = l.length → (∀ j, j < i → out[j]? = l[j]?) → Ev (fun k => laws_toIntS.l0 k l out (i : Int)) l := by
  intro m
  induction m with
  | zero =>
    intro i out hi ho h
    refine ev_succ ?_
    simp only [laws_toIntS.l0]
    refine ev_neg (by omega) ?_
    exact ev_of (congrArg some (all_kept l out ho (fun j hj => h j (by omega))))
  | succ m ih =>
    intro i out hi ho h
    refine ev_succ ?_
    simp only [laws_toIntS.l0]
    refine ev_pos (by omega) (ev_pos (by omega) (ev_pos (by omega) ?_))
    rw [wrap_small (by omega) (by omega)]
    have hs := ih (i + 1) (out.set i (l.getD i 0)) (by omega) (by simpa using ho) (set_keeps l out 0 i (by omega) ho h)
    simpa [rdOf, rd] using hs
theorem toInt_ev (l : List Int) (hl : l.length ≤ 1048576) : Ev (fun k => laws_toIntS.f k l) l := by
  simp only [laws_toIntS.f]
  refine ev_pos (by omega) (ev_pos (by omega) ?_)
  have h := toInt_loop l hl l.length 0 (List.replicate ((l.length : Int)).toNat 0) (by omega) (by simp) (fun j hj => by omega)
  exact h

theorem eqInt_loop (l : List Int) (hl : l.length ≤ 1048576) : ∀ (m i : Nat), i + m = l.length → Ev (fun k => laws_eqIntS.l0 k l l (i : Int)) true := by
  intro m
  induction m with
  | zero =>
    intro i hi
    refine ev_succ ?_
    simp only [laws_eqIntS.l0]
    exact ev_neg (by omega) (ev_of rfl)
  | succ m ih =>
    intro i hi
    refine ev_succ ?_
    simp only [laws_eqIntS.l0]
    refine ev_pos (by omega) (ev_pos (by omega) (ev_pos (by omega) ?_))
    refine ev_pos (by first | rfl | trivial) ?_
    rw [wrap_small (by omega) (by omega)]
    exact ih (i + 1) (by omega)
theorem eqInt_ev (l : List Int) (hl : l.length ≤ 1048576) : Ev (fun k => laws_eqIntS.f k l l) true := by
  simp only [laws_eqIntS.f]
  refine ev_pos (by first | rfl | trivial) ?_
  exact eqInt_loop l hl l.length 0 (by omega)

def mkInt (c : Int) (n : Nat) : List Int := (List.range n).map fun j : Nat => (c + (j : Int))
theorem mkInt_length (c : Int) (n : Nat) : (mkInt c n).length = n := by simp [mkInt]
theorem mkInt_get (c : Int) (n i : Nat) (h : i < n) : (mkInt c n)[i]? = some (c + (i : Int)) := by
  simp [mkInt, h]
theorem markInt_loop (l : List Int) (c : Int) (hc : 0 ≤ c) (hc2 : c ≤ 100000000) (hl : l.length ≤ 1048576) : ∀ (m i : Nat) (out : List Int), i + m = l.length → out.length = l.length → (∀ j, j < i → out[j]? = (mkInt c l.length)[j]?) →
    Ev (fun k => laws_markIntS.l0 k out (c + (i : Int)) (i : Int)) (c + (l.length : Int), mkInt c l.length) := by
  intro m
  induction m with
  | zero =>
    intro i out hi ho h
    refine ev_succ ?_
    simp only [laws_markIntS.l0]
    refine ev_neg (by omega) ?_
    have e : out = mkInt c l.length := all_kept _ _ (by rw [mkInt_length, ho]) (fun j hj => h j (by rw [mkInt_length] at hj; omega))
    exact ev_of (by rw [e, show i = l.length by omega])
  | succ m ih =>
    intro i out hi ho h
    refine ev_succ ?_
    simp only [laws_markIntS.l0]
    refine ev_pos (by omega) (ev_pos (by omega) ?_)
    rw [wrap_small (by omega) (by omega), wrap_small (by omega) (by omega)]
    have hg := mkInt_get c l.length i (by omega)
    have hs := ih (i + 1) (out.set i ((mkInt c l.length).getD i 0)) (by omega) (by simpa using ho) (set_keeps _ out 0 i (by rw [mkInt_length]; omega) (by rw [mkInt_length, ho]) h)
    rw [List.getD_eq_getElem?_getD, hg] at hs
    simp only [Option.getD_some] at hs
    have e1 : c + (i : Int) + 1 = c + ((i + 1 : Nat) : Int) := by omega
    rw [e1]
    exact hs
theorem markInt_ev (l : List Int) (c : Int) (hc : 0 ≤ c) (hc2 : c ≤ 100000000) (hl : l.length ≤ 1048576) : Ev (fun k => laws_markIntS.f k l c) (c + (l.length : Int), mkInt c l.length) := by
  simp only [laws_markIntS.f]
  have h := markInt_loop l c hc hc2 hl l.length 0 l (by omega) rfl (fun j hj => by omega)
  have e : c + ((0 : Nat) : Int) = c := by omega
  rw [e] at h
  exact h

theorem heldInt_loop (c : Int) (n : Nat) (hc : 0 ≤ c) (hc2 : c ≤ 100000000) (hn : n ≤ 1048576) : ∀ (m i : Nat), i + m = n → Ev (fun k => laws_heldIntS.l0 k (mkInt c n) (c + (i : Int)) (i : Int)) (c + (n : Int)) := by
  intro m
  induction m with
  | zero =>
    intro i hi
    refine ev_succ ?_
    simp only [laws_heldIntS.l0]
    exact ev_neg (by rw [mkInt_length]; omega) (ev_of (by rw [show i = n by omega]))
  | succ m ih =>
    intro i hi
    refine ev_succ ?_
    simp only [laws_heldIntS.l0]
    refine ev_pos (by rw [mkInt_length]; omega) (ev_pos (by omega) ?_)
    have hg := mkInt_get c n i (by omega)
    refine ev_pos (by simp [rd, List.getD_eq_getElem?_getD, hg]) ?_
    rw [wrap_small (by omega) (by omega), wrap_small (by omega) (by omega)]
    have e1 : c + (i : Int) + 1 = c + ((i + 1 : Nat) : Int) := by omega
    rw [e1]
    exact ih (i + 1) (by omega)
theorem heldInt_ev (c : Int) (n : Nat) (hc : 0 ≤ c) (hc2 : c ≤ 100000000) (hn : n ≤ 1048576) : Ev (fun k => laws_heldIntS.f k (mkInt c n) c) (c + (n : Int)) := by
  simp only [laws_heldIntS.f]
  have h := heldInt_loop c n hc hc2 hn n 0 (by omega)
  have e : c + ((0 : Nat) : Int) = c := by omega
  rw [e] at h
  exact h

theorem inS (a b c : Int) : spec_l1In.f a b c = some (decide (b ≤ a) && decide (a ≤ c)) := by
  unfold spec_l1In.f
  by_cases h : a ≥ b
  · rw [if_pos h]; simp [show b ≤ a from h]
  · rw [if_neg h]; simp [show ¬ b ≤ a from h]
/-- Is a number a word? -/
def word (x : Int) : Bool := decide (-32768 ≤ x) && decide (x ≤ 32767)
theorem word_iff (x : Int) : word x = true ↔ -32768 ≤ x ∧ x ≤ 32767 := by simp [word]
theorem wS (x : Int) : spec_l7Word.f x = some (word x) := by
  unfold spec_l7Word.f
  rw [inS]
  rfl
theorem areW (l : List Int) : impl_areWords.f l = some (l.all word) := by
  unfold impl_areWords.f
  have : l.all word = !l.any impl_areWords.bad := by
    induction l with
    | nil => rfl
    | cons x r ih =>
      rw [List.all_cons, List.any_cons, ih]
      simp [impl_areWords.bad, word]
  rw [this]

theorem inI (a b c : Int) : impl_in.f a b c = some (decide (b ≤ a) && decide (a ≤ c)) := by
  unfold impl_in.f
  by_cases h : a ≥ b
  · rw [if_pos h]; simp [show b ≤ a from h]
  · rw [if_neg h]; simp [show ¬ b ≤ a from h]

theorem rdn (l : List Int) (i : Nat) (h : i < l.length) : rd l (i : Int) = l[i] := by
  simp [rd, List.getD_eq_getElem?_getD, h]
/-- The sum of m numbers, from place i downwards. -/
def sm (l : List Int) (i : Nat) : Nat → Int
  | 0 => 0
  | m + 1 => sm l i m + rd l ((i : Int) - (m : Int))
/-- The sum of m numbers, from place i upwards. -/
def up (l : List Int) (i : Nat) : Nat → Int
  | 0 => 0
  | m + 1 => up l i m + rd l ((i : Int) + (m : Int))
theorem up_first (l : List Int) (i : Nat) : ∀ m, up l i (m + 1) = rd l (i : Int) + up l (i + 1) m
  | 0 => by simp [up]
  | m + 1 => by
    rw [up, up_first l i m, up]
    rw [show (i : Int) + ((m + 1 : Nat) : Int) = ((i + 1 : Nat) : Int) + (m : Int) by omega]
    omega
theorem sm_up (l : List Int) (i : Nat) : ∀ m lo, lo + m = i + 1 → sm l i m = up l lo m
  | 0, _, _ => rfl
  | m + 1, lo, h => by
    rw [up_first, sm, sm_up l i m (lo + 1) (by omega), show (i : Int) - (m : Int) = (lo : Int) by omega]
    omega
def allw (l : List Int) (n : Nat) : Prop := ∀ j : Nat, j < n → word (rd l (j : Int)) = true
theorem sm_b (l : List Int) (n i : Nat) (h : allw l n) (hi : i < n) : ∀ m, m ≤ i + 1 → -32768 * (m : Int) ≤ sm l i m ∧ sm l i m ≤ 32767 * (m : Int)
  | 0, _ => by simp [sm]
  | m + 1, hm => by
    have ih := sm_b l n i h hi m (by omega)
    have := h (i - m) (by omega)
    rw [word_iff, show ((i - m : Nat) : Int) = (i : Int) - (m : Int) by omega] at this
    unfold sm
    omega
theorem up_b (l : List Int) (n lo : Nat) (h : allw l n) : ∀ m, lo + m ≤ n → -32768 * (m : Int) ≤ up l lo m ∧ up l lo m ≤ 32767 * (m : Int)
  | 0, _ => by simp [up]
  | m + 1, hm => by
    have ih := up_b l n lo h m (by omega)
    have := h (lo + m) (by omega)
    rw [word_iff, show ((lo + m : Nat) : Int) = (lo : Int) + (m : Int) by omega] at this
    unfold up
    omega
def Fl (a b : Int) : Int := if Int.tmod a b < 0 then wrap64 (wrap64 (Int.tdiv a b) - 1) else wrap64 (Int.tdiv a b)
theorem flS (a b : Int) (h : b ≠ 0) : spec_l7Floor.f a b = some (Fl a b) := by
  unfold spec_l7Floor.f Fl
  rw [if_neg h]
  split <;> rfl
theorem flI (a b : Int) (h : b ≠ 0) : impl_floor.f a b = some (Fl a b) := by
  unfold impl_floor.f Fl
  rw [if_neg h]
  split <;> rfl
/-- How many numbers are taken at place i. -/
def many (w i : Nat) : Nat := if w < i + 1 then w else i + 1
def g (l : List Int) (w i : Nat) : Int := Fl (sm l i (many w i)) (many w i : Int)
def gs (l : List Int) (w n : Nat) : List Int := (List.range n).map (g l w)
theorem gs_succ (l : List Int) (w n : Nat) : gs l w (n + 1) = gs l w n ++ [g l w n] := by simp [gs, List.range_succ]
theorem gs_len (l : List Int) (w n : Nat) : (gs l w n).length = n := by simp [gs]
theorem allw_iff (l : List Int) : l.all word = true ↔ allw l l.length := by
  rw [List.all_eq_true]
  constructor
  · intro h j hj
    rw [rdn l j hj]
    exact h _ (List.getElem_mem hj)
  · intro h x hx
    obtain ⟨j, hj, rfl⟩ := List.mem_iff_getElem.mp hx
    have := h j hj
    rwa [rdn l j hj] at this
theorem spL1 (l : List Int) (w : Nat) (hw : 1 ≤ w) (hw2 : w ≤ 50) (hl : l.length ≤ 200) (i : Nat) (hi : i < l.length) (ha : allw l (i + 1)) (acc r : List Int) (hacc : acc.length ≤ 200)
    (hn : Ev (fun k => spec_MovingAverage.l0 k l (w : Int) (acc ++ [g l w i]) ((i + 1 : Nat) : Int)) r) : ∀ (m j : Nat), j + m = many w i → Ev (fun k => spec_MovingAverage.l1 k l (w : Int) acc (i : Int) (sm l i j) (many w i : Int) (j : Int)) r := by
  have hmi : many w i ≤ i + 1 := by unfold many; split <;> omega
  have hm1 : 1 ≤ many w i := by unfold many; split <;> omega
  intro m
  induction m with
  | zero =>
    intro j hj
    refine ev_succ ?_
    simp only [spec_MovingAverage.l1]
    refine ev_neg (by omega) ?_
    rw [show j = many w i by omega, flS _ _ (by omega)]
    refine ev_some (ev_pos (by omega) ?_)
    rw [wrap_small (by omega) (by omega)]
    exact hn
  | succ m ih =>
    intro j hj
    refine ev_succ ?_
    simp only [spec_MovingAverage.l1]
    have hb := sm_b l (i + 1) i ha (by omega) (j + 1) (by omega)
    have e1 : wrap64 ((i : Int) - (j : Int)) = (i : Int) - (j : Int) := wrap_small (by omega) (by omega)
    rw [e1]
    refine ev_pos (by omega) (ev_pos (by omega) (ev_pos (by omega) ?_))
    have e2 : wrap64 (sm l i j + rd l ((i : Int) - (j : Int))) = sm l i (j + 1) := wrap_small (by unfold sm at hb; omega) (by unfold sm at hb; omega)
    rw [e2, wrap_small (by omega) (by omega)]
    exact ih (j + 1) (by omega)
theorem spL0 (l : List Int) (w : Nat) (hw : 1 ≤ w) (hw2 : w ≤ 50) (hl : l.length ≤ 200) : ∀ (m i : Nat), i + m = l.length → allw l i → Ev (fun k => spec_MovingAverage.l0 k l (w : Int) (gs l w i) (i : Int)) (if l.all word then gs l w l.length else []) := by
  intro m
  induction m with
  | zero =>
    intro i hi ha
    refine ev_succ ?_
    simp only [spec_MovingAverage.l0]
    refine ev_neg (by omega) (ev_of ?_)
    have e : i = l.length := by omega
    rw [e] at ha ⊢
    rw [if_pos ((allw_iff l).mpr ha)]
  | succ m ih =>
    intro i hi ha
    refine ev_succ ?_
    simp only [spec_MovingAverage.l0]
    refine ev_pos (by omega) (ev_pos (by omega) ?_)
    rw [wS]
    refine ev_some ?_
    cases h : word (rd l (i : Int))
    · refine ev_neg (by simp) (ev_of ?_)
      have : ¬ l.all word = true := by
        intro h2
        have := (allw_iff l).mp h2 i (by omega)
        rw [h] at this
        cases this
      rw [if_neg this]
    · refine ev_pos rfl ?_
      have ha2 : allw l (i + 1) := by
        intro j hj
        by_cases e : j = i
        · rw [e]; exact h
        · exact ha j (by omega)
      have e1 : mn (w : Int) (wrap64 ((i : Int) + 1)) = (many w i : Int) := by
        rw [wrap_small (by omega) (by omega)]
        unfold mn many
        split <;> split <;> omega
      rw [e1]
      refine spL1 l w hw hw2 hl i (by omega) ha2 (gs l w i) _ (by rw [gs_len]; omega) ?_ (many w i) 0 (by omega)
      rw [← gs_succ]
      exact ih (i + 1) (by omega) ha2
theorem imL1 (l : List Int) (w : Nat) (hw : 1 ≤ w) (hw2 : w ≤ 50) (hl : l.length ≤ 200) (ha : allw l l.length) (i : Nat) (hi : i < l.length) (lo : Nat) (hlo : lo + many w i = i + 1) (out r : List Int) (ho : out.length = l.length)
    (hn : Ev (fun k => impl_MovingAverage.l0 k l (w : Int) (out.set i (g l w i)) (l.length : Int) ((i + 1 : Nat) : Int)) r) : ∀ (m j : Nat), j + m = many w i → Ev (fun k => impl_MovingAverage.l1 k l (w : Int) out (i : Int) ((l.take (i + 1)).drop lo) (up l lo j) (l.length : Int) (i : Int) ((l.take (i + 1)).drop lo) (((l.take (i + 1)).drop lo).length : Int) (j : Int)) r := by
  have hm1 : 1 ≤ many w i := by unfold many; split <;> omega
  have hpl : ((l.take (i + 1)).drop lo).length = many w i := by rw [List.length_drop, List.length_take]; omega
  intro m
  induction m with
  | zero =>
    intro j hj
    refine ev_succ ?_
    simp only [impl_MovingAverage.l1]
    refine ev_neg (by omega) ?_
    rw [hpl, show j = many w i by omega, flI _ _ (by omega), ← sm_up l i (many w i) lo hlo]
    refine ev_some (ev_pos (by omega) (ev_pos (by omega) ?_))
    rw [wrap_small (by omega) (by omega), Int.toNat_natCast]
    exact hn
  | succ m ih =>
    intro j hj
    refine ev_succ ?_
    simp only [impl_MovingAverage.l1]
    have hb := up_b l l.length lo ha (j + 1) (by omega)
    refine ev_pos (by omega) (ev_pos (by omega) (ev_pos (by omega) ?_))
    have er : rd ((l.take (i + 1)).drop lo) (j : Int) = rd l ((lo : Int) + (j : Int)) := by
      rw [rdn _ j (by omega), List.getElem_drop, List.getElem_take, show (lo : Int) + (j : Int) = ((lo + j : Nat) : Int) by omega, rdn l (lo + j) (by omega)]
    have e2 : wrap64 (up l lo j + rd ((l.take (i + 1)).drop lo) (j : Int)) = up l lo (j + 1) := by
      rw [er]
      exact wrap_small (by unfold up at hb; omega) (by unfold up at hb; omega)
    rw [e2, wrap_small (by omega) (by omega)]
    exact ih (j + 1) (by omega)
theorem imL0 (l : List Int) (w : Nat) (hw : 1 ≤ w) (hw2 : w ≤ 50) (hl : l.length ≤ 200) (ha : allw l l.length) : ∀ (m i : Nat) (out : List Int), i + m = l.length → out.length = l.length → (∀ j, j < i → out[j]? = (gs l w l.length)[j]?) → Ev (fun k => impl_MovingAverage.l0 k l (w : Int) out (l.length : Int) (i : Int)) (gs l w l.length) := by
  intro m
  induction m with
  | zero =>
    intro i out hi ho hk
    refine ev_succ ?_
    simp only [impl_MovingAverage.l0]
    exact ev_neg (by omega) (ev_of (congrArg some (all_kept _ _ (by rw [gs_len, ho]) (fun j hj => hk j (by rw [gs_len] at hj; omega)))))
  | succ m ih =>
    intro i out hi ho hk
    refine ev_succ ?_
    simp only [impl_MovingAverage.l0]
    have hmi : many w i ≤ i + 1 := by unfold many; split <;> omega
    obtain ⟨lo, hlo⟩ : ∃ lo, lo + many w i = i + 1 := ⟨i + 1 - many w i, by omega⟩
    have e0 : wrap64 ((i : Int) + 1) = ((i + 1 : Nat) : Int) := wrap_small (by omega) (by omega)
    have e1 : mx 0 (wrap64 (wrap64 ((i : Int) + 1) - (w : Int))) = (lo : Int) := by
      rw [e0, wrap_small (by omega) (by omega)]
      unfold mx
      unfold many at hlo
      split at hlo <;> split <;> omega
    rw [e1, e0]
    refine ev_pos (by omega) (ev_pos (by omega) (ev_pos (by omega) (ev_pos (by omega) ?_)))
    rw [Int.toNat_natCast, Int.toNat_natCast]
    refine imL1 l w hw hw2 hl ha i (by omega) lo hlo out _ ho ?_ (many w i) 0 (by omega)
    have hs := set_keeps (gs l w l.length) out 0 i (by rw [gs_len]; omega) (by rw [gs_len, ho]) hk
    have eg : (gs l w l.length).getD i 0 = g l w i := by
      rw [List.getD_eq_getElem?_getD]
      simp [gs, show i < l.length by omega]
    rw [eg] at hs
    exact ih (i + 1) _ (by omega) (by simpa using ho) hs
def Rm (l : List Int) (w : Int) : List Int := if (l.length : Int) ≤ 200 ∧ 1 ≤ w ∧ w ≤ 50 ∧ l.all word = true then gs l w.toNat l.length else []
theorem Rm_len (l : List Int) (w : Int) : (Rm l w).length ≤ 200 := by
  unfold Rm
  split
  · rw [gs_len]; omega
  · simp
theorem maS (l : List Int) (w : Int) : Ev (fun k => spec_MovingAverage.f k l w) (Rm l w) := by
  simp only [spec_MovingAverage.f]
  refine ev_some ?_
  have jt : Ev (fun k => spec_MovingAverage.j0 k l w [] true) [] := by
    refine ev_succ ?_
    simp only [spec_MovingAverage.j0]
    exact ev_pos (by first | rfl | trivial) (ev_of rfl)
  by_cases h : (l.length : Int) > 200
  · rw [show Rm l w = [] by unfold Rm; rw [if_neg (by omega)]]
    exact ev_pos h jt
  · refine ev_neg h ?_
    rw [inS]
    refine ev_some ?_
    by_cases h2 : 1 ≤ w ∧ w ≤ 50
    · obtain ⟨n, rfl⟩ := Int.eq_ofNat_of_zero_le (show 0 ≤ w by omega)
      rw [show (!(decide (1 ≤ (n : Int)) && decide ((n : Int) ≤ 50))) = false by simp; omega]
      refine ev_succ ?_
      simp only [spec_MovingAverage.j0]
      refine ev_neg (by simp) ?_
      have := spL0 l n (by omega) (by omega) (by omega) l.length 0 (by omega) (fun j hj => by omega)
      refine ev_eq this ?_
      unfold Rm
      by_cases ha : l.all word = true
      · rw [if_pos ha, if_pos ⟨by omega, by omega, by omega, ha⟩, Int.toNat_natCast]
      · rw [if_neg ha, if_neg (fun hc => ha hc.2.2.2)]
    · rw [show (!(decide (1 ≤ w) && decide (w ≤ 50))) = true by simp; omega]
      rw [show Rm l w = [] by unfold Rm; rw [if_neg (fun hc => h2 ⟨hc.2.1, hc.2.2.1⟩)]]
      exact jt
theorem maI (l : List Int) (w : Int) : Ev (fun k => impl_MovingAverage.f k l w) (Rm l w) := by
  simp only [impl_MovingAverage.f]
  have jt : Ev (fun k => impl_MovingAverage.j0 k l w true) [] := by
    refine ev_succ ?_
    simp only [impl_MovingAverage.j0]
    exact ev_pos (by first | rfl | trivial) (ev_of rfl)
  by_cases h : (l.length : Int) > 200
  · rw [show Rm l w = [] by unfold Rm; rw [if_neg (by omega)]]
    exact ev_pos h jt
  · refine ev_neg h ?_
    rw [inI]
    refine ev_some ?_
    by_cases h2 : 1 ≤ w ∧ w ≤ 50
    · refine ev_pos (by simpa using h2) ?_
      rw [areW]
      refine ev_some ?_
      cases ha : l.all word
      · rw [show Rm l w = [] by unfold Rm; rw [if_neg (fun hc => by rw [ha] at hc; exact absurd hc.2.2.2 (by decide))]]
        exact jt
      · obtain ⟨n, rfl⟩ := Int.eq_ofNat_of_zero_le (show 0 ≤ w by omega)
        refine ev_succ ?_
        simp only [impl_MovingAverage.j0]
        refine ev_neg (by simp) (ev_pos (by omega) (ev_pos (by omega) ?_))
        have := imL0 l n (by omega) (by omega) (by omega) ((allw_iff l).mp ha) l.length 0 (List.replicate ((l.length : Int)).toNat 0) (by omega) (by simp) (fun j hj => by omega)
        refine ev_eq this ?_
        unfold Rm
        rw [if_pos ⟨by omega, by omega, by omega, ha⟩, Int.toNat_natCast]
    · refine ev_neg (by simpa using h2) ?_
      rw [show Rm l w = [] by unfold Rm; rw [if_neg (fun hc => h2 ⟨hc.2.1, hc.2.2.1⟩)]]
      exact jt

theorem pure_holds : Pure := by
  intro l w hl _
  refine Ev.rounds ?_
  simp only [laws_FnExactMovingAverage.f]
  by_cases hb : (l.length : Int) > 1048576
  · exact ev_pos hb (ev_of rfl)
  · refine ev_neg hb ?_
    have hln : l.length ≤ 1048576 := by omega
    have hRl := Rm_len l w
    have e := eqInt_ev (Rm l w) (by omega)
    have hh := heldInt_ev 1 (Rm l w).length (by omega) (by omega) (by omega)
    refine Ev.bind (toInt_ev l hln) (Ev.bind (maS l w) (Ev.bind (toInt_ev l hln) (Ev.bind (maI l w) ?_)))
    refine Ev.bind e (ev_pos rfl ?_)
    refine Ev.bind (toInt_ev l hln) (Ev.bind (eqInt_ev l hln) (ev_pos rfl ?_))
    refine Ev.bind (markInt_ev l 1 (by omega) (by omega) hln) ?_
    dsimp only
    refine ev_neg (by omega) ?_
    refine Ev.bind e ?_
    refine ev_succ ?_
    simp only [laws_FnExactMovingAverage.j0]
    refine ev_neg (by simp) ?_
    refine Ev.bind (markInt_ev (Rm l w) 1 (by omega) (by omega) (by omega)) ?_
    dsimp only
    refine Ev.bind hh (ev_neg (by omega) (ev_pos rfl ?_))
    refine Ev.bind (toInt_ev l hln) (Ev.bind (maI l w) ?_)
    refine Ev.bind e (ev_pos rfl ?_)
    refine Ev.bind hh (ev_neg (by omega) (ev_pos rfl (ev_of rfl)))

end Go.Proofs.Ytimmlippglpmnaa.fnExactMovingAverage

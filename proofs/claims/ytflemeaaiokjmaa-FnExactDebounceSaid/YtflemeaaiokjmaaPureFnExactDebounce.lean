/- The law FnExactDebounce answers true for every bool, every list of bools and every number; no condition but that the number is of its kind. -/
import Derived.Test.YtflemeaaiokjmaaStFnExactDebounce
namespace Go.Proofs.Ytflemeaaiokjmaa.fnExactDebounce
open Go.RowKit Go.Proofs.Ytflemeaaiokjmaa.PFnExactDebounce Go.Proofs.YtflemeaaiokjmaaW.PrintWords Go.Proofs.YtflemeaaiokjmaaW.PrintLast Go.Proofs.YtflemeaaiokjmaaW.PrintMore
set_option linter.unusedVariables false
set_option linter.unusedSimpArgs false

theorem ev_succ {α : Type} {g : Nat → Option α} {r : α} (h : Ev (fun k => g (k + 1)) r) : Ev g r := Ev.step (fun _ => rfl) h
theorem ev_pos {α : Type} {c : Prop} [Decidable c] {g f : Nat → Option α} {r : α} (hc : c) (h : Ev g r) : Ev (fun k => if c then g k else f k) r := Ev.congr (fun _ => if_pos hc) h
theorem ev_neg {α : Type} {c : Prop} [Decidable c] {g f : Nat → Option α} {r : α} (hc : ¬ c) (h : Ev f r) : Ev (fun k => if c then g k else f k) r := Ev.congr (fun _ => if_neg hc) h
theorem ev_some {α β : Type} {a : α} {f : Nat → α → Option β} {r : β} (h : Ev (fun k => f k a) r) : Ev (fun k => (some a).bind (f k)) r := h
theorem ev_of {α : Type} {a : Option α} {r : α} (h : a = some r) : Ev (fun _ => a) r := ⟨0, fun _ _ => h⟩
theorem ev_eq {α : Type} {g : Nat → Option α} {r r' : α} (h : Ev g r) (e : r = r') : Ev g r' := e ▸ h
theorem wrap_small {i : Int} (h0 : -9223372036854775808 ≤ i) (h1 : i ≤ 9223372036854775807) : wrap64 i = i := by unfold wrap64; omega
theorem wf_bounds {x : Int} (h : (Lit.int .i64 x).wf = true) : -9223372036854775808 ≤ x ∧ x ≤ 9223372036854775807 := by
  simp [Lit.wf, IntKind.min, IntKind.max, IntKind.signed, IntKind.bits] at h
  omega
theorem set_keeps {α : Type} (l out : List α) (d : α) (i : Nat) (hi : i < l.length) (ho : out.length = l.length) (h : ∀ j, j < i → out[j]? = l[j]?) : ∀ j, j < i + 1 → (out.set i (l.getD i d))[j]? = l[j]? := by
  intro j hj
  rw [List.getElem?_set]
  by_cases e : i = j
  · subst e
    rw [if_pos rfl, if_pos (by omega), List.getD_eq_getElem?_getD, List.getElem?_eq_getElem hi]
    rfl
  · rw [if_neg e]
    exact h j (by omega)
theorem all_kept {α : Type} (l out : List α) (ho : out.length = l.length) (h : ∀ j, j < l.length → out[j]? = l[j]?) : out = l := by
  apply List.ext_getElem?
  intro j
  by_cases hj : j < l.length
  · exact h j hj
  · rw [List.getElem?_eq_none (by omega), List.getElem?_eq_none (by omega)]

theorem toBool_loop (l : List Bool) (hl : l.length ≤ 1048576) : ∀ (m i : Nat) (out : List Bool), i + m = l.length → out.length = l.length → (∀ j, j < i → out[j]? = l[j]?) → Ev (fun k => laws_toBoolS.l0 k l out (i : Int)) l := by
  intro m
  induction m with
  | zero =>
    intro i out hi ho h
    refine ev_succ ?_
    simp only [laws_toBoolS.l0]
    refine ev_neg (by omega) ?_
    exact ev_of (congrArg some (all_kept l out ho (fun j hj => h j (by omega))))
  | succ m ih =>
    intro i out hi ho h
    refine ev_succ ?_
    simp only [laws_toBoolS.l0]
    refine ev_pos (by omega) (ev_pos (by omega) (ev_pos (by omega) ?_))
    rw [wrap_small (by omega) (by omega)]
    have hs := ih (i + 1) (out.set i (l.getD i false)) (by omega) (by simpa using ho) (set_keeps l out false i (by omega) ho h)
    simpa [rdOf, rd] using hs
theorem toBool_ev (l : List Bool) (hl : l.length ≤ 1048576) : Ev (fun k => laws_toBoolS.f k l) l := by
  simp only [laws_toBoolS.f]
  refine ev_pos (by omega) (ev_pos (by omega) ?_)
  have h := toBool_loop l hl l.length 0 (List.replicate ((l.length : Int)).toNat false) (by omega) (by simp) (fun j hj => by omega)
  exact h

theorem eqBool_loop (l : List Bool) (hl : l.length ≤ 1048576) : ∀ (m i : Nat), i + m = l.length → Ev (fun k => laws_eqBoolS.l0 k l l (i : Int)) true := by
  intro m
  induction m with
  | zero =>
    intro i hi
    refine ev_succ ?_
    simp only [laws_eqBoolS.l0]
    exact ev_neg (by omega) (ev_of rfl)
  | succ m ih =>
    intro i hi
    refine ev_succ ?_
    simp only [laws_eqBoolS.l0]
    refine ev_pos (by omega) (ev_pos (by omega) (ev_pos (by omega) ?_))
    refine ev_neg (by simp) ?_
    rw [wrap_small (by omega) (by omega)]
    exact ih (i + 1) (by omega)
theorem eqBool_ev (l : List Bool) (hl : l.length ≤ 1048576) : Ev (fun k => laws_eqBoolS.f k l l) true := by
  simp only [laws_eqBoolS.f]
  refine ev_pos (by first | rfl | trivial) ?_
  exact eqBool_loop l hl l.length 0 (by omega)

def mkBool (c : Int) (n : Nat) : List Bool := (List.range n).map fun j : Nat => ((Int.tmod (c + (j : Int)) 3) == 0)
theorem mkBool_length (c : Int) (n : Nat) : (mkBool c n).length = n := by simp [mkBool]
theorem mkBool_get (c : Int) (n i : Nat) (h : i < n) : (mkBool c n)[i]? = some ((Int.tmod (c + (i : Int)) 3) == 0) := by
  simp [mkBool, h]
theorem markBool_loop (l : List Bool) (c : Int) (hc : 0 ≤ c) (hc2 : c ≤ 100000000) (hl : l.length ≤ 1048576) : ∀ (m i : Nat) (out : List Bool), i + m = l.length → out.length = l.length → (∀ j, j < i → out[j]? = (mkBool c l.length)[j]?) →
    Ev (fun k => laws_markBoolS.l0 k out (c + (i : Int)) (i : Int)) (c + (l.length : Int), mkBool c l.length) := by
  intro m
  induction m with
  | zero =>
    intro i out hi ho h
    refine ev_succ ?_
    simp only [laws_markBoolS.l0]
    refine ev_neg (by omega) ?_
    have e : out = mkBool c l.length := all_kept _ _ (by rw [mkBool_length, ho]) (fun j hj => h j (by rw [mkBool_length] at hj; omega))
    exact ev_of (by rw [e, show i = l.length by omega])
  | succ m ih =>
    intro i out hi ho h
    refine ev_succ ?_
    simp only [laws_markBoolS.l0]
    refine ev_pos (by omega) (ev_pos (by omega) ?_)
    rw [wrap_small (by omega) (by omega), wrap_small (by omega) (by omega)]
    have hg := mkBool_get c l.length i (by omega)
    have hs := ih (i + 1) (out.set i ((mkBool c l.length).getD i false)) (by omega) (by simpa using ho) (set_keeps _ out false i (by rw [mkBool_length]; omega) (by rw [mkBool_length, ho]) h)
    rw [List.getD_eq_getElem?_getD, hg] at hs
    simp only [Option.getD_some] at hs
    have e1 : c + (i : Int) + 1 = c + ((i + 1 : Nat) : Int) := by omega
    rw [e1]
    exact hs
theorem markBool_ev (l : List Bool) (c : Int) (hc : 0 ≤ c) (hc2 : c ≤ 100000000) (hl : l.length ≤ 1048576) : Ev (fun k => laws_markBoolS.f k l c) (c + (l.length : Int), mkBool c l.length) := by
  simp only [laws_markBoolS.f]
  have h := markBool_loop l c hc hc2 hl l.length 0 l (by omega) rfl (fun j hj => by omega)
  have e : c + ((0 : Nat) : Int) = c := by omega
  rw [e] at h
  exact h

theorem heldBool_loop (c : Int) (n : Nat) (hc : 0 ≤ c) (hc2 : c ≤ 100000000) (hn : n ≤ 1048576) : ∀ (m i : Nat), i + m = n → Ev (fun k => laws_heldBoolS.l0 k (mkBool c n) (c + (i : Int)) (i : Int)) (c + (n : Int)) := by
  intro m
  induction m with
  | zero =>
    intro i hi
    refine ev_succ ?_
    simp only [laws_heldBoolS.l0]
    exact ev_neg (by rw [mkBool_length]; omega) (ev_of (by rw [show i = n by omega]))
  | succ m ih =>
    intro i hi
    refine ev_succ ?_
    simp only [laws_heldBoolS.l0]
    refine ev_pos (by rw [mkBool_length]; omega) (ev_pos (by omega) ?_)
    have hg := mkBool_get c n i (by omega)
    refine ev_neg (by simp [rdOf, List.getD_eq_getElem?_getD, hg]) ?_
    rw [wrap_small (by omega) (by omega), wrap_small (by omega) (by omega)]
    have e1 : c + (i : Int) + 1 = c + ((i + 1 : Nat) : Int) := by omega
    rw [e1]
    exact ih (i + 1) (by omega)
theorem heldBool_ev (c : Int) (n : Nat) (hc : 0 ≤ c) (hc2 : c ≤ 100000000) (hn : n ≤ 1048576) : Ev (fun k => laws_heldBoolS.f k (mkBool c n) c) (c + (n : Int)) := by
  simp only [laws_heldBoolS.f]
  have h := heldBool_loop c n hc hc2 hn n 0 (by omega)
  have e : c + ((0 : Nat) : Int) = c := by omega
  rw [e] at h
  exact h

theorem inS (a b c : Int) : spec_l1In.f a b c = some (decide (b ≤ a) && decide (a ≤ c)) := by
  unfold spec_l1In.f
  by_cases h : a ≥ b
  · rw [if_pos h]; simp [show b ≤ a from h]
  · rw [if_neg h]; simp [show ¬ b ≤ a from h]
theorem inI (a b c : Int) : impl_in.f a b c = some (decide (b ≤ a) && decide (a ≤ c)) := by
  unfold impl_in.f
  by_cases h : a ≥ b
  · rw [if_pos h]; simp [show b ≤ a from h]
  · rw [if_neg h]; simp [show ¬ b ≤ a from h]

/-- One value of a filtered signal: the output and the count behind it. -/
def debStep (h : Int) (s : Bool) (c : Int) (v : Bool) : Bool × Int :=
  if v = s then (if 0 = h then (v, 0) else (s, 0)) else (if c + 1 = h then (v, 0) else (s, c + 1))
/-- A filtered signal. -/
def deb (h : Int) : Bool → Int → List Bool → List Bool
  | _, _, [] => []
  | s, c, v :: r => (debStep h s c v).1 :: deb h (debStep h s c v).1 (debStep h s c v).2 r
theorem deb_length (h : Int) : ∀ (l : List Bool) (s : Bool) (c : Int), (deb h s c l).length = l.length
  | [], _, _ => rfl
  | v :: r, s, c => by simp [deb, deb_length h r]
theorem debStep_bound (h : Int) (s : Bool) (c : Int) (v : Bool) (h0 : 0 ≤ c) : 0 ≤ (debStep h s c v).2 ∧ (debStep h s c v).2 ≤ c + 1 := by
  unfold debStep
  repeat' split
  all_goals (dsimp only; omega)
def debR (a : Bool) (l : List Bool) (h : Int) : List Bool := if l.length ≤ 200 ∧ 1 ≤ h ∧ h ≤ 20 then deb h a 0 l else []
theorem debR_len (a : Bool) (l : List Bool) (h : Int) : (debR a l h).length ≤ l.length := by
  unfold debR
  split
  · rw [deb_length]; omega
  · simp
theorem spec_loop (l : List Bool) (h : Int) (hl : l.length ≤ 200) : ∀ (r p : List Bool) (out : List Bool) (s : Bool) (c : Int), l = p ++ r → out.length = p.length → 0 ≤ c → c ≤ p.length → Ev (fun k => spec_Debounce.l0 k l h out s c (p.length : Int)) (out ++ deb h s c r) := by
  intro r
  induction r with
  | nil =>
    intro p out s c hp ho h0 hc
    refine ev_succ ?_
    simp only [spec_Debounce.l0]
    have : l.length = p.length := by rw [hp]; simp
    exact ev_neg (by omega) (ev_of (by simp [deb]))
  | cons v r ih =>
    intro p out s c hp ho h0 hc
    refine ev_succ ?_
    simp only [spec_Debounce.l0]
    have hll : l.length = p.length + (r.length + 1) := by rw [hp]; simp
    have hv : rdOf false l (p.length : Int) = v := by simp [rdOf, hp]
    have hb := debStep_bound h s c v h0
    have hs := ih (p ++ [v]) (out ++ [(debStep h s c v).1]) (debStep h s c v).1 (debStep h s c v).2 (by simp [hp]) (by simp [ho]) hb.1 (by simp; omega)
    have hs2 : Ev (fun k => spec_Debounce.l0 k l h (out ++ [(debStep h s c v).1]) (debStep h s c v).1 (debStep h s c v).2 ((p.length : Int) + 1)) (out ++ deb h s c (v :: r)) := by simpa [deb] using hs
    clear hs
    refine ev_pos (by omega) (ev_pos (by omega) ?_)
    rw [hv, wrap_small (i := (p.length : Int) + 1) (by omega) (by omega), wrap_small (i := c + 1) (by omega) (by omega)]
    unfold debStep at hs2
    by_cases e1 : v = s
    · refine ev_pos (by simpa using e1) ?_
      rw [if_pos e1] at hs2
      by_cases e2 : 0 = h
      · rw [if_pos e2] at hs2
        exact ev_pos e2 (ev_pos (by omega) hs2)
      · rw [if_neg e2] at hs2
        exact ev_neg e2 (ev_pos (by omega) hs2)
    · refine ev_neg (by simpa using e1) ?_
      rw [if_neg e1] at hs2
      by_cases e2 : c + 1 = h
      · rw [if_pos e2] at hs2
        exact ev_pos e2 (ev_pos (by omega) hs2)
      · rw [if_neg e2] at hs2
        exact ev_neg e2 (ev_pos (by omega) hs2)
theorem spec_ev (a : Bool) (l : List Bool) (h : Int) (hn : l.length ≤ 1048576) : Ev (fun k => spec_Debounce.f k a l h) (debR a l h) := by
  simp only [spec_Debounce.f]
  refine ev_some ?_
  unfold debR
  by_cases g : (l.length : Int) > 200
  · rw [if_neg (by omega)]
    refine ev_pos g (ev_succ ?_)
    simp only [spec_Debounce.j0]
    exact ev_pos trivial (ev_of rfl)
  · refine ev_neg g ?_
    rw [inS]
    refine ev_some (ev_succ ?_)
    simp only [spec_Debounce.j0]
    by_cases q : 1 ≤ h ∧ h ≤ 20
    · rw [if_pos ⟨by omega, q.1, q.2⟩]
      refine ev_neg (by simp [q.1, q.2]) ?_
      have := spec_loop l h (by omega) l [] [] a 0 rfl rfl (by omega) (by simp)
      simpa using this
    · rw [if_neg (by omega)]
      exact ev_pos (by simp; omega) (ev_of rfl)
theorem impl_loop (l : List Bool) (h : Int) (hl : l.length ≤ 200) (W : List Bool) (hW : W.length = l.length) : ∀ (r p : List Bool) (out : List Bool) (s : Bool) (c : Int), l = p ++ r → out.length = l.length → 0 ≤ c → c ≤ p.length → (∀ j, j < p.length → out[j]? = W[j]?) → deb h s c r = W.drop p.length →
    Ev (fun k => impl_Debounce.l0 k s h out c l (l.length : Int) (p.length : Int)) W := by
  intro r
  induction r with
  | nil =>
    intro p out s c hp ho h0 hc hk hd
    refine ev_succ ?_
    simp only [impl_Debounce.l0]
    have : l.length = p.length := by rw [hp]; simp
    exact ev_neg (by omega) (ev_of (congrArg some (all_kept _ _ (by omega) (fun j hj => hk j (by omega)))))
  | cons v r ih =>
    intro p out s c hp ho h0 hc hk hd
    refine ev_succ ?_
    simp only [impl_Debounce.l0]
    have hll : l.length = p.length + (r.length + 1) := by rw [hp]; simp
    have hv : rdOf false l (p.length : Int) = v := by simp [rdOf, hp]
    have hb := debStep_bound h s c v h0
    have hdr : W.drop p.length = (debStep h s c v).1 :: deb h (debStep h s c v).1 (debStep h s c v).2 r := hd.symm
    have hw : W.getD p.length false = (debStep h s c v).1 := by
      have := congrArg (fun x => x[0]?) hdr
      simp at this
      rw [List.getD_eq_getElem?_getD, this]
      rfl
    have hs := set_keeps W out false p.length (by omega) (by omega) hk
    rw [hw] at hs
    have h2 := ih (p ++ [v]) (out.set p.length (debStep h s c v).1) (debStep h s c v).1 (debStep h s c v).2 (by simp [hp]) (by simpa using ho) hb.1 (by simp; omega) (fun j hj => hs j (by simpa using hj)) (by
      have := congrArg (List.drop 1) hdr
      simp at this
      simp [this])
    have hs2 : Ev (fun k => impl_Debounce.l0 k (debStep h s c v).1 h (out.set p.length (debStep h s c v).1) (debStep h s c v).2 l (l.length : Int) ((p.length : Int) + 1)) W := by simpa using h2
    clear h2 hs hw hdr hd
    refine ev_pos (by omega) (ev_pos (by omega) (ev_pos (by omega) ?_))
    rw [hv, wrap_small (i := (p.length : Int) + 1) (by omega) (by omega), wrap_small (i := c + 1) (by omega) (by omega), Int.toNat_natCast]
    unfold debStep at hs2
    by_cases e1 : v = s
    · refine ev_pos (by simpa using e1) ?_
      rw [if_pos e1] at hs2
      by_cases e2 : 0 = h
      · rw [if_pos e2] at hs2
        exact ev_pos e2 (ev_pos (by omega) hs2)
      · rw [if_neg e2] at hs2
        exact ev_neg e2 (ev_pos (by omega) hs2)
    · refine ev_neg (by simpa using e1) ?_
      rw [if_neg e1] at hs2
      by_cases e2 : c + 1 = h
      · rw [if_pos e2] at hs2
        exact ev_pos e2 (ev_pos (by omega) hs2)
      · rw [if_neg e2] at hs2
        exact ev_neg e2 (ev_pos (by omega) hs2)
theorem impl_ev (a : Bool) (l : List Bool) (h : Int) (hn : l.length ≤ 1048576) : Ev (fun k => impl_Debounce.f k a l h) (debR a l h) := by
  simp only [impl_Debounce.f]
  unfold debR
  by_cases g : (l.length : Int) > 200
  · rw [if_neg (by omega)]
    refine ev_pos g (ev_succ ?_)
    simp only [impl_Debounce.j0]
    exact ev_pos trivial (ev_of rfl)
  · refine ev_neg g ?_
    rw [inI]
    refine ev_some (ev_succ ?_)
    simp only [impl_Debounce.j0]
    by_cases q : 1 ≤ h ∧ h ≤ 20
    · rw [if_pos ⟨by omega, q.1, q.2⟩]
      refine ev_neg (by simp [q.1, q.2]) (ev_pos (by omega) (ev_pos (by omega) ?_))
      have := impl_loop l h (by omega) (deb h a 0 l) (deb_length h l a 0) l [] (List.replicate ((l.length : Int)).toNat false) a 0 rfl (by simp) (by omega) (by simp) (fun j hj => by simp at hj) rfl
      simpa using this
    · rw [if_neg (by omega)]
      exact ev_pos (by simp; omega) (ev_of rfl)

theorem pure_holds : Pure := by
  intro a l h hl _
  refine Ev.rounds ?_
  simp only [laws_FnExactDebounce.f]
  by_cases hb : (l.length : Int) > 1048576
  · exact ev_pos hb (ev_of rfl)
  · have hn : l.length ≤ 1048576 := by omega
    refine ev_neg hb ?_
    have hR := debR_len a l h
    refine Ev.bind (toBool_ev l hn) ?_
    refine Ev.bind (spec_ev a l h hn) ?_
    refine Ev.bind (toBool_ev l hn) ?_
    refine Ev.bind (impl_ev a l h hn) ?_
    refine Ev.bind (eqBool_ev _ (by omega)) ?_
    refine ev_pos rfl ?_
    refine Ev.bind (toBool_ev l hn) ?_
    refine Ev.bind (eqBool_ev l hn) ?_
    refine ev_pos rfl ?_
    refine Ev.bind (markBool_ev l 1 (by omega) (by omega) hn) ?_
    refine ev_neg (by show ¬ (1 + (l.length : Int) < 0); omega) ?_
    refine Ev.bind (eqBool_ev _ (by omega)) ?_
    refine ev_succ ?_
    simp only [laws_FnExactDebounce.j0]
    refine ev_neg (by simp) ?_
    refine Ev.bind (markBool_ev _ 1 (by omega) (by omega) (by omega)) ?_
    refine Ev.bind (heldBool_ev 1 _ (by omega) (by omega) (by omega)) ?_
    refine ev_neg (by omega) (ev_pos rfl ?_)
    refine Ev.bind (toBool_ev l hn) ?_
    refine Ev.bind (impl_ev a l h hn) ?_
    refine Ev.bind (eqBool_ev _ (by omega)) ?_
    refine ev_pos rfl ?_
    refine Ev.bind (heldBool_ev 1 _ (by omega) (by omega) (by omega)) ?_
    refine ev_neg (by omega) (ev_pos rfl (ev_of rfl))

end Go.Proofs.Ytflemeaaiokjmaa.fnExactDebounce

/- The law FnExactMedianOf answers true for every list of numbers; no condition but that the numbers are of their kind. -/
import Derived.Test.YtpefkclpnkefnaaStFnExactMedianOf
namespace Go.Proofs.Ytpefkclpnkefnaa.fnExactMedianOf
open Go.RowKit Go.Proofs.Ytpefkclpnkefnaa.GFnExactMedianOf Go.Proofs.YtpefkclpnkefnaaV.PrintWords Go.Proofs.YtpefkclpnkefnaaV.PrintLast Go.Proofs.YtpefkclpnkefnaaV.PrintMore
set_option linter.unusedVariables false
set_option linter.unusedSimpArgs false

theorem ev_succ {α : Type} {g : Nat → Option α} {r : α} (h : Ev (fun k => g (k + 1)) r) : Ev g r := Ev.step (fun _ => rfl) h
theorem ev_pos {α : Type} {c : Prop} [Decidable c] {g f : Nat → Option α} {r : α} (hc : c) (h : Ev g r) : Ev (fun k => if c then g k else f k) r := Ev.congr (fun _ => if_pos hc) h
theorem ev_neg {α : Type} {c : Prop} [Decidable c] {g f : Nat → Option α} {r : α} (hc : ¬ c) (h : Ev f r) : Ev (fun k => if c then g k else f k) r := Ev.congr (fun _ => if_neg hc) h
theorem ev_some {α β : Type} {a : α} {f : Nat → α → Option β} {r : β} (h : Ev (fun k => f k a) r) : Ev (fun k => (some a).bind (f k)) r := h
theorem ev_of {α : Type} {a : Option α} {r : α} (h : a = some r) : Ev (fun _ => a) r := ⟨0, fun _ _ => h⟩
theorem ev_eq {α : Type} {g : Nat → Option α} {r r' : α} (h : Ev g r) (e : r = r') : Ev g r' := e ▸ h
theorem wrap_small {i : Int} (h0 : -9223372036854775808 ≤ i) (h1 : i ≤ 9223372036854775807) : wrap64 i = i := by unfold wrap64; omega
theorem wf_bounds {x : Int} (h : (Lit.int .i64 x).wf = true) : -9223372036854775808 ≤ x ∧ x ≤ 9223372036854775807 := by
  simp [Lit.wf, IntKind.min, IntKind.max, IntKind.signed, IntKind.bits] at h
  omega
theorem set_keeps {α : Type} (l out : List α) (d : α) (i : Nat) (hi : i < l.length) (ho : out.length = l.length) (h : ∀ j, j < i → out[j]? = l[j]?) : ∀ j, j < i + 1 → (out.set i (l.getD i d))[j]? = l[j]? := by
  intro j hj
  rw [List.getElem?_set]
  by_cases e : i = j
  · subst e
    rw [if_pos rfl, if_pos (by omega), List.getD_eq_getElem?_getD, List.getElem?_eq_getElem hi]
    rfl
  · rw [if_neg e]
    exact h j (by omega)
theorem all_kept {α : Type} (l out : List α) (ho : out.length = l.length) (h : ∀ j, j < l.length → out[j]? = l[j]?) : out = l := by
  apply List.ext_getElem?
  intro j
  by_cases hj : j < l.length
  · exact h j hj
  · rw [List.getElem?_eq_none (by omega), List.getElem?_eq_none (by omega)]

theorem toInt_loop (l : List Int) (hl : l.length ≤ 1048576) : ∀ (m i : Nat) (out : List Int), i + m = l.length → out.length = l.length → (∀ j, j < i → out[j]? = l[j]?) → Ev (fun k => laws_toIntS.l0 k l out (i : Int)) l := by
  intro m
  induction m with
  | zero =>
    intro i out hi ho h
    refine ev_succ ?_
    simp only [laws_toIntS.l0]
    refine ev_neg (by omega) ?_
    exact ev_of (congrArg some (all_kept l out ho (fun j hj => h j (by omega))))
  | succ m ih =>
    intro i out hi ho h
    refine ev_succ ?_
    simp only [laws_toIntS.l0]
    refine ev_pos (by omega) (ev_pos (by omega) (ev_pos (by omega) ?_))
    rw [wrap_small (by omega) (by omega)]
    have hs := ih (i + 1) (out.set i (l.getD i 0)) (by omega) (by simpa using ho) (set_keeps l out 0 i (by omega) ho h)
    simpa [rdOf, rd] using hs
theorem toInt_ev (l : List Int) (hl : l.length ≤ 1048576) : Ev (fun k => laws_toIntS.f k l) l := by
  simp only [laws_toIntS.f]
  refine ev_pos (by omega) (ev_pos (by omega) ?_)
  have h := toInt_loop l hl l.length 0 (List.replicate ((l.length : Int)).toNat 0) (by omega) (by simp) (fun j hj => by omega)
  exact h

theorem eqInt_loop (l : List Int) (hl : l.length ≤ 1048576) : ∀ (m i : Nat), i + m = l.length → Ev (fun k => laws_eqIntS.l0 k l l (i : Int)) true := by
  intro m
  induction m with
  | zero =>
    intro i hi
    refine ev_succ ?_
    simp only [laws_eqIntS.l0]
    exact ev_neg (by omega) (ev_of rfl)
  | succ m ih =>
    intro i hi
    refine ev_succ ?_
    simp only [laws_eqIntS.l0]
    refine ev_pos (by omega) (ev_pos (by omega) (ev_pos (by omega) ?_))
    refine ev_pos (by first | rfl | trivial) ?_
    rw [wrap_small (by omega) (by omega)]
    exact ih (i + 1) (by omega)
theorem eqInt_ev (l : List Int) (hl : l.length ≤ 1048576) : Ev (fun k => laws_eqIntS.f k l l) true := by
  simp only [laws_eqIntS.f]
  refine ev_pos (by first | rfl | trivial) ?_
  exact eqInt_loop l hl l.length 0 (by omega)

theorem inS (a b c : Int) : spec_l1In.f a b c = some (decide (b ≤ a) && decide (a ≤ c)) := by
  unfold spec_l1In.f
  by_cases h : a ≥ b
  · rw [if_pos h]; simp [show b ≤ a from h]
  · rw [if_neg h]; simp [show ¬ b ≤ a from h]

theorem rdi (l : List Int) (i : Nat) (h : i < l.length) : rd l (i : Int) = l[i] := by simp [rd, List.getD_eq_getElem?_getD, h]
theorem len_cap {l : Nat} (h : l ≤ maxLen) : (l : Int) ≤ 9223372036854775807 := by
  have : maxLen ≤ 9223372036854775807 := by decide
  omega
/-! The counts. -/
def ls (l : List Int) (x : Int) : Nat := l.countP fun y => decide (y < x)
def sm (l : List Int) (x : Int) : Nat := l.countP fun y => decide (y = x)
theorem le_split (l : List Int) (x : Int) : l.countP (fun y => decide (y ≤ x)) = ls l x + sm l x := by
  unfold ls sm
  induction l with
  | nil => rfl
  | cons y r ih =>
    simp only [List.countP_cons, ih]
    by_cases h1 : y < x
    · have h2 : y ≤ x := by omega
      have h3 : ¬ y = x := by omega
      simp [h1, h2, h3]
      omega
    · by_cases h3 : y = x
      · have h2 : y ≤ x := by omega
        simp [h1, h2, h3]
        omega
      · have h2 : ¬ y ≤ x := by omega
        simp [h1, h2, h3]
theorem count_le {p q : Int → Bool} (h : ∀ y, p y = true → q y = true) (l : List Int) : l.countP p ≤ l.countP q := List.countP_mono_left (fun y _ hy => h y hy)
def srt (l : List Int) : List Int := l.mergeSort fun x y => decide (x ≤ y)
theorem srt_len (l : List Int) : (srt l).length = l.length := List.length_mergeSort l
theorem srt_le (l : List Int) {i j : Nat} (hij : i ≤ j) (hj : j < (srt l).length) : (srt l)[i]'(by omega) ≤ (srt l)[j] := by
  rcases Nat.lt_or_ge i j with h | h
  · have hp : List.Pairwise (fun a b : Int => decide (a ≤ b) = true) (srt l) := List.pairwise_mergeSort (le := fun x y : Int => decide (x ≤ y)) (fun a b c h1 h2 => by simp at h1 h2 ⊢; omega) (fun a b => by simp; omega) l
    exact of_decide_eq_true (List.pairwise_iff_getElem.mp hp i j (by omega) hj h)
  · have : i = j := by omega
    subst this
    exact Int.le_refl _
theorem srt_ls (l : List Int) (x : Int) : ls (srt l) x = ls l x := List.Perm.countP_eq _ (List.mergeSort_perm l _)
theorem srt_sm (l : List Int) (x : Int) : sm (srt l) x = sm l x := List.Perm.countP_eq _ (List.mergeSort_perm l _)
theorem countP_none {p : Int → Bool} {l : List Int} (h : ∀ y ∈ l, p y = false) : l.countP p = 0 := List.countP_eq_zero.mpr (fun y hy => by rw [h y hy]; decide)
theorem countP_all {p : Int → Bool} {l : List Int} (h : ∀ y ∈ l, p y = true) : l.countP p = l.length := List.countP_eq_length.mpr h
/-- The middle of the sorted list: few are less, more than half are no greater. -/
theorem mid_counts (l : List Int) (m : Nat) (hm : m < (srt l).length) : ls l (srt l)[m] ≤ m ∧ m < ls l (srt l)[m] + sm l (srt l)[m] := by
  rw [← srt_ls, ← srt_sm]
  constructor
  · unfold ls
    have e := List.countP_append (p := fun y => decide (y < (srt l)[m])) (l₁ := (srt l).take m) (l₂ := (srt l).drop m)
    rw [List.take_append_drop] at e
    have z : ((srt l).drop m).countP (fun y => decide (y < (srt l)[m])) = 0 := countP_none (fun y hy => by
      obtain ⟨j, hj, rfl⟩ := List.getElem_of_mem hy
      rw [List.getElem_drop]
      have := srt_le l (i := m) (j := m + j) (by omega) (by simp at hj; omega)
      simp
      exact this)
    have hle := List.countP_le_length (p := fun y => decide (y < (srt l)[m])) (l := (srt l).take m)
    rw [List.length_take] at hle
    omega
  · rw [← le_split]
    have e := List.countP_append (p := fun y => decide (y ≤ (srt l)[m])) (l₁ := (srt l).take (m + 1)) (l₂ := (srt l).drop (m + 1))
    rw [List.take_append_drop] at e
    have z : ((srt l).take (m + 1)).countP (fun y => decide (y ≤ (srt l)[m])) = ((srt l).take (m + 1)).length := countP_all (fun y hy => by
      obtain ⟨j, hj, rfl⟩ := List.getElem_of_mem hy
      rw [List.getElem_take]
      have hj2 : j < m + 1 := by rw [List.length_take] at hj; omega
      have := srt_le l (i := j) (j := m) (by omega) hm
      simp
      exact this)
    rw [List.length_take] at z
    omega
theorem mid_only (l : List Int) (m : Nat) (hm : m < (srt l).length) (x : Int) (h1 : ls l x ≤ m) (h2 : m < ls l x + sm l x) : x = (srt l)[m] := by
  obtain ⟨h3, h4⟩ := mid_counts l m hm
  generalize (srt l)[m] = v at h3 h4
  rcases Int.lt_trichotomy x v with h | h | h
  · have : l.countP (fun y => decide (y ≤ x)) ≤ ls l v := count_le (fun y hy => by simp at hy ⊢; omega) l
    rw [le_split] at this
    omega
  · exact h
  · have : l.countP (fun y => decide (y ≤ v)) ≤ ls l x := count_le (fun y hy => by simp at hy ⊢; omega) l
    rw [le_split] at this
    omega
theorem mid_mem (l : List Int) (m : Nat) (hm : m < (srt l).length) : (srt l)[m] ∈ l := (List.mergeSort_perm l _).subset (List.getElem_mem hm)
theorem ls_succ (l : List Int) (x : Int) (j : Nat) (h : j < l.length) : ls (l.take (j + 1)) x = ls (l.take j) x + if l[j] < x then 1 else 0 := by
  unfold ls
  rw [List.take_succ_eq_append_getElem h, List.countP_append]
  by_cases hb : l[j] < x <;> simp [hb]
theorem sm_succ (l : List Int) (x : Int) (j : Nat) (h : j < l.length) : sm (l.take (j + 1)) x = sm (l.take j) x + if l[j] = x then 1 else 0 := by
  unfold sm
  rw [List.take_succ_eq_append_getElem h, List.countP_append]
  by_cases hb : l[j] = x <;> simp [hb]
/-! The specification. -/
theorem l2_loop (l : List Int) (hl : l.length ≤ 15) (i : Nat) (hi : i < l.length) (r : Int)
    (hend : if ls l l[i] ≤ l.length / 2 ∧ l.length / 2 < ls l l[i] + sm l l[i] then r = l[i] else Ev (fun k => spec_MedianOf.l1 k l ((i + 1 : Nat) : Int)) r) :
    ∀ (m j : Nat), j + m = l.length → Ev (fun k => spec_MedianOf.l2 k l (i : Int) (ls (l.take j) l[i] : Nat) (sm (l.take j) l[i] : Nat) (j : Int)) r := by
  intro m
  induction m with
  | zero =>
    intro j hj
    refine ev_succ ?_
    simp only [spec_MedianOf.l2]
    rw [List.take_of_length_le (by omega)]
    have e1 : ls l l[i] ≤ l.length := List.countP_le_length
    have e2 : sm l l[i] ≤ l.length := List.countP_le_length
    have hh : wrap64 ((l.length : Int) / 2) = ((l.length / 2 : Nat) : Int) := by rw [wrap_small (by omega) (by omega)]; omega
    rw [hh, rdi l i hi, wrap_small (i := (i : Int) + 1) (by omega) (by omega), wrap_small (i := ((ls l l[i] : Nat) : Int) + ((sm l l[i] : Nat) : Int)) (by omega) (by omega)]
    refine ev_neg (by omega) ?_
    by_cases h1 : ls l l[i] ≤ l.length / 2
    · refine ev_pos (by omega) ?_
      by_cases h2 : l.length / 2 < ls l l[i] + sm l l[i]
      · rw [if_pos ⟨h1, h2⟩] at hend
        exact ev_pos (by omega) (ev_pos (by omega) (ev_pos (by omega) (ev_of (by rw [hend]))))
      · rw [if_neg (fun h => h2 h.2)] at hend
        exact ev_neg (by omega) hend
    · rw [if_neg (fun h => h1 h.1)] at hend
      exact ev_neg (by omega) hend
  | succ m ih =>
    intro j hj
    have hlt : j < l.length := by omega
    have h1 := ih (j + 1) (by omega)
    have e1 : ls (l.take j) l[i] ≤ j := Nat.le_trans List.countP_le_length (by rw [List.length_take]; omega)
    have e2 : sm (l.take j) l[i] ≤ j := Nat.le_trans List.countP_le_length (by rw [List.length_take]; omega)
    rw [ls_succ l _ j hlt, sm_succ l _ j hlt] at h1
    refine ev_succ ?_
    simp only [spec_MedianOf.l2]
    rw [rdi l i hi, rdi l j hlt, wrap_small (i := (j : Int) + 1) (by omega) (by omega), wrap_small (i := ((ls (l.take j) l[i] : Nat) : Int) + 1) (by omega) (by omega), wrap_small (i := ((sm (l.take j) l[i] : Nat) : Int) + 1) (by omega) (by omega)]
    refine ev_pos (by omega) (ev_pos (by omega) (ev_pos (by omega) (ev_pos (by omega) ?_)))
    by_cases ha : l[j] < l[i]
    · have hb : ¬ l[j] = l[i] := by omega
      rw [if_pos ha, if_neg hb] at h1
      exact ev_pos ha (ev_neg hb h1)
    · by_cases hb : l[j] = l[i]
      · rw [if_neg ha, if_pos hb] at h1
        exact ev_neg ha (ev_pos hb h1)
      · rw [if_neg ha, if_neg hb] at h1
        exact ev_neg ha (ev_neg hb h1)
theorem l1_loop (l : List Int) (hl : l.length ≤ 15) (v : Int) (hv : ∀ x, ls l x ≤ l.length / 2 → l.length / 2 < ls l x + sm l x → x = v) (h1 : ls l v ≤ l.length / 2) (h2 : l.length / 2 < ls l v + sm l v) : ∀ (m i : Nat), i + m = l.length → v ∈ l.drop i → Ev (fun k => spec_MedianOf.l1 k l (i : Int)) v := by
  intro m
  induction m with
  | zero =>
    intro i hi hm
    rw [List.drop_eq_nil_of_le (by omega)] at hm
    cases hm
  | succ m ih =>
    intro i hi hm
    have hlt : i < l.length := by omega
    refine ev_succ ?_
    simp only [spec_MedianOf.l1]
    refine ev_pos (by omega) ?_
    refine l2_loop l hl i hlt v ?_ l.length 0 (by omega)
    by_cases h : ls l l[i] ≤ l.length / 2 ∧ l.length / 2 < ls l l[i] + sm l l[i]
    · rw [if_pos h]
      exact (hv _ h.1 h.2).symm
    · rw [if_neg h]
      refine ih (i + 1) (by omega) ?_
      rw [List.drop_eq_getElem_cons hlt] at hm
      rcases List.mem_cons.1 hm with e | hm
      · subst e
        exact absurd ⟨h1, h2⟩ h
      · exact hm
def Med (l : List Int) : Int := if l.length % 2 = 0 ∨ 15 < l.length ∨ l.any impl_areWords.bad = true then 0 else rd (srt l) ((l.length / 2 : Nat) : Int)
theorem word_bad (x : Int) : spec_l7Word.f x = some (!impl_areWords.bad x) := by
  unfold spec_l7Word.f
  rw [inS]
  simp [impl_areWords.bad]
theorem l0_loop (l : List Int) (hl : l.length ≤ 15) (r : Int) (hr : l.any impl_areWords.bad = false → Ev (fun k => spec_MedianOf.l1 k l 0) r) (h0 : l.any impl_areWords.bad = true → r = 0) : ∀ (m i : Nat), i + m = l.length → (l.take i).any impl_areWords.bad = false → Ev (fun k => spec_MedianOf.l0 k l (i : Int)) r := by
  intro m
  induction m with
  | zero =>
    intro i hi h
    refine ev_succ ?_
    simp only [spec_MedianOf.l0]
    rw [List.take_of_length_le (by omega)] at h
    exact ev_neg (by omega) (hr h)
  | succ m ih =>
    intro i hi h
    have hlt : i < l.length := by omega
    refine ev_succ ?_
    simp only [spec_MedianOf.l0]
    rw [rdi l i hlt, word_bad, wrap_small (by omega) (by omega)]
    refine ev_pos (by omega) (ev_pos (by omega) (ev_some ?_))
    by_cases hb : impl_areWords.bad l[i] = true
    · refine ev_neg (by simp [hb]) (ev_of ?_)
      rw [h0 (List.any_eq_true.mpr ⟨l[i], List.getElem_mem hlt, hb⟩)]
    · refine ev_pos (by simpa using hb) (ih (i + 1) (by omega) ?_)
      rw [List.take_succ_eq_append_getElem hlt, List.any_append, h]
      simpa using hb
theorem medS (l : List Int) : Ev (fun k => spec_MedianOf.f k l) (Med l) := by
  simp only [spec_MedianOf.f]
  by_cases h1 : l.length % 2 = 0
  · refine ev_pos (by omega) (ev_succ ?_)
    simp only [spec_MedianOf.j0]
    exact ev_pos (by first | rfl | trivial) (ev_of (by unfold Med; rw [if_pos (.inl h1)]))
  · refine ev_neg (by omega) (ev_succ ?_)
    simp only [spec_MedianOf.j0]
    by_cases h2 : 15 < l.length
    · exact ev_pos (by simp; omega) (ev_of (by unfold Med; rw [if_pos (.inr (.inl h2))]))
    · refine ev_neg (by simp; omega) ?_
      refine l0_loop l (by omega) _ (fun hw => ?_) (fun hw => by unfold Med; rw [if_pos (.inr (.inr hw))]) l.length 0 (by omega) rfl
      have hs := srt_len l
      have hm : l.length / 2 < (srt l).length := by omega
      have e : Med l = (srt l)[l.length / 2] := by
        unfold Med
        rw [if_neg (by rintro (h | h | h); exact h1 h; exact h2 h; rw [hw] at h; cases h), rdi _ _ hm]
      rw [e]
      obtain ⟨c1, c2⟩ := mid_counts l _ hm
      exact l1_loop l (by omega) _ (fun x a b => mid_only l _ hm x a b) c1 c2 l.length 0 (by omega) (by rw [List.drop_zero]; exact mid_mem l _ hm)
theorem medI (l : List Int) (hn : l.length ≤ 1048576) : Ev (fun k => impl_MedianOf.f k l) (Med l) := by
  simp only [impl_MedianOf.f]
  have zero : ∀ {b : Bool}, b = true → Med l = 0 → Ev (fun k => impl_MedianOf.j0 k l b) (Med l) := by
    intro b hb h
    subst hb
    refine ev_succ ?_
    simp only [impl_MedianOf.j0]
    exact ev_pos (by first | rfl | trivial) (ev_of (by rw [h]))
  by_cases h1 : l.length % 2 = 0
  · exact ev_pos (by omega) (zero rfl (by unfold Med; rw [if_pos (.inl h1)]))
  · refine ev_neg (by omega) ?_
    by_cases h2 : 15 < l.length
    · exact ev_pos (by omega) (zero rfl (by unfold Med; rw [if_pos (.inr (.inl h2))]))
    · refine ev_neg (by omega) ?_
      rw [show impl_areWords.f l = some (!l.any impl_areWords.bad) from rfl]
      refine ev_some ?_
      by_cases hw : l.any impl_areWords.bad = true
      · rw [hw]
        exact zero rfl (by unfold Med; rw [if_pos (.inr (.inr hw))])
      · have hw' : l.any impl_areWords.bad = false := by simpa using hw
        rw [hw']
        refine ev_succ ?_
        simp only [impl_MedianOf.j0]
        refine ev_neg (by simp) ?_
        have hs := srt_len l
        rw [show slices_Clone_int_int.f l = some l from by unfold slices_Clone_int_int.f; rw [if_pos (by omega)]]
        refine ev_some ?_
        rw [show slices_Sort_int_int.f l = some (srt l) from by unfold slices_Sort_int_int.f; rw [if_pos ⟨by omega, by omega⟩]; rfl]
        refine ev_some ?_
        have hh : wrap64 ((l.length : Int) / 2) = ((l.length / 2 : Nat) : Int) := by rw [wrap_small (by omega) (by omega)]; omega
        rw [hh]
        refine ev_pos (by omega) (ev_pos (by omega) (ev_of ?_))
        unfold Med
        rw [if_neg (by rintro (h | h | h); exact h1 h; exact h2 h; exact hw h)]

theorem pure_holds : Pure := by
  intro l hl
  refine Ev.rounds ?_
  simp only [laws_FnExactMedianOf.f]
  have hlm := len_cap hl.1
  by_cases hb : (l.length : Int) > 1048576
  · exact ev_pos hb (ev_of rfl)
  · refine ev_neg hb ?_
    have hln : l.length ≤ 1048576 := by omega
    have t := toInt_ev l hln
    refine Ev.bind t (Ev.bind (medS l) (Ev.bind t (Ev.bind (medI l hln) (ev_pos rfl ?_))))
    refine Ev.bind t (Ev.bind (eqInt_ev l hln) (ev_pos rfl (ev_of rfl)))

end Go.Proofs.Ytpefkclpnkefnaa.fnExactMedianOf

/- The law FnExactChangedBits answers true for every two images; no condition but that the numbers are of their kind. -/
import Derived.Test.YtmlhkalgaeemaaaStFnExactChangedBits
namespace Go.Proofs.Ytmlhkalgaeemaaa.fnExactChangedBits
open Go.RowKit Go.Proofs.Ytmlhkalgaeemaaa.GFnExactChangedBits Go.Proofs.YtmlhkalgaeemaaaV.PrintWords Go.Proofs.YtmlhkalgaeemaaaV.PrintLast Go.Proofs.YtmlhkalgaeemaaaV.PrintMore
set_option linter.unusedVariables false
set_option linter.unusedSimpArgs false

theorem ev_succ {α : Type} {g : Nat → Option α} {r : α} (h : Ev (fun k => g (k + 1)) r) : Ev g r := Ev.step (fun _ => rfl) h
theorem ev_pos {α : Type} {c : Prop} [Decidable c] {g f : Nat → Option α} {r : α} (hc : c) (h : Ev g r) : Ev (fun k => if c then g k else f k) r := Ev.congr (fun _ => if_pos hc) h
theorem ev_neg {α : Type} {c : Prop} [Decidable c] {g f : Nat → Option α} {r : α} (hc : ¬ c) (h : Ev f r) : Ev (fun k => if c then g k else f k) r := Ev.congr (fun _ => if_neg hc) h
theorem ev_some {α β : Type} {a : α} {f : Nat → α → Option β} {r : β} (h : Ev (fun k => f k a) r) : Ev (fun k => (some a).bind (f k)) r := h
theorem ev_of {α : Type} {a : Option α} {r : α} (h : a = some r) : Ev (fun _ => a) r := ⟨0, fun _ _ => h⟩
theorem ev_eq {α : Type} {g : Nat → Option α} {r r' : α} (h : Ev g r) (e : r = r') : Ev g r' := e ▸ h
theorem wrap_small {i : Int} (h0 : -9223372036854775808 ≤ i) (h1 : i ≤ 9223372036854775807) : wrap64 i = i := by unfold wrap64; omega
theorem wf_bounds {x : Int} (h : (Lit.int .i64 x).wf = true) : -9223372036854775808 ≤ x ∧ x ≤ 9223372036854775807 := by
  simp [Lit.wf, IntKind.min, IntKind.max, IntKind.signed, IntKind.bits] at h
  omega
theorem set_keeps {α : Type} (l out : List α) (d : α) (i : Nat) (hi : i < l.length) (ho : out.length = l.length) (h : ∀ j, j < i → out[j]? = l[j]?) : ∀ j, j < i + 1 → (out.set i (l.getD i d))[j]? = l[j]? := by
  intro j hj
  rw [List.getElem?_set]
  by_cases e : i = j
  · subst e
    rw [if_pos rfl, if_pos (by omega), List.getD_eq_getElem?_getD, List.getElem?_eq_getElem hi]
    rfl
  · rw [if_neg e]
    exact h j (by omega)
theorem all_kept {α : Type} (l out : List α) (ho : out.length = l.length) (h : ∀ j, j < l.length → out[j]? = l[j]?) : out = l := by
  apply List.ext_getElem?
  intro j
  by_cases hj : j < l.length
  · exact h j hj
  · rw [List.getElem?_eq_none (by omega), List.getElem?_eq_none (by omega)]

theorem toBool_loop (l : List Bool) (hl : l.length ≤ 1048576) : ∀ (m i : Nat) (out : List Bool), i + m = l.length → out.length = l.length → (∀ j, j < i → out[j]? = l[j]?) → Ev (fun k => laws_toBoolS.l0 k l out (i : Int)) l := by
  intro m
  induction m with
  | zero =>
    intro i out hi ho h
    refine ev_succ ?_
    simp only [laws_toBoolS.l0]
    refine ev_neg (by omega) ?_
    exact ev_of (congrArg some (all_kept l out ho (fun j hj => h j (by omega))))
  | succ m ih =>
    intro i out hi ho h
    refine ev_succ ?_
    simp only [laws_toBoolS.l0]
    refine ev_pos (by omega) (ev_pos (by omega) (ev_pos (by omega) ?_))
    rw [wrap_small (by omega) (by omega)]
    have hs := ih (i + 1) (out.set i (l.getD i false)) (by omega) (by simpa using ho) (set_keeps l out false i (by omega) ho h)
    simpa [rdOf, rd] using hs
theorem toBool_ev (l : List Bool) (hl : l.length ≤ 1048576) : Ev (fun k => laws_toBoolS.f k l) l := by
  simp only [laws_toBoolS.f]
  refine ev_pos (by omega) (ev_pos (by omega) ?_)
  have h := toBool_loop l hl l.length 0 (List.replicate ((l.length : Int)).toNat false) (by omega) (by simp) (fun j hj => by omega)
  exact h

theorem toInt_loop (l : List Int) (hl : l.length ≤ 1048576) : ∀ (m i : Nat) (out : List Int), i + m = l.length → out.length = l.length → (∀ j, j < i → out[j]? = l[j]?) → Ev (fun k => laws_toIntS.l0 k l out (i : Int)) l := by
  intro m
  induction m with
  | zero =>
    intro i out hi ho h
    refine ev_succ ?_
    simp only [laws_toIntS.l0]
    refine ev_neg (by omega) ?_
    exact ev_of (congrArg some (all_kept l out ho (fun j hj => h j (by omega))))
  | succ m ih =>
    intro i out hi ho h
    refine ev_succ ?_
    simp only [laws_toIntS.l0]
    refine ev_pos (by omega) (ev_pos (by omega) (ev_pos (by omega) ?_))
    rw [wrap_small (by omega) (by omega)]
    have hs := ih (i + 1) (out.set i (l.getD i 0)) (by omega) (by simpa using ho) (set_keeps l out 0 i (by omega) ho h)
    simpa [rdOf, rd] using hs
theorem toInt_ev (l : List Int) (hl : l.length ≤ 1048576) : Ev (fun k => laws_toIntS.f k l) l := by
  simp only [laws_toIntS.f]
  refine ev_pos (by omega) (ev_pos (by omega) ?_)
  have h := toInt_loop l hl l.length 0 (List.replicate ((l.length : Int)).toNat 0) (by omega) (by simp) (fun j hj => by omega)
  exact h

theorem eqBool_loop (l : List Bool) (hl : l.length ≤ 1048576) : ∀ (m i : Nat), i + m = l.length → Ev (fun k => laws_eqBoolS.l0 k l l (i : Int)) true := by
  intro m
  induction m with
  | zero =>
    intro i hi
    refine ev_succ ?_
    simp only [laws_eqBoolS.l0]
    exact ev_neg (by omega) (ev_of rfl)
  | succ m ih =>
    intro i hi
    refine ev_succ ?_
    simp only [laws_eqBoolS.l0]
    refine ev_pos (by omega) (ev_pos (by omega) (ev_pos (by omega) ?_))
    refine ev_neg (by simp) ?_
    rw [wrap_small (by omega) (by omega)]
    exact ih (i + 1) (by omega)
theorem eqBool_ev (l : List Bool) (hl : l.length ≤ 1048576) : Ev (fun k => laws_eqBoolS.f k l l) true := by
  simp only [laws_eqBoolS.f]
  refine ev_pos (by first | rfl | trivial) ?_
  exact eqBool_loop l hl l.length 0 (by omega)

theorem eqInt_loop (l : List Int) (hl : l.length ≤ 1048576) : ∀ (m i : Nat), i + m = l.length → Ev (fun k => laws_eqIntS.l0 k l l (i : Int)) true := by
  intro m
  induction m with
  | zero =>
    intro i hi
    refine ev_succ ?_
    simp only [laws_eqIntS.l0]
    exact ev_neg (by omega) (ev_of rfl)
  | succ m ih =>
    intro i hi
    refine ev_succ ?_
    simp only [laws_eqIntS.l0]
    refine ev_pos (by omega) (ev_pos (by omega) (ev_pos (by omega) ?_))
    refine ev_pos (by first | rfl | trivial) ?_
    rw [wrap_small (by omega) (by omega)]
    exact ih (i + 1) (by omega)
theorem eqInt_ev (l : List Int) (hl : l.length ≤ 1048576) : Ev (fun k => laws_eqIntS.f k l l) true := by
  simp only [laws_eqIntS.f]
  refine ev_pos (by first | rfl | trivial) ?_
  exact eqInt_loop l hl l.length 0 (by omega)

theorem sz_image (b : List Bool) (w : List Int) (left : Int) (h0 : 0 ≤ left) (h1 : left ≤ 1048576) (hb : b.length ≤ maxLen) (hw : w.length ≤ maxLen) :
    (∃ r, laws_szImage.f b w left = some r ∧ r < 0) ∨ ((b.length : Int) + w.length ≤ left ∧ laws_szImage.f b w left = some (left - b.length - w.length)) := by
  unfold maxLen at hb hw
  unfold laws_szImage.f laws_szBoolS.f laws_szIntS.f
  have e1 : wrap64 (left - (b.length : Int)) = left - b.length := wrap_small (by omega) (by omega)
  rw [e1]
  by_cases h : left - (b.length : Int) < 0
  · rw [if_pos h]
    exact .inl ⟨-1, rfl, by omega⟩
  · rw [if_neg h]
    simp only [Option.bind_some]
    rw [if_neg h]
    have e2 : wrap64 (left - (b.length : Int) - (w.length : Int)) = left - b.length - w.length := wrap_small (by omega) (by omega)
    rw [e2]
    by_cases h2 : left - (b.length : Int) - (w.length : Int) < 0
    · rw [if_pos h2]
      exact .inl ⟨-1, rfl, by omega⟩
    · rw [if_neg h2]
      simp only [Option.bind_some]
      rw [if_neg h2]
      exact .inr ⟨by omega, rfl⟩
theorem toImage_ev (b : List Bool) (w : List Int) (hb : b.length ≤ 1048576) (hw : w.length ≤ 1048576) : Ev (fun k => laws_toImage.f k b w) (b, w) := by
  simp only [laws_toImage.f]
  refine Ev.bind (toBool_ev b hb) ?_
  refine Ev.bind (toInt_ev w hw) ?_
  exact ev_of rfl
theorem eqImage_ev (b : List Bool) (w : List Int) (hb : b.length ≤ 1048576) (hw : w.length ≤ 1048576) : Ev (fun k => laws_eqImage.f k b w b w) true := by
  simp only [laws_eqImage.f]
  refine Ev.bind (eqBool_ev b hb) (ev_pos rfl ?_)
  refine Ev.bind (eqInt_ev w hw) (ev_pos rfl ?_)
  exact ev_of rfl

def mkBool (c : Int) (n : Nat) : List Bool := (List.range n).map fun j : Nat => ((Int.tmod (c + (j : Int)) 3) == 0)
theorem mkBool_length (c : Int) (n : Nat) : (mkBool c n).length = n := by simp [mkBool]
theorem mkBool_get (c : Int) (n i : Nat) (h : i < n) : (mkBool c n)[i]? = some ((Int.tmod (c + (i : Int)) 3) == 0) := by
  simp [mkBool, h]
theorem markBool_loop (l : List Bool) (c : Int) (hc : 0 ≤ c) (hc2 : c ≤ 100000000) (hl : l.length ≤ 1048576) : ∀ (m i : Nat) (out : List Bool), i + m = l.length → out.length = l.length → (∀ j, j < i → out[j]? = (mkBool c l.length)[j]?) →
    Ev (fun k => laws_markBoolS.l0 k out (c + (i : Int)) (i : Int)) (c + (l.length : Int), mkBool c l.length) := by
  intro m
  induction m with
  | zero =>
    intro i out hi ho h
    refine ev_succ ?_
    simp only [laws_markBoolS.l0]
    refine ev_neg (by omega) ?_
    have e : out = mkBool c l.length := all_kept _ _ (by rw [mkBool_length, ho]) (fun j hj => h j (by rw [mkBool_length] at hj; omega))
    exact ev_of (by rw [e, show i = l.length by omega])
  | succ m ih =>
    intro i out hi ho h
    refine ev_succ ?_
    simp only [laws_markBoolS.l0]
    refine ev_pos (by omega) (ev_pos (by omega) ?_)
    rw [wrap_small (by omega) (by omega), wrap_small (by omega) (by omega)]
    have hg := mkBool_get c l.length i (by omega)
    have hs := ih (i + 1) (out.set i ((mkBool c l.length).getD i false)) (by omega) (by simpa using ho) (set_keeps _ out false i (by rw [mkBool_length]; omega) (by rw [mkBool_length, ho]) h)
    rw [List.getD_eq_getElem?_getD, hg] at hs
    simp only [Option.getD_some] at hs
    have e1 : c + (i : Int) + 1 = c + ((i + 1 : Nat) : Int) := by omega
    rw [e1]
    exact hs
theorem markBool_ev (l : List Bool) (c : Int) (hc : 0 ≤ c) (hc2 : c ≤ 100000000) (hl : l.length ≤ 1048576) : Ev (fun k => laws_markBoolS.f k l c) (c + (l.length : Int), mkBool c l.length) := by
  simp only [laws_markBoolS.f]
  have h := markBool_loop l c hc hc2 hl l.length 0 l (by omega) rfl (fun j hj => by omega)
  have e : c + ((0 : Nat) : Int) = c := by omega
  rw [e] at h
  exact h

def mkInt (c : Int) (n : Nat) : List Int := (List.range n).map fun j : Nat => (c + (j : Int))
theorem mkInt_length (c : Int) (n : Nat) : (mkInt c n).length = n := by simp [mkInt]
theorem mkInt_get (c : Int) (n i : Nat) (h : i < n) : (mkInt c n)[i]? = some (c + (i : Int)) := by
  simp [mkInt, h]
theorem markInt_loop (l : List Int) (c : Int) (hc : 0 ≤ c) (hc2 : c ≤ 100000000) (hl : l.length ≤ 1048576) : ∀ (m i : Nat) (out : List Int), i + m = l.length → out.length = l.length → (∀ j, j < i → out[j]? = (mkInt c l.length)[j]?) →
    Ev (fun k => laws_markIntS.l0 k out (c + (i : Int)) (i : Int)) (c + (l.length : Int), mkInt c l.length) := by
  intro m
  induction m with
  | zero =>
    intro i out hi ho h
    refine ev_succ ?_
    simp only [laws_markIntS.l0]
    refine ev_neg (by omega) ?_
    have e : out = mkInt c l.length := all_kept _ _ (by rw [mkInt_length, ho]) (fun j hj => h j (by rw [mkInt_length] at hj; omega))
    exact ev_of (by rw [e, show i = l.length by omega])
  | succ m ih =>
    intro i out hi ho h
    refine ev_succ ?_
    simp only [laws_markIntS.l0]
    refine ev_pos (by omega) (ev_pos (by omega) ?_)
    rw [wrap_small (by omega) (by omega), wrap_small (by omega) (by omega)]
    have hg := mkInt_get c l.length i (by omega)
    have hs := ih (i + 1) (out.set i ((mkInt c l.length).getD i 0)) (by omega) (by simpa using ho) (set_keeps _ out 0 i (by rw [mkInt_length]; omega) (by rw [mkInt_length, ho]) h)
    rw [List.getD_eq_getElem?_getD, hg] at hs
    simp only [Option.getD_some] at hs
    have e1 : c + (i : Int) + 1 = c + ((i + 1 : Nat) : Int) := by omega
    rw [e1]
    exact hs
theorem markInt_ev (l : List Int) (c : Int) (hc : 0 ≤ c) (hc2 : c ≤ 100000000) (hl : l.length ≤ 1048576) : Ev (fun k => laws_markIntS.f k l c) (c + (l.length : Int), mkInt c l.length) := by
  simp only [laws_markIntS.f]
  have h := markInt_loop l c hc hc2 hl l.length 0 l (by omega) rfl (fun j hj => by omega)
  have e : c + ((0 : Nat) : Int) = c := by omega
  rw [e] at h
  exact h

theorem heldInt_loop (c : Int) (n : Nat) (hc : 0 ≤ c) (hc2 : c ≤ 100000000) (hn : n ≤ 1048576) : ∀ (m i : Nat), i + m = n → Ev (fun k => laws_heldIntS.l0 k (mkInt c n) (c + (i : Int)) (i : Int)) (c + (n : Int)) := by
  intro m
  induction m with
  | zero =>
    intro i hi
    refine ev_succ ?_
    simp only [laws_heldIntS.l0]
    exact ev_neg (by rw [mkInt_length]; omega) (ev_of (by rw [show i = n by omega]))
  | succ m ih =>
    intro i hi
    refine ev_succ ?_
    simp only [laws_heldIntS.l0]
    refine ev_pos (by rw [mkInt_length]; omega) (ev_pos (by omega) ?_)
    have hg := mkInt_get c n i (by omega)
    refine ev_pos (by simp [rd, List.getD_eq_getElem?_getD, hg]) ?_
    rw [wrap_small (by omega) (by omega), wrap_small (by omega) (by omega)]
    have e1 : c + (i : Int) + 1 = c + ((i + 1 : Nat) : Int) := by omega
    rw [e1]
    exact ih (i + 1) (by omega)
theorem heldInt_ev (c : Int) (n : Nat) (hc : 0 ≤ c) (hc2 : c ≤ 100000000) (hn : n ≤ 1048576) : Ev (fun k => laws_heldIntS.f k (mkInt c n) c) (c + (n : Int)) := by
  simp only [laws_heldIntS.f]
  have h := heldInt_loop c n hc hc2 hn n 0 (by omega)
  have e : c + ((0 : Nat) : Int) = c := by omega
  rw [e] at h
  exact h

theorem inS (a b c : Int) : spec_l1In.f a b c = some (decide (b ≤ a) && decide (a ≤ c)) := by
  unfold spec_l1In.f
  by_cases h : a ≥ b
  · rw [if_pos h]; simp [show b ≤ a from h]
  · rw [if_neg h]; simp [show ¬ b ≤ a from h]

/-- Is a number a word? -/
def word (x : Int) : Bool := decide (-32768 ≤ x) && decide (x ≤ 32767)
def iv (b : List Bool) (w : List Int) : Bool := decide ((b.length : Int) ≤ 16) && decide ((w.length : Int) ≤ 8) && w.all word
theorem ivI (b : List Bool) (w : List Int) : impl_ImageValid.f b w = some (iv b w) := by
  unfold impl_ImageValid.f iv
  have : w.all word = !w.any impl_ImageValid.bad := by
    induction w with
    | nil => rfl
    | cons x r ih =>
      rw [List.all_cons, List.any_cons, ih]
      simp [impl_ImageValid.bad, word]
  rw [this]
theorem ivS_loop (b : List Bool) (w : List Int) (hw : w.length ≤ 1048576) : ∀ (m i : Nat), i + m = w.length → Ev (fun k => spec_ImageValid.l0 k (i : Int) b w) (decide ((b.length : Int) ≤ 16) && decide ((w.length : Int) ≤ 8) && (w.drop i).all word) := by
  intro m
  induction m with
  | zero =>
    intro i hi
    refine ev_succ ?_
    simp only [spec_ImageValid.l0]
    refine ev_neg (by omega) ?_
    rw [List.drop_eq_nil_of_le (by omega)]
    by_cases h : (b.length : Int) ≤ 16
    · exact ev_pos h (ev_of (by simp [h]))
    · exact ev_neg h (ev_of (by simp [h]))
  | succ m ih =>
    intro i hi
    refine ev_succ ?_
    simp only [spec_ImageValid.l0]
    refine ev_pos (by omega) (ev_pos (by omega) ?_)
    have hg : rd w (i : Int) = w[i]'(by omega) := by simp [rd, List.getD_eq_getElem?_getD, show i < w.length by omega]
    have hd : w.drop i = w[i]'(by omega) :: w.drop (i + 1) := List.drop_eq_getElem_cons (by omega)
    rw [inS, hg, hd, List.all_cons]
    refine ev_some ?_
    by_cases h : word (w[i]'(by omega)) = true
    · refine ev_pos h ?_
      rw [wrap_small (by omega) (by omega), h, Bool.true_and]
      exact ih (i + 1) (by omega)
    · refine ev_neg h (ev_of ?_)
      rw [show word (w[i]'(by omega)) = false by simpa using h]
      simp
theorem ivS (b : List Bool) (w : List Int) (hw : w.length ≤ 1048576) : Ev (fun k => spec_ImageValid.f k b w) (iv b w) := by
  simp only [spec_ImageValid.f]
  exact ivS_loop b w hw w.length 0 (by omega)

theorem markImage_ev (b : List Bool) (w : List Int) (c : Int) (hc : 0 ≤ c) (hc2 : c ≤ 50000000) (hb : b.length ≤ 1048576) (hw : w.length ≤ 1048576) : ∃ m, Ev (fun k => laws_markImage.f k b w c) (c + b.length + w.length, m) := by
  refine ⟨(mkBool c b.length, mkInt (c + b.length) w.length), ?_⟩
  simp only [laws_markImage.f]
  refine Ev.bind (markBool_ev b c hc (by omega) hb) ?_
  dsimp only
  refine Ev.bind (markInt_ev w (c + b.length) (by omega) (by omega) hw) ?_
  exact ev_of rfl
/-- The places from i on at which two lists differ. -/
def dif (a b : List Bool) : Nat → Nat → List Int
  | _, 0 => []
  | i, m + 1 => if (rdOf false a (i : Int) != rdOf false b (i : Int)) = true then (i : Int) :: dif a b (i + 1) m else dif a b (i + 1) m
theorem dif_len (a b : List Bool) : ∀ (m i : Nat), (dif a b i m).length ≤ m
  | 0, _ => Nat.le_refl _
  | m + 1, i => by
    unfold dif
    have := dif_len a b m (i + 1)
    split
    · simp; omega
    · omega
def R (b : List Bool) (w : List Int) (b2 : List Bool) (w2 : List Int) : List Int := if iv b w && iv b2 w2 && !((b.length : Int) != (b2.length : Int)) then dif b b2 0 b.length else []
theorem iv_len {b : List Bool} {w : List Int} (h : iv b w = true) : b.length ≤ 16 := by
  simp [iv] at h
  omega
theorem R_len (b : List Bool) (w : List Int) (b2 : List Bool) (w2 : List Int) : (R b w b2 w2).length ≤ 16 := by
  unfold R
  split
  · rename_i h
    have h2 : iv b w = true := by
      cases hh : iv b w
      · rw [hh] at h; simp at h
      · rfl
    exact Nat.le_trans (dif_len b b2 b.length 0) (iv_len h2)
  · simp
theorem spL (a : List Bool) (wa : List Int) (b : List Bool) (wb : List Int) (ha : a.length ≤ 16) (hab : a.length = b.length) : ∀ (m i : Nat) (acc : List Int), i + m = a.length → acc.length ≤ i → Ev (fun k => spec_ChangedBits.l0 k acc (i : Int) a wa b wb) (acc ++ dif a b i m) := by
  intro m
  induction m with
  | zero =>
    intro i acc hi hl
    refine ev_succ ?_
    simp only [spec_ChangedBits.l0]
    exact ev_neg (by omega) (ev_of (by simp [dif]))
  | succ m ih =>
    intro i acc hi hl
    refine ev_succ ?_
    simp only [spec_ChangedBits.l0]
    refine ev_pos (by omega) (ev_pos (by omega) (ev_pos (by omega) ?_))
    rw [wrap_small (by omega) (by omega)]
    by_cases h : (rdOf false a (i : Int) != rdOf false b (i : Int)) = true
    · refine ev_pos h (ev_pos (by omega) ?_)
      have := ih (i + 1) (acc ++ [(i : Int)]) (by omega) (by simp; omega)
      rw [dif, if_pos h]
      rw [List.append_assoc] at this
      exact this
    · refine ev_neg h ?_
      rw [dif, if_neg h]
      exact ih (i + 1) acc (by omega) (by omega)
theorem imL (a : List Bool) (wa : List Int) (b : List Bool) (wb : List Int) (ha : a.length ≤ 16) (hab : a.length = b.length) : ∀ (m i : Nat) (acc : List Int), i + m = a.length → acc.length ≤ i → Ev (fun k => impl_ChangedBits.l0 k acc (a.length : Int) (i : Int) a wa b wb) (acc ++ dif a b i m) := by
  intro m
  induction m with
  | zero =>
    intro i acc hi hl
    refine ev_succ ?_
    simp only [impl_ChangedBits.l0, slices_Clip_int_int.f]
    exact ev_neg (by omega) (ev_of (by simp [dif]))
  | succ m ih =>
    intro i acc hi hl
    refine ev_succ ?_
    simp only [impl_ChangedBits.l0]
    refine ev_pos (by omega) (ev_pos (by omega) (ev_pos (by omega) (ev_pos (by omega) ?_)))
    rw [wrap_small (by omega) (by omega)]
    by_cases h : (rdOf false a (i : Int) != rdOf false b (i : Int)) = true
    · refine ev_pos h (ev_pos (by omega) ?_)
      have := ih (i + 1) (acc ++ [(i : Int)]) (by omega) (by simp; omega)
      rw [dif, if_pos h]
      rw [List.append_assoc] at this
      exact this
    · refine ev_neg h ?_
      rw [dif, if_neg h]
      exact ih (i + 1) acc (by omega) (by omega)
theorem cbS (b : List Bool) (w : List Int) (b2 : List Bool) (w2 : List Int) (hw : w.length ≤ 1048576) (hw2 : w2.length ≤ 1048576) : Ev (fun k => spec_ChangedBits.f k b w b2 w2) (R b w b2 w2) := by
  simp only [spec_ChangedBits.f]
  refine ev_some ?_
  refine Ev.bind (ivS b w hw) ?_
  have jt : ∀ x5 : List Int, Ev (fun k => spec_ChangedBits.j0 k x5 true b w b2 w2) x5 := by
    intro x5
    refine ev_succ ?_
    simp only [spec_ChangedBits.j0]
    exact ev_pos (by first | rfl | trivial) (ev_of rfl)
  cases h1 : iv b w
  · refine ev_neg (by simp) ?_
    rw [show R b w b2 w2 = [] by simp [R, h1]]
    exact jt []
  · refine ev_pos rfl ?_
    refine Ev.bind (ivS b2 w2 hw2) ?_
    cases h2 : iv b2 w2
    · refine ev_neg (by simp) ?_
      rw [show R b w b2 w2 = [] by simp [R, h2]]
      exact jt []
    · refine ev_pos rfl ?_
      cases h3 : ((b.length : Int) != (b2.length : Int))
      · rw [show R b w b2 w2 = dif b b2 0 b.length by simp only [R, h1, h2, h3]; rfl]
        refine ev_succ ?_
        simp only [spec_ChangedBits.j0]
        refine ev_neg (by simp) ?_
        have := spL b w b2 w2 (iv_len h1) (by have h4 : (b.length : Int) = b2.length := (by simpa using h3); omega) b.length 0 [] (by omega) (by simp)
        exact this
      · rw [show R b w b2 w2 = [] by simp only [R, h3]; simp]
        exact jt []
theorem cbI (b : List Bool) (w : List Int) (b2 : List Bool) (w2 : List Int) : Ev (fun k => impl_ChangedBits.f k b w b2 w2) (R b w b2 w2) := by
  simp only [impl_ChangedBits.f]
  rw [ivI, ivI]
  refine ev_some ?_
  have jt : Ev (fun k => impl_ChangedBits.j0 k true b w b2 w2) [] := by
    refine ev_succ ?_
    simp only [impl_ChangedBits.j0]
    exact ev_pos (by first | rfl | trivial) (ev_of rfl)
  cases h1 : iv b w
  · refine ev_neg (by simp) ?_
    rw [show R b w b2 w2 = [] by simp [R, h1]]
    exact jt
  · refine ev_pos rfl (ev_some ?_)
    cases h2 : iv b2 w2
    · refine ev_neg (by simp) ?_
      rw [show R b w b2 w2 = [] by simp [R, h2]]
      exact jt
    · refine ev_pos rfl ?_
      cases h3 : ((b.length : Int) != (b2.length : Int))
      · rw [show R b w b2 w2 = dif b b2 0 b.length by simp only [R, h1, h2, h3]; rfl]
        refine ev_succ ?_
        simp only [impl_ChangedBits.j0]
        refine ev_neg (by simp) ?_
        have := imL b w b2 w2 (iv_len h1) (by have h4 : (b.length : Int) = b2.length := (by simpa using h3); omega) b.length 0 [] (by omega) (by simp)
        exact this
      · rw [show R b w b2 w2 = [] by simp only [R, h3]; simp]
        exact jt

theorem pure_holds : Pure := by
  intro b w b2 w2 hb hw hb2 hw2
  refine Ev.rounds ?_
  simp only [laws_FnExactChangedBits.f]
  rcases sz_image b w 1048576 (by omega) (by omega) hb.1 hw.1 with ⟨r, hr, hneg⟩ | ⟨hle, hr⟩
  · rw [hr]
    exact ev_some (ev_pos hneg (ev_of rfl))
  · rw [hr]
    refine ev_some (ev_neg (by omega) ?_)
    rcases sz_image b2 w2 (1048576 - b.length - w.length) (by omega) (by omega) hb2.1 hw2.1 with ⟨r, hr2, hneg⟩ | ⟨hle2, hr2⟩
    · rw [hr2]
      exact ev_some (ev_pos hneg (ev_of rfl))
    · rw [hr2]
      refine ev_some (ev_neg (by omega) ?_)
      have t1 := toImage_ev b w (by omega) (by omega)
      have t2 := toImage_ev b2 w2 (by omega) (by omega)
      have hRl := R_len b w b2 w2
      have e := eqInt_ev (R b w b2 w2) (by omega)
      have hh := heldInt_ev 1 (R b w b2 w2).length (by omega) (by omega) (by omega)
      refine Ev.bind t1 (Ev.bind t2 ?_)
      refine Ev.bind (cbS b w b2 w2 (by omega) (by omega)) ?_
      refine Ev.bind t1 (Ev.bind t2 ?_)
      refine Ev.bind (cbI b w b2 w2) ?_
      refine Ev.bind e (ev_pos rfl ?_)
      refine Ev.bind t1 ?_
      refine Ev.bind (eqImage_ev b w (by omega) (by omega)) (ev_pos rfl ?_)
      refine Ev.bind t2 ?_
      refine Ev.bind (eqImage_ev b2 w2 (by omega) (by omega)) (ev_pos rfl ?_)
      obtain ⟨m1, hm1⟩ := markImage_ev b w 1 (by omega) (by omega) (by omega) (by omega)
      refine Ev.bind hm1 ?_
      obtain ⟨m2, hm2⟩ := markImage_ev b2 w2 (1 + b.length + w.length) (by omega) (by omega) (by omega) (by omega)
      refine Ev.bind hm2 ?_
      dsimp only
      refine ev_neg (by omega) ?_
      refine Ev.bind e ?_
      refine ev_succ ?_
      simp only [laws_FnExactChangedBits.j0]
      refine ev_neg (by simp) ?_
      refine Ev.bind (markInt_ev (R b w b2 w2) 1 (by omega) (by omega) (by omega)) ?_
      dsimp only
      refine Ev.bind hh (ev_neg (by omega) (ev_pos rfl ?_))
      refine Ev.bind t1 (Ev.bind t2 ?_)
      refine Ev.bind (cbI b w b2 w2) ?_
      refine Ev.bind e (ev_pos rfl ?_)
      refine Ev.bind hh (ev_neg (by omega) (ev_pos rfl (ev_of rfl)))

end Go.Proofs.Ytmlhkalgaeemaaa.fnExactChangedBits

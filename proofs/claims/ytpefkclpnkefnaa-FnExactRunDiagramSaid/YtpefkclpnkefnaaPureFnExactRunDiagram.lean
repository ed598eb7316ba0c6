/- The law FnExactRunDiagram answers true for every list of blocks and every list of rows of numbers; no condition but that the numbers are of their kind. -/
import Derived.Test.YtpefkclpnkefnaaStFnExactRunDiagram
namespace Go.Proofs.Ytpefkclpnkefnaa.fnExactRunDiagram
open Go.RowKit Go.Proofs.Ytpefkclpnkefnaa.GFnExactRunDiagram Go.Proofs.YtpefkclpnkefnaaV.PrintWords Go.Proofs.YtpefkclpnkefnaaV.PrintLast Go.Proofs.YtpefkclpnkefnaaV.PrintMore
set_option linter.unusedVariables false
set_option linter.unusedSimpArgs false

theorem ev_succ {α : Type} {g : Nat → Option α} {r : α} (h : Ev (fun k => g (k + 1)) r) : Ev g r := Ev.step (fun _ => rfl) h
theorem ev_pos {α : Type} {c : Prop} [Decidable c] {g f : Nat → Option α} {r : α} (hc : c) (h : Ev g r) : Ev (fun k => if c then g k else f k) r := Ev.congr (fun _ => if_pos hc) h
theorem ev_neg {α : Type} {c : Prop} [Decidable c] {g f : Nat → Option α} {r : α} (hc : ¬ c) (h : Ev f r) : Ev (fun k => if c then g k else f k) r := Ev.congr (fun _ => if_neg hc) h
theorem ev_some {α β : Type} {a : α} {f : Nat → α → Option β} {r : β} (h : Ev (fun k => f k a) r) : Ev (fun k => (some a).bind (f k)) r := h
theorem ev_of {α : Type} {a : Option α} {r : α} (h : a = some r) : Ev (fun _ => a) r := ⟨0, fun _ _ => h⟩
theorem ev_eq {α : Type} {g : Nat → Option α} {r r' : α} (h : Ev g r) (e : r = r') : Ev g r' := e ▸ h
theorem wrap_small {i : Int} (h0 : -9223372036854775808 ≤ i) (h1 : i ≤ 9223372036854775807) : wrap64 i = i := by unfold wrap64; omega
theorem wf_bounds {x : Int} (h : (Lit.int .i64 x).wf = true) : -9223372036854775808 ≤ x ∧ x ≤ 9223372036854775807 := by
  simp [Lit.wf, IntKind.min, IntKind.max, IntKind.signed, IntKind.bits] at h
  omega
theorem set_keeps {α : Type} (l out : List α) (d : α) (i : Nat) (hi : i < l.length) (ho : out.length = l.length) (h : ∀ j, j < i → out[j]? = l[j]?) : ∀ j, j < i + 1 → (out.set i (l.getD i d))[j]? = l[j]? := by
  intro j hj
  rw [List.getElem?_set]
  by_cases e : i = j
  · subst e
    rw [if_pos rfl, if_pos (by omega), List.getD_eq_getElem?_getD, List.getElem?_eq_getElem hi]
    rfl
  · rw [if_neg e]
    exact h j (by omega)
theorem all_kept {α : Type} (l out : List α) (ho : out.length = l.length) (h : ∀ j, j < l.length → out[j]? = l[j]?) : out = l := by
  apply List.ext_getElem?
  intro j
  by_cases hj : j < l.length
  · exact h j hj
  · rw [List.getElem?_eq_none (by omega), List.getElem?_eq_none (by omega)]

theorem toInt_loop (l : List Int) (hl : l.length ≤ 1048576) : ∀ (m i : Nat) (out : List Int), i + m = l.length → out.length = l.length → (∀ j, j < i → out[j]? = l[j]?) → Ev (fun k => laws_toIntS.l0 k l out (i : Int)) l := by
  intro m
  induction m with
  | zero =>
    intro i out hi ho h
    refine ev_succ ?_
    simp only [laws_toIntS.l0]
    refine ev_neg (by omega) ?_
    exact ev_of (congrArg some (all_kept l out ho (fun j hj => h j (by omega))))
  | succ m ih =>
    intro i out hi ho h
    refine ev_succ ?_
    simp only [laws_toIntS.l0]
    refine ev_pos (by omega) (ev_pos (by omega) (ev_pos (by omega) ?_))
    rw [wrap_small (by omega) (by omega)]
    have hs := ih (i + 1) (out.set i (l.getD i 0)) (by omega) (by simpa using ho) (set_keeps l out 0 i (by omega) ho h)
    simpa [rdOf, rd] using hs
theorem toInt_ev (l : List Int) (hl : l.length ≤ 1048576) : Ev (fun k => laws_toIntS.f k l) l := by
  simp only [laws_toIntS.f]
  refine ev_pos (by omega) (ev_pos (by omega) ?_)
  have h := toInt_loop l hl l.length 0 (List.replicate ((l.length : Int)).toNat 0) (by omega) (by simp) (fun j hj => by omega)
  exact h

theorem eqInt_loop (l : List Int) (hl : l.length ≤ 1048576) : ∀ (m i : Nat), i + m = l.length → Ev (fun k => laws_eqIntS.l0 k l l (i : Int)) true := by
  intro m
  induction m with
  | zero =>
    intro i hi
    refine ev_succ ?_
    simp only [laws_eqIntS.l0]
    exact ev_neg (by omega) (ev_of rfl)
  | succ m ih =>
    intro i hi
    refine ev_succ ?_
    simp only [laws_eqIntS.l0]
    refine ev_pos (by omega) (ev_pos (by omega) (ev_pos (by omega) ?_))
    refine ev_pos (by first | rfl | trivial) ?_
    rw [wrap_small (by omega) (by omega)]
    exact ih (i + 1) (by omega)
theorem eqInt_ev (l : List Int) (hl : l.length ≤ 1048576) : Ev (fun k => laws_eqIntS.f k l l) true := by
  simp only [laws_eqIntS.f]
  refine ev_pos (by first | rfl | trivial) ?_
  exact eqInt_loop l hl l.length 0 (by omega)

def mkInt (c : Int) (n : Nat) : List Int := (List.range n).map fun j : Nat => (c + (j : Int))
theorem mkInt_length (c : Int) (n : Nat) : (mkInt c n).length = n := by simp [mkInt]
theorem mkInt_get (c : Int) (n i : Nat) (h : i < n) : (mkInt c n)[i]? = some (c + (i : Int)) := by
  simp [mkInt, h]
theorem markInt_loop (l : List Int) (c : Int) (hc : 0 ≤ c) (hc2 : c ≤ 100000000) (hl : l.length ≤ 1048576) : ∀ (m i : Nat) (out : List Int), i + m = l.length → out.length = l.length → (∀ j, j < i → out[j]? = (mkInt c l.length)[j]?) →
    Ev (fun k => laws_markIntS.l0 k out (c + (i : Int)) (i : Int)) (c + (l.length : Int), mkInt c l.length) := by
  intro m
  induction m with
  | zero =>
    intro i out hi ho h
    refine ev_succ ?_
    simp only [laws_markIntS.l0]
    refine ev_neg (by omega) ?_
    have e : out = mkInt c l.length := all_kept _ _ (by rw [mkInt_length, ho]) (fun j hj => h j (by rw [mkInt_length] at hj; omega))
    exact ev_of (by rw [e, show i = l.length by omega])
  | succ m ih =>
    intro i out hi ho h
    refine ev_succ ?_
    simp only [laws_markIntS.l0]
    refine ev_pos (by omega) (ev_pos (by omega) ?_)
    rw [wrap_small (by omega) (by omega), wrap_small (by omega) (by omega)]
    have hg := mkInt_get c l.length i (by omega)
    have hs := ih (i + 1) (out.set i ((mkInt c l.length).getD i 0)) (by omega) (by simpa using ho) (set_keeps _ out 0 i (by rw [mkInt_length]; omega) (by rw [mkInt_length, ho]) h)
    rw [List.getD_eq_getElem?_getD, hg] at hs
    simp only [Option.getD_some] at hs
    have e1 : c + (i : Int) + 1 = c + ((i + 1 : Nat) : Int) := by omega
    rw [e1]
    exact hs
theorem markInt_ev (l : List Int) (c : Int) (hc : 0 ≤ c) (hc2 : c ≤ 100000000) (hl : l.length ≤ 1048576) : Ev (fun k => laws_markIntS.f k l c) (c + (l.length : Int), mkInt c l.length) := by
  simp only [laws_markIntS.f]
  have h := markInt_loop l c hc hc2 hl l.length 0 l (by omega) rfl (fun j hj => by omega)
  have e : c + ((0 : Nat) : Int) = c := by omega
  rw [e] at h
  exact h

theorem heldInt_loop (c : Int) (n : Nat) (hc : 0 ≤ c) (hc2 : c ≤ 100000000) (hn : n ≤ 1048576) : ∀ (m i : Nat), i + m = n → Ev (fun k => laws_heldIntS.l0 k (mkInt c n) (c + (i : Int)) (i : Int)) (c + (n : Int)) := by
  intro m
  induction m with
  | zero =>
    intro i hi
    refine ev_succ ?_
    simp only [laws_heldIntS.l0]
    exact ev_neg (by rw [mkInt_length]; omega) (ev_of (by rw [show i = n by omega]))
  | succ m ih =>
    intro i hi
    refine ev_succ ?_
    simp only [laws_heldIntS.l0]
    refine ev_pos (by rw [mkInt_length]; omega) (ev_pos (by omega) ?_)
    have hg := mkInt_get c n i (by omega)
    refine ev_pos (by simp [rd, List.getD_eq_getElem?_getD, hg]) ?_
    rw [wrap_small (by omega) (by omega), wrap_small (by omega) (by omega)]
    have e1 : c + (i : Int) + 1 = c + ((i + 1 : Nat) : Int) := by omega
    rw [e1]
    exact ih (i + 1) (by omega)
theorem heldInt_ev (c : Int) (n : Nat) (hc : 0 ≤ c) (hc2 : c ≤ 100000000) (hn : n ≤ 1048576) : Ev (fun k => laws_heldIntS.f k (mkInt c n) c) (c + (n : Int)) := by
  simp only [laws_heldIntS.f]
  have h := heldInt_loop c n hc hc2 hn n 0 (by omega)
  have e : c + ((0 : Nat) : Int) = c := by omega
  rw [e] at h
  exact h

theorem len_cap {l : Nat} (h : l ≤ maxLen) : (l : Int) ≤ 9223372036854775807 := by
  have : maxLen ≤ 9223372036854775807 := by decide
  omega
def cvB (x : S56) : S52 := ⟨x.f0, x.f1, x.f2⟩
theorem rdB (l : List S52) (i : Nat) (h : i < l.length) : rd_T52 l (i : Int) = l[i] := by
  unfold rd_T52; rw [Int.toNat_natCast, List.getD_eq_getElem?_getD, List.getElem?_eq_getElem h]; rfl
theorem toBlock_loop (l : List S56) (hl : l.length ≤ 1048576) : ∀ (m i : Nat) (out : List S52), i + m = l.length → out.length = l.length → (∀ j, j < i → out[j]? = (l.map cvB)[j]?) → Ev (fun k => laws_toBlockS.l0 k l out (i : Int)) (l.map cvB) := by
  intro m
  induction m with
  | zero =>
    intro i out hi ho h
    refine ev_succ ?_
    simp only [laws_toBlockS.l0]
    refine ev_neg (by omega) ?_
    exact ev_of (congrArg some (all_kept _ out (by simpa using ho) (fun j hj => h j (by simp at hj; omega))))
  | succ m ih =>
    intro i out hi ho h
    refine ev_succ ?_
    simp only [laws_toBlockS.l0, laws_toBlock.f]
    refine ev_pos (by omega) (ev_pos (by omega) (ev_some (ev_pos (by omega) ?_)))
    rw [wrap_small (by omega) (by omega)]
    have hs := ih (i + 1) (out.set i ((l.map cvB).getD i z52)) (by omega) (by simpa using ho) (set_keeps (l.map cvB) out z52 i (by simp; omega) (by simpa using ho) h)
    rw [show (l.map cvB).getD i z52 = cvB (l[i]'(by omega)) by rw [List.getD_eq_getElem?_getD, List.getElem?_map, List.getElem?_eq_getElem (by omega)]; rfl] at hs
    have hg : rd_T56 l (i : Int) = l[i]'(by omega) := by unfold rd_T56; rw [Int.toNat_natCast, List.getD_eq_getElem?_getD, List.getElem?_eq_getElem (by omega)]; rfl
    rw [hg, Int.toNat_natCast]
    exact hs
theorem toBlock_ev (l : List S56) (hl : l.length ≤ 1048576) : Ev (fun k => laws_toBlockS.f k l) (l.map cvB) := by
  simp only [laws_toBlockS.f]
  refine ev_pos (by omega) (ev_pos (by omega) ?_)
  exact toBlock_loop l hl l.length 0 (List.replicate ((l.length : Int)).toNat z52) (by omega) (by simp) (fun j hj => by omega)
theorem eqBlock_loop (l : List S52) (hl : l.length ≤ 1048576) : ∀ (m i : Nat), i + m = l.length → Ev (fun k => laws_eqBlockS.l0 k l l (i : Int)) true := by
  intro m
  induction m with
  | zero =>
    intro i hi
    refine ev_succ ?_
    simp only [laws_eqBlockS.l0]
    exact ev_neg (by omega) (ev_of rfl)
  | succ m ih =>
    intro i hi
    refine ev_succ ?_
    simp only [laws_eqBlockS.l0, laws_eqBlock.f]
    refine ev_pos (by omega) (ev_pos (by omega) (ev_pos (by omega) ?_))
    simp only [if_true]
    refine ev_some (ev_pos rfl ?_)
    rw [wrap_small (by omega) (by omega)]
    exact ih (i + 1) (by omega)
theorem eqBlock_ev (l : List S52) (hl : l.length ≤ 1048576) : Ev (fun k => laws_eqBlockS.f k l l) true := by
  simp only [laws_eqBlockS.f]
  refine ev_pos (by first | rfl | trivial) ?_
  exact eqBlock_loop l hl l.length 0 (by omega)
theorem markB_loop (n : Nat) (hl : n ≤ 1048576) : ∀ (m i : Nat) (out : List S52), i + m = n → out.length = n → ∃ r, Ev (fun k => laws_markBlockS.l0 k out (1 + 3 * (i : Int)) (i : Int)) (1 + 3 * (n : Int), r) := by
  intro m
  induction m with
  | zero =>
    intro i out hi ho
    refine ⟨out, ev_succ ?_⟩
    simp only [laws_markBlockS.l0]
    exact ev_neg (by omega) (ev_of (by rw [show i = n by omega]))
  | succ m ih =>
    intro i out hi ho
    have w1 : wrap64 (1 + 3 * (i : Int) + 1) = 1 + 3 * (i : Int) + 1 := wrap_small (by omega) (by omega)
    have w2 : wrap64 (1 + 3 * (i : Int) + 1 + 1) = 1 + 3 * (i : Int) + 1 + 1 := wrap_small (by omega) (by omega)
    have w3 : wrap64 (1 + 3 * (i : Int) + 1 + 1 + 1) = 1 + 3 * ((i + 1 : Nat) : Int) := by rw [wrap_small (by omega) (by omega)]; omega
    have w4 : wrap64 ((i : Int) + 1) = ((i + 1 : Nat) : Int) := wrap_small (by omega) (by omega)
    obtain ⟨r, hr⟩ := ih (i + 1) (((out.set (i : Int).toNat (⟨1 + 3 * (i : Int), (rd_T52 out (i : Int)).f1, (rd_T52 out (i : Int)).f2⟩ : S52)).set (i : Int).toNat (⟨(rd_T52 (out.set (i : Int).toNat (⟨1 + 3 * (i : Int), (rd_T52 out (i : Int)).f1, (rd_T52 out (i : Int)).f2⟩ : S52)) (i : Int)).f0, 1 + 3 * (i : Int) + 1, (rd_T52 (out.set (i : Int).toNat (⟨1 + 3 * (i : Int), (rd_T52 out (i : Int)).f1, (rd_T52 out (i : Int)).f2⟩ : S52)) (i : Int)).f2⟩ : S52)).set (i : Int).toNat (⟨(rd_T52 ((out.set (i : Int).toNat (⟨1 + 3 * (i : Int), (rd_T52 out (i : Int)).f1, (rd_T52 out (i : Int)).f2⟩ : S52)).set (i : Int).toNat (⟨(rd_T52 (out.set (i : Int).toNat (⟨1 + 3 * (i : Int), (rd_T52 out (i : Int)).f1, (rd_T52 out (i : Int)).f2⟩ : S52)) (i : Int)).f0, 1 + 3 * (i : Int) + 1, (rd_T52 (out.set (i : Int).toNat (⟨1 + 3 * (i : Int), (rd_T52 out (i : Int)).f1, (rd_T52 out (i : Int)).f2⟩ : S52)) (i : Int)).f2⟩ : S52)) (i : Int)).f0, (rd_T52 ((out.set (i : Int).toNat (⟨1 + 3 * (i : Int), (rd_T52 out (i : Int)).f1, (rd_T52 out (i : Int)).f2⟩ : S52)).set (i : Int).toNat (⟨(rd_T52 (out.set (i : Int).toNat (⟨1 + 3 * (i : Int), (rd_T52 out (i : Int)).f1, (rd_T52 out (i : Int)).f2⟩ : S52)) (i : Int)).f0, 1 + 3 * (i : Int) + 1, (rd_T52 (out.set (i : Int).toNat (⟨1 + 3 * (i : Int), (rd_T52 out (i : Int)).f1, (rd_T52 out (i : Int)).f2⟩ : S52)) (i : Int)).f2⟩ : S52)) (i : Int)).f1, 1 + 3 * (i : Int) + 1 + 1⟩ : S52)) (by omega) (by simp [ho])
    refine ⟨r, ev_succ ?_⟩
    simp only [laws_markBlockS.l0]
    rw [w1, w2, w3, w4]
    exact ev_pos (by omega) (ev_pos (by omega) (ev_some (ev_some hr)))
theorem markB_ev (l : List S52) (hl : l.length ≤ 1048576) : ∃ r, Ev (fun k => laws_markBlockS.f k l 1) (1 + 3 * (l.length : Int), r) := by
  simp only [laws_markBlockS.f]
  obtain ⟨r, hr⟩ := markB_loop l.length hl l.length 0 l (by omega) rfl
  exact ⟨r, hr⟩

theorem inS (a b c : Int) : spec_l1In.f a b c = some (decide (b ≤ a) && decide (a ≤ c)) := by
  unfold spec_l1In.f
  by_cases h : a ≥ b
  · rw [if_pos h]; simp [show b ≤ a from h]
  · rw [if_neg h]; simp [show ¬ b ≤ a from h]

/-! The order. -/
def Ord (l : List S52) (inp : Int) : List Int × Bool := if dia.valid l inp = true then eo.go l l.length (List.replicate l.length false) [] else ([], false)
theorem ordI (l : List S52) (inp : Int) : impl_EvaluationOrder.f l inp = some (Ord l inp) := rfl
theorem go_len (l : List S52) : ∀ (m : Nat) (done : List Bool) (out : List Int), (eo.go l m done out).1.length ≤ out.length + m
  | 0, _, _ => Nat.le_refl _
  | m + 1, done, out => by
    cases h : eo.at l done l.length 0 with
    | none => rw [eo.go_none h]; simp
    | some i =>
      rw [eo.go_some h]
      have := go_len l m (done.set i true) (out ++ [(i : Int)])
      rw [List.length_append] at this
      simp at this
      omega
theorem ord_len (l : List S52) (inp : Int) : (Ord l inp).1.length ≤ 12 := by
  unfold Ord
  by_cases h : dia.valid l inp = true
  · rw [if_pos h]
    have h1 := go_len l l.length (List.replicate l.length false) []
    have h2 := (dia.valid_all h).1
    simp at h1
    omega
  · rw [if_neg h]; simp
theorem src (x : Int) (n : Nat) (inp : Int) (hn : n ≤ 12) (h0 : 0 ≤ inp) (h6 : inp ≤ 6) : spec_l9Source.f x (n : Int) inp = some (dia.ex inp n x) := by
  unfold spec_l9Source.f dia.ex
  rw [inS, wrap_small (by omega) (by omega), wrap_small (by omega) (by omega)]
  rfl
theorem ready (l : List S52) (done : List Bool) (x : Int) (hd : done.length = l.length) (hx : x < (l.length : Int)) : spec_l9Ready.f l done x = some (eo.kn l done x) := by
  unfold spec_l9Ready.f eo.kn
  by_cases h0 : x < 0
  · rw [if_pos h0]; simp [h0]
  · rw [if_neg h0, if_pos (by omega), if_pos (by omega)]
    by_cases h1 : rdOf false done x = true
    · rw [if_pos h1]; simp [h1]
    · rw [if_neg h1, if_pos hx]
      have h1' : rdOf false done x = false := by simpa using h1
      simp [h0, h1']
def encAt : Option Nat → Int
  | none => -1
  | some i => (i : Int)
theorem at_lt (l : List S52) (done : List Bool) : ∀ (m i j : Nat), eo.at l done m i = some j → j < i + m
  | 0, _, _, h => by cases h
  | m + 1, i, j, h => by
    rw [eo.at_succ] at h
    by_cases hr : eo.rdy l done i (rd_T52 l (i : Int)) = true
    · rw [if_pos hr] at h
      cases h
      omega
    · rw [if_neg hr] at h
      have := at_lt l done m (i + 1) j h
      omega
theorem l2_loop (l : List S52) (inp : Int) (hv : dia.valid l inp = true) (done : List Bool) (out : List Int) (hd : done.length = l.length) (ho : out.length ≤ 12) (r : List Int × Bool)
    (hend : match eo.at l done l.length 0 with
      | none => r = ([], false)
      | some i => Ev (fun k => spec_EvaluationOrder.l1 k l (out ++ [(i : Int)]) (done.set i true)) r) :
    ∀ (i : Nat), i ≤ l.length → Ev (fun k => spec_EvaluationOrder.l2 k l out done (encAt (eo.at l done (l.length - i) i)) ((i : Int) - 1)) r := by
  obtain ⟨h12, h0, h6, hall⟩ := dia.valid_all hv
  intro i
  induction i with
  | zero =>
    intro hi
    refine ev_succ ?_
    simp only [spec_EvaluationOrder.l2]
    refine ev_neg (by omega) ?_
    rw [Nat.sub_zero]
    cases ha : eo.at l done l.length 0 with
    | none =>
      rw [ha] at hend
      exact ev_pos (by simp [encAt]) (ev_of (by rw [hend]))
    | some j =>
      rw [ha] at hend
      have hj := at_lt l done _ _ _ ha
      have hend' : Ev (fun k => spec_EvaluationOrder.l1 k l (out ++ [(j : Int)]) (done.set j true)) r := hend
      rw [show encAt (some j) = (j : Int) from rfl]
      refine ev_neg (by omega) (ev_pos (by omega) (ev_pos (by omega) (ev_pos (by omega) ?_)))
      rw [Int.toNat_natCast]
      exact hend'
  | succ i ih =>
    intro hi
    have hlt : i < l.length := by omega
    have hw : wrap64 (((i + 1 : Nat) : Int) - 1 - 1) = (i : Int) - 1 := by rw [wrap_small (by omega) (by omega)]; omega
    have he : (((i + 1 : Nat) : Int) - 1) = (i : Int) := by omega
    have hs := eo.at_succ l done (l.length - (i + 1)) i
    rw [show l.length - (i + 1) + 1 = l.length - i by omega, rdB l i hlt] at hs
    have ihh := ih (by omega)
    have hok := hall i hlt
    refine ev_succ ?_
    simp only [spec_EvaluationOrder.l2]
    rw [hw, he, rdB l i hlt]
    refine ev_pos (by omega) (ev_pos (by omega) (ev_pos (by omega) ?_))
    generalize l[i] = x at hs hok
    have yes : eo.rdy l done i x = true → Ev (fun k => spec_EvaluationOrder.l2 k l out done (i : Int) ((i : Int) - 1)) r := by
      intro h
      rw [if_pos h] at hs
      rw [hs] at ihh
      exact ihh
    have no : eo.rdy l done i x = false → Ev (fun k => spec_EvaluationOrder.l2 k l out done (encAt (eo.at l done (l.length - (i + 1)) (i + 1))) ((i : Int) - 1)) r := by
      intro h
      rw [if_neg (by rw [h]; decide)] at hs
      rw [hs] at ihh
      exact ihh
    by_cases hdn : rdOf false done (i : Int) = true
    · exact ev_pos hdn (no (by unfold eo.rdy; rw [hdn]; rfl))
    · have hdn' : rdOf false done (i : Int) = false := by simpa using hdn
      refine ev_neg hdn (ev_pos (by omega) ?_)
      by_cases h5 : x.f0 = 5
      · exact ev_pos h5 (yes (by unfold eo.rdy; rw [hdn', h5]; rfl))
      · have h5' : (x.f0 == 5) = false := beq_eq_false_iff_ne.mpr h5
        refine ev_neg h5 ?_
        rw [ready l done x.f1 hd hok.1]
        refine ev_some ?_
        by_cases ha : eo.kn l done x.f1 = true
        · refine ev_pos ha ?_
          rw [ready l done x.f2 hd (hok.2 h5)]
          refine ev_some ?_
          by_cases hb : eo.kn l done x.f2 = true
          · exact ev_pos hb (yes (by unfold eo.rdy; rw [hdn', h5', ha, hb]; rfl))
          · have hb' : eo.kn l done x.f2 = false := by simpa using hb
            exact ev_neg hb (no (by unfold eo.rdy; rw [hdn', h5', ha, hb']; rfl))
        · have ha' : eo.kn l done x.f1 = false := by simpa using ha
          exact ev_neg ha (no (by unfold eo.rdy; rw [hdn', h5', ha']; rfl))
theorem l1_loop (l : List S52) (inp : Int) (hv : dia.valid l inp = true) : ∀ (m : Nat) (done : List Bool) (out : List Int), out.length + m = l.length → done.length = l.length → Ev (fun k => spec_EvaluationOrder.l1 k l out done) (eo.go l m done out) := by
  obtain ⟨h12, h0, h6, hall⟩ := dia.valid_all hv
  intro m
  induction m with
  | zero =>
    intro done out ho hd
    refine ev_succ ?_
    simp only [spec_EvaluationOrder.l1]
    exact ev_neg (by omega) (ev_of rfl)
  | succ m ih =>
    intro done out ho hd
    refine ev_succ ?_
    simp only [spec_EvaluationOrder.l1]
    refine ev_pos (by omega) ?_
    have h := l2_loop l inp hv done out hd (by omega) (eo.go l (m + 1) done out) (by
      cases ha : eo.at l done l.length 0 with
      | none => exact eo.go_none ha
      | some i =>
        show Ev (fun k => spec_EvaluationOrder.l1 k l (out ++ [(i : Int)]) (done.set i true)) (eo.go l (m + 1) done out)
        rw [eo.go_some ha]
        exact ih _ _ (by rw [List.length_append]; simp; omega) (by rw [List.length_set]; exact hd)) l.length (Nat.le_refl _)
    rw [Nat.sub_self] at h
    rw [wrap_small (by omega) (by omega)]
    exact h
theorem l0_loop (l : List S52) (inp : Int) (h12 : l.length ≤ 12) (h0 : 0 ≤ inp) (h6 : inp ≤ 6) : ∀ (m i : Nat), i + m = l.length → (l.take i).all (dia.ok inp l.length) = true → Ev (fun k => spec_EvaluationOrder.l0 k l inp (i : Int)) (Ord l inp) := by
  have bad : ∀ (i : Nat) (hi : i < l.length), dia.ok inp l.length l[i] = false → Ev (fun _ : Nat => some (([] : List Int), false)) (Ord l inp) := by
    intro i hi h
    refine ev_of ?_
    unfold Ord
    rw [if_neg]
    intro hv
    unfold dia.valid at hv
    rw [if_pos ⟨h12, h0, h6⟩] at hv
    have := List.all_eq_true.mp hv _ (List.getElem_mem hi)
    rw [h] at this
    cases this
  intro m
  induction m with
  | zero =>
    intro i hi h
    rw [List.take_of_length_le (by omega)] at h
    have hv : dia.valid l inp = true := by unfold dia.valid; rw [if_pos ⟨h12, h0, h6⟩]; exact h
    refine ev_succ ?_
    simp only [spec_EvaluationOrder.l0]
    refine ev_neg (by omega) (ev_pos (by omega) (ev_pos (by omega) ?_))
    unfold Ord
    rw [if_pos hv, Int.toNat_natCast]
    exact l1_loop l inp hv l.length _ [] (by simp) (by simp)
  | succ m ih =>
    intro i hi h
    have hlt : i < l.length := by omega
    have hb := bad i hlt
    have good : dia.ok inp l.length l[i] = true → Ev (fun k => spec_EvaluationOrder.l0 k l inp (wrap64 ((i : Int) + 1))) (Ord l inp) := by
      intro hx
      rw [wrap_small (by omega) (by omega)]
      refine ih (i + 1) (by omega) ?_
      rw [List.take_succ_eq_append_getElem hlt, List.all_append, h]
      simp [hx]
    refine ev_succ ?_
    simp only [spec_EvaluationOrder.l0]
    rw [rdB l i hlt, inS, src _ _ _ h12 h0 h6, src _ _ _ h12 h0 h6]
    unfold dia.ok at hb good
    generalize l[i] = x at hb good
    refine ev_pos (by omega) (ev_pos (by omega) (ev_some ?_))
    by_cases k1 : (decide (1 ≤ x.f0) && decide (x.f0 ≤ 5)) = true
    · rw [k1, Bool.true_and] at hb good
      refine ev_pos k1 (ev_some ?_)
      by_cases kA : dia.ex inp l.length x.f1 = true
      · rw [kA, Bool.true_and] at hb good
        refine ev_pos kA ?_
        by_cases k5 : x.f0 = 5
        · rw [if_pos k5] at hb good
          refine ev_pos k5 ?_
          by_cases kB : x.f2 = -1
          · exact ev_pos kB (good (by simp [kB]))
          · exact ev_neg kB (hb (by simp [kB]))
        · rw [if_neg k5] at hb good
          refine ev_neg k5 (ev_some ?_)
          by_cases kB : dia.ex inp l.length x.f2 = true
          · exact ev_pos kB (good kB)
          · exact ev_neg kB (hb (by simpa using kB))
      · have kA' : dia.ex inp l.length x.f1 = false := by simpa using kA
        exact ev_neg kA (hb (by rw [kA']; rfl))
    · have k1' : (decide (1 ≤ x.f0) && decide (x.f0 ≤ 5)) = false := by simpa using k1
      exact ev_neg k1 (hb (by rw [k1']; rfl))
theorem ordS (l : List S52) (inp : Int) (hl : l.length ≤ 1048576) : Ev (fun k => spec_EvaluationOrder.f k l inp) (Ord l inp) := by
  simp only [spec_EvaluationOrder.f]
  have no : ¬ (l.length ≤ 12 ∧ 0 ≤ inp ∧ inp ≤ 6) → Ev (fun k => spec_EvaluationOrder.j0 k l inp true) (Ord l inp) := by
    intro h
    refine ev_succ ?_
    simp only [spec_EvaluationOrder.j0]
    refine ev_pos (by first | rfl | trivial) (ev_of ?_)
    unfold Ord dia.valid
    rw [if_neg h]
    rfl
  by_cases h1 : (l.length : Int) > 12
  · exact ev_pos h1 (no (fun h => by omega))
  · refine ev_neg h1 ?_
    rw [inS]
    refine ev_some ?_
    by_cases h2 : 0 ≤ inp ∧ inp ≤ 6
    · rw [show (decide (0 ≤ inp) && decide (inp ≤ 6)) = true by simp [h2.1, h2.2]]
      refine ev_succ ?_
      simp only [spec_EvaluationOrder.j0]
      refine ev_neg (by simp) ?_
      exact l0_loop l inp (by omega) h2.1 h2.2 l.length 0 (by omega) rfl
    · rw [show (decide (0 ≤ inp) && decide (inp ≤ 6)) = false by simp; omega]
      exact no (fun h => h2 h.2)

/-! The delays. -/
theorem rdi (l : List Int) (i : Nat) (h : i < l.length) : rd l (i : Int) = l[i] := by
  unfold rd; rw [Int.toNat_natCast, List.getD_eq_getElem?_getD, List.getElem?_eq_getElem h]; rfl
theorem word_bad (x : Int) : spec_l7Word.f x = some (!impl_areWords.bad x) := by
  unfold spec_l7Word.f
  rw [inS]
  simp [impl_areWords.bad]
def dls (l : List S52) : Nat → List Int
  | 0 => []
  | i + 1 => if sd.isD (rd_T52 l (i : Int)) = true then dls l i ++ [(i : Int)] else dls l i
theorem dls_succ (l : List S52) (i : Nat) : dls l (i + 1) = if sd.isD (rd_T52 l (i : Int)) = true then dls l i ++ [(i : Int)] else dls l i := rfl
theorem dls_len (l : List S52) : ∀ i, i ≤ l.length → (dls l i).length = sd.cnt l i
  | 0, _ => by simp [dls, sd.cnt]
  | i + 1, h => by
    have := dls_len l i (by omega)
    rw [dls_succ, sd.cnt_succ (by omega), rdB l i (by omega)]
    by_cases hd : sd.isD l[i] = true
    · rw [if_pos hd, if_pos hd, List.length_append, this]; rfl
    · rw [if_neg hd, if_neg hd, this]; rfl
theorem dls_get (l : List S52) : ∀ n, n ≤ l.length → ∀ i, i < n → sd.isD (rd_T52 l (i : Int)) = true → rd (dls l n) (sd.cnt l i : Int) = (i : Int)
  | 0, _, i, hi, _ => by omega
  | n + 1, hn, i, hi, hd => by
    have hlen := dls_len l n (by omega)
    rw [dls_succ]
    by_cases e : i = n
    · subst e
      rw [if_pos hd]
      unfold rd
      rw [Int.toNat_natCast, ← hlen, List.getD_eq_getElem?_getD, List.getElem?_append_right (Nat.le_refl _)]
      simp
    · have ih := dls_get l n (by omega) i (by omega) hd
      have hc : sd.cnt l i < (dls l n).length := by
        have h1 := sd.cnt_mono (l := l) n (i + 1) (by omega) (by omega)
        have h2 := sd.cnt_succ (l := l) (i := i) (by omega)
        rw [← rdB l i (by omega), if_pos hd] at h2
        omega
      split
      · rw [rdi _ _ (by rw [List.length_append]; omega), List.getElem_append_left hc, ← rdi _ _ hc]
        exact ih
      · exact ih
theorem delays_loop (l : List S52) (hl : l.length ≤ 1048576) : ∀ (m i : Nat), i + m = l.length → Ev (fun k => spec_l9Delays.l0 k l (dls l i) (i : Int)) (dls l l.length) := by
  intro m
  induction m with
  | zero =>
    intro i hi
    refine ev_succ ?_
    simp only [spec_l9Delays.l0]
    exact ev_neg (by omega) (ev_of (by rw [show i = l.length by omega]))
  | succ m ih =>
    intro i hi
    have hlt : i < l.length := by omega
    have hn := ih (i + 1) (by omega)
    have hc := sd.cnt_le l i
    have hlen := dls_len l i (by omega)
    rw [dls_succ] at hn
    refine ev_succ ?_
    simp only [spec_l9Delays.l0]
    rw [wrap_small (by omega) (by omega)]
    refine ev_pos (by omega) (ev_pos (by omega) ?_)
    by_cases hd : (rd_T52 l (i : Int)).f0 = 5
    · rw [if_pos (show sd.isD (rd_T52 l (i : Int)) = true from by unfold sd.isD; rw [hd]; rfl)] at hn
      exact ev_pos hd (ev_pos (by omega) hn)
    · rw [if_neg (show ¬ sd.isD (rd_T52 l (i : Int)) = true from by unfold sd.isD; simpa using hd)] at hn
      exact ev_neg hd hn
theorem delays_ev (l : List S52) (hl : l.length ≤ 1048576) : Ev (fun k => spec_l9Delays.f k l) (dls l l.length) := by
  simp only [spec_l9Delays.f]
  exact delays_loop l hl l.length 0 (by omega)
/-! Is the state fit? -/
theorem words1 (l : List Int) (hl : l.length ≤ 1048576) : ∀ (m i : Nat), i + m = l.length → (l.take i).any impl_areWords.bad = false → Ev (fun k => spec_l9Ok.l1 k l (i : Int)) (!l.any impl_areWords.bad) := by
  intro m
  induction m with
  | zero =>
    intro i hi h
    rw [List.take_of_length_le (by omega)] at h
    refine ev_succ ?_
    simp only [spec_l9Ok.l1]
    exact ev_neg (by omega) (ev_of (by rw [h]; rfl))
  | succ m ih =>
    intro i hi h
    have hlt : i < l.length := by omega
    refine ev_succ ?_
    simp only [spec_l9Ok.l1]
    rw [rdi l i hlt, word_bad, wrap_small (by omega) (by omega)]
    refine ev_pos (by omega) (ev_pos (by omega) (ev_some ?_))
    by_cases hb : impl_areWords.bad l[i] = true
    · refine ev_neg (by simp [hb]) (ev_of ?_)
      rw [List.any_eq_true.mpr ⟨l[i], List.getElem_mem hlt, hb⟩]; rfl
    · refine ev_pos (by simpa using hb) (ih (i + 1) (by omega) ?_)
      rw [List.take_succ_eq_append_getElem hlt, List.any_append, h]
      simpa using hb
theorem words0 (l l2 : List Int) (hl : l.length ≤ 1048576) (h2 : l2.length ≤ 1048576) : ∀ (m i : Nat), i + m = l.length → (l.take i).any impl_areWords.bad = false → Ev (fun k => spec_l9Ok.l0 k l l2 (i : Int)) (!l.any impl_areWords.bad && !l2.any impl_areWords.bad) := by
  intro m
  induction m with
  | zero =>
    intro i hi h
    rw [List.take_of_length_le (by omega)] at h
    refine ev_succ ?_
    simp only [spec_l9Ok.l0]
    refine ev_neg (by omega) ?_
    rw [h]
    exact words1 l2 h2 l2.length 0 (by omega) rfl
  | succ m ih =>
    intro i hi h
    have hlt : i < l.length := by omega
    refine ev_succ ?_
    simp only [spec_l9Ok.l0]
    rw [rdi l i hlt, word_bad, wrap_small (by omega) (by omega)]
    refine ev_pos (by omega) (ev_pos (by omega) (ev_some ?_))
    by_cases hb : impl_areWords.bad l[i] = true
    · refine ev_neg (by simp [hb]) (ev_of ?_)
      rw [List.any_eq_true.mpr ⟨l[i], List.getElem_mem hlt, hb⟩]; rfl
    · refine ev_pos (by simpa using hb) (ih (i + 1) (by omega) ?_)
      rw [List.take_succ_eq_append_getElem hlt, List.any_append, h]
      simpa using hb
theorem okS (l : List S52) (st inp : List Int) (hl : l.length ≤ 1048576) (h1 : st.length ≤ 1048576) (h2 : inp.length ≤ 1048576) : Ev (fun k => spec_l9Ok.f k l st inp) (sd.good l st inp) := by
  simp only [spec_l9Ok.f]
  refine Ev.bind (ordS l inp.length hl) ?_
  have e : sd.good l st inp = ((Ord l inp.length).2 && (decide (st.length = sd.cnt l l.length) && (!st.any impl_areWords.bad && !inp.any impl_areWords.bad))) := rfl
  rw [e]
  cases ho : (Ord l inp.length).2 with
  | false =>
    refine ev_neg (by simp) (ev_succ ?_)
    simp only [spec_l9Ok.j0]
    exact ev_pos (by first | rfl | trivial) (ev_of rfl)
  | true =>
    refine ev_pos rfl (Ev.bind (delays_ev l hl) (ev_succ ?_))
    simp only [spec_l9Ok.j0]
    rw [dls_len l _ (Nat.le_refl _)]
    by_cases hs : st.length = sd.cnt l l.length
    · rw [show decide (st.length = sd.cnt l l.length) = true by simpa using hs]
      refine ev_neg (by rw [hs]; simp) ?_
      exact words0 st inp h1 h2 st.length 0 (by omega) rfl
    · rw [show decide (st.length = sd.cnt l l.length) = false by simpa using hs]
      exact ev_pos (by simp; omega) (ev_of rfl)
/-! One step of the diagram. -/
theorem value_ev (out inp : List Int) (n : Nat) (x : Int) (ho : out.length = n) (h0 : -(inp.length : Int) ≤ x) (h1 : x < (n : Int)) (h6 : inp.length ≤ 6) : spec_l9Value.f out inp x = some (sd.val out inp x) := by
  unfold spec_l9Value.f sd.val
  by_cases hx : x < 0
  · rw [if_pos hx, if_pos hx, wrap_small (by omega) (by omega), if_pos (by omega), if_pos (by omega)]
  · rw [if_neg hx, if_neg hx, if_pos (by omega), if_pos (by omega)]
theorem fill_loop (l : List S52) (st inp od : List Int) (r : List Int × List Int) (hl : l.length ≤ 1048576) (hs : st.length = sd.cnt l l.length) (hend : Ev (fun k => spec_StepDiagram.l1 k l inp od (dls l l.length) (sd.fill l st l.length) 0) r) :
    ∀ (m i : Nat), i + m = l.length → Ev (fun k => spec_StepDiagram.l0 k l st inp od (dls l l.length) (sd.fill l st i) (sd.cnt l i : Int)) r := by
  have hlen := dls_len l l.length (Nat.le_refl _)
  intro m
  induction m with
  | zero =>
    intro i hi
    obtain rfl : i = l.length := by omega
    refine ev_succ ?_
    simp only [spec_StepDiagram.l0]
    exact ev_neg (by omega) hend
  | succ m ih =>
    intro i hi
    have hlt : i < l.length := by omega
    have hn := ih (i + 1) (by omega)
    have hc := sd.cnt_succ hlt
    have hcm := sd.cnt_mono (l := l) l.length (i + 1) (by omega) (Nat.le_refl _)
    have hcl := sd.cnt_le l l.length
    rw [sd.fill_succ, hc] at hn
    by_cases hd : sd.isD l[i] = true
    · have hd' : sd.isD (rd_T52 l (i : Int)) = true := by rw [rdB l i hlt]; exact hd
      rw [if_pos hd', if_pos hd] at hn
      rw [if_pos hd] at hc
      have hg := dls_get l l.length (Nat.le_refl _) i hlt hd'
      have hfl := sd.fill_len l st i
      refine ev_succ ?_
      simp only [spec_StepDiagram.l0]
      rw [hg, wrap_small (by omega) (by omega)]
      refine ev_pos (by omega) (ev_pos (by omega) (ev_pos (by omega) (ev_pos (by omega) (ev_pos (by omega) ?_))))
      rw [Int.toNat_natCast]
      exact hn
    · have hd' : ¬ sd.isD (rd_T52 l (i : Int)) = true := by rw [rdB l i hlt]; exact hd
      rw [if_neg hd', if_neg hd] at hn
      exact hn
theorem next_loop (l : List S52) (inp out : List Int) (hl : l.length ≤ 12) (h6 : inp.length ≤ 6) (ho : out.length = l.length) (hall : ∀ (i : Nat) (hi : i < l.length), (-(inp.length : Int) ≤ l[i].f1 ∧ l[i].f1 < (l.length : Int)) ∧ (¬ l[i].f0 = 5 → -(inp.length : Int) ≤ l[i].f2 ∧ l[i].f2 < (l.length : Int))) :
    ∀ (m i : Nat), i + m = l.length → Ev (fun k => spec_StepDiagram.l2 k l inp (dls l l.length) out (sd.next l inp out i) (sd.cnt l i : Int)) (out, sd.next l inp out l.length) := by
  have hlen := dls_len l l.length (Nat.le_refl _)
  intro m
  induction m with
  | zero =>
    intro i hi
    obtain rfl : i = l.length := by omega
    refine ev_succ ?_
    simp only [spec_StepDiagram.l2]
    exact ev_neg (by omega) (ev_of rfl)
  | succ m ih =>
    intro i hi
    have hlt : i < l.length := by omega
    have hn := ih (i + 1) (by omega)
    have hc := sd.cnt_succ hlt
    have hcm := sd.cnt_mono (l := l) l.length (i + 1) (by omega) (Nat.le_refl _)
    have hcl := sd.cnt_le l l.length
    have hnl := sd.next_len l inp out i
    rw [sd.next_succ, hc] at hn
    by_cases hd : sd.isD l[i] = true
    · have hd' : sd.isD (rd_T52 l (i : Int)) = true := by rw [rdB l i hlt]; exact hd
      rw [if_pos hd', if_pos hd] at hn
      rw [if_pos hd] at hc
      have hg := dls_get l l.length (Nat.le_refl _) i hlt hd'
      refine ev_succ ?_
      simp only [spec_StepDiagram.l2]
      rw [hg, wrap_small (by omega) (by omega)]
      refine ev_pos (by omega) (ev_pos (by omega) (ev_pos (by omega) (ev_pos (by omega) ?_)))
      rw [rdB l i hlt] at hn ⊢
      rw [value_ev out inp l.length _ ho (hall i hlt).1.1 (hall i hlt).1.2 h6]
      exact ev_some (ev_pos (by omega) hn)
    · have hd' : ¬ sd.isD (rd_T52 l (i : Int)) = true := by rw [rdB l i hlt]; exact hd
      rw [if_neg hd', if_neg hd] at hn
      exact hn
theorem kinds {l : List S52} {inp : Int} (h : dia.valid l inp = true) (i : Nat) (hi : i < l.length) : 1 ≤ l[i].f0 ∧ l[i].f0 ≤ 5 := by
  unfold dia.valid at h
  by_cases hc : l.length ≤ 12 ∧ 0 ≤ inp ∧ inp ≤ 6
  · rw [if_pos hc] at h
    have hb := List.all_eq_true.mp h _ (List.getElem_mem hi)
    generalize l[i] = b at hb
    unfold dia.ok at hb
    simp at hb
    omega
  · rw [if_neg hc] at h
    cases h
theorem clip (x : Int) : spec_l1Clip.f x (-32768) 32767 = some (mx (-32768) (mn 32767 x)) := rfl
theorem pick5 (a b c d : Int) (k : Int) (h1 : 1 ≤ k) (h4 : k ≤ 4) : rd [0, a, b, c, d] k = if k = 1 then a else if k = 2 then b else if k = 3 then c else d := by
  have : k = 1 ∨ k = 2 ∨ k = 3 ∨ k = 4 := by omega
  rcases this with rfl | rfl | rfl | rfl <;> rfl
theorem run_loop (l : List S52) (inp od : List Int) (r : List Int × List Int) (hv : dia.valid l (inp.length : Int) = true) (h6 : inp.length ≤ 6) (hod : od.length ≤ 12) (hin : ∀ j ∈ od, 0 ≤ j ∧ j < (l.length : Int)) :
    ∀ (m i : Nat) (out : List Int), i + m = od.length → out.length = l.length → Ev (fun k => spec_StepDiagram.l2 k l inp (dls l l.length) (sd.run l inp (od.drop i) out) [] 0) r → Ev (fun k => spec_StepDiagram.l1 k l inp od (dls l l.length) out (i : Int)) r := by
  obtain ⟨h12, hall⟩ := sd.valid_all hv
  intro m
  induction m with
  | zero =>
    intro i out hi ho h
    rw [List.drop_of_length_le (by omega)] at h
    refine ev_succ ?_
    simp only [spec_StepDiagram.l1]
    exact ev_neg (by omega) h
  | succ m ih =>
    intro i out hi ho h
    have hlt : i < od.length := by omega
    rw [List.drop_eq_getElem_cons hlt] at h
    have hj := hin od[i] (List.getElem_mem hlt)
    refine ev_succ ?_
    simp only [spec_StepDiagram.l1]
    rw [rdi od i hlt, wrap_small (by omega) (by omega)]
    unfold sd.run at h
    generalize od[i] = j at hj h
    obtain ⟨n, rfl⟩ : ∃ n : Nat, j = (n : Int) := ⟨j.toNat, by omega⟩
    have hn : n < l.length := by omega
    have hk := kinds hv n hn
    have ha := hall n hn
    rw [rdB l n hn] at h ⊢
    rw [Int.toNat_natCast] at h ⊢
    generalize l[n] = x at hk ha h
    refine ev_pos (by omega) (ev_pos (by omega) (ev_pos (by omega) (ev_pos (by omega) ?_)))
    by_cases h5 : x.f0 = 5
    · refine ev_pos h5 ?_
      have e : sd.ex x inp out n = out := by unfold sd.ex; rw [if_neg (by omega), if_neg (by omega), if_neg (by omega), if_neg (by omega)]
      rw [e] at h
      exact ih (i + 1) out (by omega) ho h
    · refine ev_neg h5 ?_
      have hb := ha.2 h5
      have e : sd.ex x inp out n = out.set n (rd [0, mx (-32768) (mn 32767 (wrap64 (sd.val out inp x.f1 + sd.val out inp x.f2))), mx (-32768) (mn 32767 (wrap64 (sd.val out inp x.f1 - sd.val out inp x.f2))), mn (sd.val out inp x.f1) (sd.val out inp x.f2), mx (sd.val out inp x.f1) (sd.val out inp x.f2)] x.f0) := by
        rw [pick5 _ _ _ _ _ hk.1 (by omega)]
        unfold sd.ex
        by_cases k1 : x.f0 = 1
        · rw [if_pos k1, if_pos k1]
        · by_cases k2 : x.f0 = 2
          · rw [if_neg k1, if_neg k1, if_pos k2, if_pos k2]
          · by_cases k3 : x.f0 = 3
            · rw [if_neg k1, if_neg k1, if_neg k2, if_neg k2, if_pos k3, if_pos k3]
            · rw [if_neg k1, if_neg k1, if_neg k2, if_neg k2, if_neg k3, if_neg k3, if_pos (by omega)]
      rw [e] at h
      rw [value_ev out inp l.length _ ho ha.1.1 ha.1.2 h6, value_ev out inp l.length _ ho hb.1 hb.2 h6]
      refine ev_some (ev_some ?_)
      rw [clip, clip]
      refine ev_some (ev_some (ev_some (ev_pos (by omega) (ev_pos (by simp; omega) (ev_pos (by omega) ?_)))))
      exact ih (i + 1) _ (by omega) (by rw [List.length_set]; exact ho) h
def Stp (l : List S52) (st inp : List Int) : List Int × List Int := if sd.good l st inp = true then (sd.out l st inp, sd.next l inp (sd.out l st inp) l.length) else ([], [])
theorem stepI (l : List S52) (st inp : List Int) (hl : l.length ≤ 1048576) : impl_StepDiagram.f l st inp = some (Stp l st inp) := by
  unfold impl_StepDiagram.f
  rw [if_pos (by omega)]
  rfl
theorem good_all {l : List S52} {st inp : List Int} (h : sd.good l st inp = true) : dia.valid l (inp.length : Int) = true ∧ st.length = sd.cnt l l.length ∧ inp.length ≤ 6 ∧ l.length ≤ 12 := by
  have e : sd.good l st inp = ((sd.ord l inp.length).2 && (decide (st.length = sd.cnt l l.length) && (!st.any impl_areWords.bad && !inp.any impl_areWords.bad))) := rfl
  rw [e] at h
  simp only [Bool.and_eq_true, decide_eq_true_eq] at h
  have hv := sd.ord_valid h.1
  refine ⟨hv, h.2.1, ?_, ?_⟩
  · unfold dia.valid at hv
    by_cases hc : l.length ≤ 12 ∧ 0 ≤ (inp.length : Int) ∧ (inp.length : Int) ≤ 6
    · omega
    · rw [if_neg hc] at hv; cases hv
  · exact (sd.valid_all hv).1
theorem stp_len (l : List S52) (st inp : List Int) : (Stp l st inp).1.length ≤ 12 ∧ (Stp l st inp).2.length ≤ 12 := by
  unfold Stp
  by_cases h : sd.good l st inp = true
  · rw [if_pos h]
    have h12 := (good_all h).2.2.2
    have h1 : (sd.out l st inp).length = l.length := by unfold sd.out; rw [sd.run_len, sd.fill_len]
    have h2 := sd.next_len l inp (sd.out l st inp) l.length
    exact ⟨by simp only []; omega, by simp only []; omega⟩
  · rw [if_neg h]; simp
theorem stepS (l : List S52) (st inp : List Int) (hl : l.length ≤ 1048576) (h1 : st.length ≤ 1048576) (h2 : inp.length ≤ 1048576) : Ev (fun k => spec_StepDiagram.f k l st inp) (Stp l st inp) := by
  simp only [spec_StepDiagram.f]
  refine Ev.bind (okS l st inp hl h1 h2) ?_
  unfold Stp
  by_cases hg : sd.good l st inp = true
  · rw [if_pos hg]
    obtain ⟨hv, hs, h6, h12⟩ := good_all hg
    obtain ⟨_, hall⟩ := sd.valid_all hv
    refine ev_pos hg (Ev.bind (ordS l inp.length hl) (Ev.bind (delays_ev l hl) (ev_pos (by omega) (ev_pos (by omega) ?_))))
    refine fill_loop l st inp (Ord l inp.length).1 _ hl hs ?_ l.length 0 (by omega)
    refine run_loop l inp (Ord l inp.length).1 _ hv h6 (ord_len l inp.length) (fun j hj => sd.ord_in (l := l) (n := (inp.length : Int)) j hj) (Ord l inp.length).1.length 0 _ (by omega) (sd.fill_len _ _ _) ?_
    rw [List.drop_zero]
    have hol : (sd.out l st inp).length = l.length := by unfold sd.out; rw [sd.run_len, sd.fill_len]
    exact next_loop l inp (sd.out l st inp) h12 h6 hol hall l.length 0 (by omega)
  · rw [if_neg hg]
    exact ev_neg hg (ev_of rfl)

theorem inI (a b c : Int) : impl_in.f a b c = some (decide (b ≤ a) && decide (a ≤ c)) := by
  unfold impl_in.f
  by_cases h : a ≥ b
  · rw [if_pos h]; simp [show b ≤ a from h]
  · rw [if_neg h]; simp [show ¬ b ≤ a from h]

/-! Rows of rows of numbers. -/
def tot : List (List Int) → Nat
  | [] => 0
  | x :: r => x.length + tot r
theorem tot_cons (x : List Int) (r : List (List Int)) : tot (x :: r) = x.length + tot r := rfl
theorem tot_le {l : List (List Int)} {x : List Int} (h : x ∈ l) : x.length ≤ tot l := by
  induction l with
  | nil => cases h
  | cons y r ih =>
    rw [tot_cons]
    rcases List.mem_cons.1 h with rfl | h
    · omega
    · have := ih h; omega
theorem rdL (l : List (List Int)) (i : Nat) (h : i < l.length) : rd_L3 l (i : Int) = l[i] := by
  unfold rd_L3; rw [Int.toNat_natCast, List.getD_eq_getElem?_getD, List.getElem?_eq_getElem h]; rfl
theorem sz1 (l : List Int) (left : Int) (h0 : 0 ≤ left) (h1 : left ≤ 1048576) (hl : l.length ≤ maxLen) : (∃ r, laws_szIntS.f l left = some r ∧ r < 0) ∨ ((l.length : Int) ≤ left ∧ laws_szIntS.f l left = some (left - l.length)) := by
  have hlm := len_cap hl
  unfold laws_szIntS.f
  rw [wrap_small (i := left - (l.length : Int)) (by omega) (by omega)]
  by_cases h : left - (l.length : Int) < 0
  · rw [if_pos h]
    exact .inl ⟨-1, rfl, by omega⟩
  · rw [if_neg h]
    exact .inr ⟨by omega, rfl⟩
theorem sz_loop (l : List (List Int)) (hl : l.length ≤ 1048576) (hx : ∀ x ∈ l, x.length ≤ maxLen) : ∀ (m i : Nat) (left : Int), i + m = l.length → 0 ≤ left → left ≤ 1048576 →
    (∃ r, Ev (fun k => laws_szIntSS.l0 k l left (i : Int)) r ∧ r < 0) ∨ (((tot (l.drop i) : Nat) : Int) ≤ left ∧ Ev (fun k => laws_szIntSS.l0 k l left (i : Int)) (left - (tot (l.drop i) : Nat))) := by
  intro m
  induction m with
  | zero =>
    intro i left hi h0 h1
    rw [List.drop_eq_nil_of_le (by omega)]
    refine .inr ⟨by simp [tot]; omega, ev_succ ?_⟩
    simp only [laws_szIntSS.l0]
    exact ev_neg (by omega) (ev_of (by simp [tot]))
  | succ m ih =>
    intro i left hi h0 h1
    have hlt : i < l.length := by omega
    have hd : l.drop i = l[i] :: l.drop (i + 1) := List.drop_eq_getElem_cons hlt
    have hm := hx _ (List.getElem_mem hlt)
    have hr := rdL l i hlt
    rcases sz1 l[i] left h0 h1 hm with ⟨r, he, hneg⟩ | ⟨hle, he⟩
    · refine .inl ⟨-1, ev_succ ?_, by omega⟩
      simp only [laws_szIntSS.l0]
      rw [hr, he]
      exact ev_pos (by omega) (ev_pos (by omega) (ev_some (ev_pos hneg (ev_of rfl))))
    · rw [hd]
      have step : ∀ r, Ev (fun k => laws_szIntSS.l0 k l (left - (l[i].length : Int)) ((i + 1 : Nat) : Int)) r → Ev (fun k => laws_szIntSS.l0 k l left (i : Int)) r := by
        intro r h
        refine ev_succ ?_
        simp only [laws_szIntSS.l0]
        rw [hr, he, wrap_small (i := (i : Int) + 1) (by omega) (by omega)]
        exact ev_pos (by omega) (ev_pos (by omega) (ev_some (ev_neg (by omega) h)))
      rcases ih (i + 1) (left - (l[i].length : Int)) (by omega) (by omega) (by omega) with ⟨r, h, hneg⟩ | ⟨hle2, h⟩
      · exact .inl ⟨r, step r h, hneg⟩
      · refine .inr ⟨by rw [tot_cons]; omega, ?_⟩
        have e : left - ((tot (l[i] :: l.drop (i + 1)) : Nat) : Int) = left - (l[i].length : Int) - ((tot (l.drop (i + 1)) : Nat) : Int) := by rw [tot_cons]; omega
        rw [e]
        exact step _ h
theorem sz_rows (l : List (List Int)) (left : Int) (g0 : 0 ≤ left) (g1 : left ≤ 1048576) (hl : l.length ≤ maxLen) (hx : ∀ x ∈ l, x.length ≤ maxLen) :
    (∃ r, Ev (fun k => laws_szIntSS.f k l left) r ∧ r < 0) ∨ (l.length ≤ 1048576 ∧ tot l ≤ 1048576 ∧ ∃ r, Ev (fun k => laws_szIntSS.f k l left) r ∧ 0 ≤ r) := by
  have hlm := len_cap hl
  simp only [laws_szIntSS.f]
  rw [wrap_small (i := left - (l.length : Int)) (by omega) (by omega)]
  by_cases hneg0 : left - (l.length : Int) < 0
  · exact .inl ⟨-1, ev_pos hneg0 (ev_of rfl), by omega⟩
  · rcases sz_loop l (by omega) hx l.length 0 (left - (l.length : Int)) (by omega) (by omega) (by omega) with ⟨r, h, hneg⟩ | ⟨hle, h⟩
    · exact .inl ⟨r, ev_neg hneg0 h, hneg⟩
    · rw [List.drop_zero] at hle h
      exact .inr ⟨by omega, by omega, _, ev_neg hneg0 h, by omega⟩
theorem toRows_loop (l : List (List Int)) (hl : l.length ≤ 1048576) (hx : ∀ x ∈ l, x.length ≤ 1048576) : ∀ (m i : Nat) (out : List (List Int)), i + m = l.length → out.length = l.length → (∀ j, j < i → out[j]? = l[j]?) → Ev (fun k => laws_toIntSS.l0 k l out (i : Int)) l := by
  intro m
  induction m with
  | zero =>
    intro i out hi ho h
    refine ev_succ ?_
    simp only [laws_toIntSS.l0]
    refine ev_neg (by omega) ?_
    exact ev_of (congrArg some (all_kept _ out (by simpa using ho) (fun j hj => h j (by omega))))
  | succ m ih =>
    intro i out hi ho h
    have hlt : i < l.length := by omega
    refine ev_succ ?_
    simp only [laws_toIntSS.l0]
    rw [rdL l i hlt]
    refine ev_pos (by omega) (ev_pos (by omega) (Ev.bind (toInt_ev _ (hx _ (List.getElem_mem hlt))) (ev_pos (by omega) ?_)))
    rw [wrap_small (by omega) (by omega)]
    have hs := ih (i + 1) (out.set i (l.getD i [])) (by omega) (by simpa using ho) (set_keeps l out [] i (by omega) (by simpa using ho) h)
    rw [show l.getD i [] = l[i] by rw [List.getD_eq_getElem?_getD, List.getElem?_eq_getElem hlt]; rfl] at hs
    rw [Int.toNat_natCast]
    exact hs
theorem toRows_ev (l : List (List Int)) (hl : l.length ≤ 1048576) (hx : ∀ x ∈ l, x.length ≤ 1048576) : Ev (fun k => laws_toIntSS.f k l) l := by
  simp only [laws_toIntSS.f]
  refine ev_pos (by omega) (ev_pos (by omega) ?_)
  exact toRows_loop l hl hx l.length 0 (List.replicate ((l.length : Int)).toNat []) (by omega) (by simp) (fun j hj => by omega)
theorem eqRows_loop (l : List (List Int)) (hl : l.length ≤ 1048576) (hx : ∀ x ∈ l, x.length ≤ 1048576) : ∀ (m i : Nat), i + m = l.length → Ev (fun k => laws_eqIntSS.l0 k l l (i : Int)) true := by
  intro m
  induction m with
  | zero =>
    intro i hi
    refine ev_succ ?_
    simp only [laws_eqIntSS.l0]
    exact ev_neg (by omega) (ev_of rfl)
  | succ m ih =>
    intro i hi
    have hlt : i < l.length := by omega
    refine ev_succ ?_
    simp only [laws_eqIntSS.l0]
    rw [rdL l i hlt]
    refine ev_pos (by omega) (ev_pos (by omega) (ev_pos (by omega) (Ev.bind (eqInt_ev _ (hx _ (List.getElem_mem hlt))) (ev_pos rfl ?_))))
    rw [wrap_small (by omega) (by omega)]
    exact ih (i + 1) (by omega)
theorem eqRows_ev (l : List (List Int)) (hl : l.length ≤ 1048576) (hx : ∀ x ∈ l, x.length ≤ 1048576) : Ev (fun k => laws_eqIntSS.f k l l) true := by
  simp only [laws_eqIntSS.f]
  refine ev_pos (by first | rfl | trivial) ?_
  exact eqRows_loop l hl hx l.length 0 (by omega)
theorem markRows_go : ∀ (l : List (List Int)) (c : Int), 0 ≤ c → c + (tot l : Nat) ≤ 100000000 → (∀ x ∈ l, x.length ≤ 1048576) → Ev (fun k => laws_markIntSS.go k l c) (c + (tot l : Nat))
  | [], c, _, _, _ => ev_of (by simp [laws_markIntSS.go, tot])
  | x :: r, c, h0, h1, hx => by
    have hx0 := hx x (List.mem_cons_self ..)
    have et : ((tot (x :: r) : Nat) : Int) = (x.length : Int) + ((tot r : Nat) : Int) := by rw [tot_cons]; omega
    rw [et] at h1 ⊢
    have ihr := markRows_go r (c + (x.length : Int)) (by omega) (by omega) (fun y hy => hx y (List.mem_cons_of_mem _ hy))
    refine Ev.bind (g := fun k => laws_markIntS.f k x c) (markInt_ev x c h0 (by omega) hx0) ?_
    exact ev_eq ihr (by omega)
theorem markRows_ev (l : List (List Int)) (c : Int) (h0 : 0 ≤ c) (h1 : c ≤ 10000000) (hl : l.length ≤ 1048576) (ht : tot l ≤ 1048576) (hx : ∀ x ∈ l, x.length ≤ 1048576) : ∃ r : Int, Ev (fun k => laws_markIntSS.f k l c) r ∧ 0 ≤ r := by
  refine ⟨c + ((tot l : Nat) : Int), ?_, by omega⟩
  simp only [laws_markIntSS.f]
  exact ev_pos (by omega) (markRows_go l c h0 (by omega) hx)
/-! Many steps. -/
def Rn (l : List S52) (n0 : Nat) : List (List Int) → List Int → List Int → List Int
  | [], _, out => out
  | row :: rest, st, out => if row.length = n0 then (if sd.good l st row = true then Rn l n0 rest (Stp l st row).2 (Stp l st row).1 else []) else []
def Run (l : List S52) (inp : List (List Int)) : List Int := if inp.length ≤ 100 then Rn l (rd_L3 inp 0).length inp (List.replicate (sd.cnt l l.length) 0) [] else []
theorem spec_loop (l : List S52) (inp : List (List Int)) (hl : l.length ≤ 1048576) (hn : inp.length ≤ 100) (hx : ∀ x ∈ inp, x.length ≤ 1048576) : ∀ (m i : Nat) (st out : List Int), i + m = inp.length → st.length ≤ 1048576 →
    Ev (fun k => spec_RunDiagram.l0 k l inp st out (i : Int)) (Rn l (rd_L3 inp 0).length (inp.drop i) st out) := by
  intro m
  induction m with
  | zero =>
    intro i st out hi hs
    rw [List.drop_eq_nil_of_le (by omega)]
    refine ev_succ ?_
    simp only [spec_RunDiagram.l0]
    exact ev_neg (by omega) (ev_of rfl)
  | succ m ih =>
    intro i st out hi hs
    have hlt : i < inp.length := by omega
    rw [List.drop_eq_getElem_cons hlt]
    have hxi := hx _ (List.getElem_mem hlt)
    refine ev_succ ?_
    simp only [spec_RunDiagram.l0]
    rw [rdL inp i hlt, wrap_small (by omega) (by omega)]
    refine ev_pos (by omega) (ev_pos (by omega) (ev_pos (by omega) ?_))
    unfold Rn
    by_cases h1 : inp[i].length = (rd_L3 inp 0).length
    · rw [if_pos h1]
      refine ev_pos (by omega) (Ev.bind (okS l st inp[i] hl hs hxi) ?_)
      by_cases h2 : sd.good l st inp[i] = true
      · rw [if_pos h2]
        have hu := stp_len l st inp[i]
        refine ev_pos h2 (Ev.bind (stepS l st inp[i] hl hs hxi) ?_)
        exact ih (i + 1) _ _ (by omega) (by omega)
      · rw [if_neg h2]
        exact ev_neg h2 (ev_of rfl)
    · rw [if_neg h1]
      exact ev_neg (by omega) (ev_of rfl)
theorem runS (l : List S52) (inp : List (List Int)) (hl : l.length ≤ 1048576) (hx : ∀ x ∈ inp, x.length ≤ 1048576) : Ev (fun k => spec_RunDiagram.f k l inp) (Run l inp) := by
  have hc := sd.cnt_le l l.length
  simp only [spec_RunDiagram.f]
  refine Ev.bind (delays_ev l hl) ?_
  rw [dls_len l _ (Nat.le_refl _)]
  refine ev_pos (by omega) (ev_pos (by omega) (ev_some ?_))
  unfold Run
  by_cases h : inp.length ≤ 100
  · rw [if_pos h]
    refine ev_neg (by omega) ?_
    rw [Int.toNat_natCast]
    exact spec_loop l inp hl h hx inp.length 0 _ _ (by omega) (by simp; omega)
  · rw [if_neg h]
    exact ev_pos (by omega) (ev_of rfl)
/-! The code counts the delays itself, and asks for less: the state it keeps is fit by itself. -/
def fit (l : List Int) : Prop := ∀ x ∈ l, impl_areWords.bad x = false
theorem fit_any {l : List Int} (h : fit l) : l.any impl_areWords.bad = false := by
  rw [List.any_eq_false]
  intro x hx
  rw [h x hx]
  decide
theorem any_fit {l : List Int} (h : l.any impl_areWords.bad = false) : fit l := fun x hx => by
  have := List.any_eq_false.mp h x hx
  simpa using this
theorem bad0 {x : Int} : impl_areWords.bad x = false ↔ -32768 ≤ x ∧ x ≤ 32767 := by
  unfold impl_areWords.bad
  simp
theorem fit_set {l : List Int} (h : fit l) (i : Nat) {x : Int} (hx : impl_areWords.bad x = false) : fit (l.set i x) := fun y hy => by
  rcases List.mem_or_eq_of_mem_set hy with h1 | h1
  · exact h y h1
  · rw [h1]; exact hx
theorem fit_rd {l : List Int} (h : fit l) (i : Int) : impl_areWords.bad (rd l i) = false := by
  unfold rd
  rw [List.getD_eq_getElem?_getD]
  by_cases hi : i.toNat < l.length
  · rw [List.getElem?_eq_getElem hi]
    exact h _ (List.getElem_mem hi)
  · rw [List.getElem?_eq_none (by omega)]
    decide
theorem fit_fill {l : List S52} {st : List Int} (h : fit st) : ∀ i, fit (sd.fill l st i)
  | 0 => fun x hx => by
    unfold sd.fill at hx
    rw [List.eq_of_mem_replicate hx]
    decide
  | i + 1 => by
    rw [sd.fill_succ]
    split
    · exact fit_set (fit_fill h i) i (fit_rd h _)
    · exact fit_fill h i
theorem fit_val {out inp : List Int} (ho : fit out) (hi : fit inp) (x : Int) : impl_areWords.bad (sd.val out inp x) = false := by
  unfold sd.val
  split
  · exact fit_rd hi _
  · exact fit_rd ho _
theorem fit_ex {x : S52} {out inp : List Int} (ho : fit out) (hi : fit inp) (j : Nat) : fit (sd.ex x inp out j) := by
  have va := bad0.mp (fit_val ho hi x.f1)
  have vb := bad0.mp (fit_val ho hi x.f2)
  unfold sd.ex
  generalize sd.val out inp x.f1 = a at va ⊢
  generalize sd.val out inp x.f2 = b at vb ⊢
  have cl : ∀ z : Int, impl_areWords.bad (mx (-32768) (mn 32767 z)) = false := fun z => bad0.mpr (by unfold mx mn; (repeat' split) <;> omega)
  split
  · exact fit_set ho j (cl _)
  · split
    · exact fit_set ho j (cl _)
    · split
      · exact fit_set ho j (bad0.mpr (by unfold mn; split <;> omega))
      · split
        · exact fit_set ho j (bad0.mpr (by unfold mx; split <;> omega))
        · exact ho
theorem fit_run {l : List S52} {inp : List Int} (hi : fit inp) : ∀ (js out : List Int), fit out → fit (sd.run l inp js out)
  | [], _, h => h
  | j :: js, out, h => by
    unfold sd.run
    exact fit_run hi js _ (fit_ex h hi _)
theorem fit_next {l : List S52} {inp out : List Int} (hi : fit inp) (ho : fit out) : ∀ i, fit (sd.next l inp out i)
  | 0 => fun x hx => by cases hx
  | i + 1 => by
    rw [sd.next_succ]
    split
    · intro y hy
      rcases List.mem_append.mp hy with h1 | h1
      · exact fit_next hi ho i y h1
      · rw [List.mem_singleton.mp h1]
        exact fit_val ho hi _
    · exact fit_next hi ho i
theorem next_cnt (l : List S52) (inp out : List Int) : ∀ i, i ≤ l.length → (sd.next l inp out i).length = sd.cnt l i
  | 0, _ => by simp [sd.next, sd.cnt]
  | i + 1, h => by
    have := next_cnt l inp out i (by omega)
    rw [sd.next_succ, sd.cnt_succ (by omega), rdB l i (by omega)]
    by_cases hd : sd.isD l[i] = true
    · rw [if_pos hd, if_pos hd, List.length_append, this]; rfl
    · rw [if_neg hd, if_neg hd, this]; rfl
theorem impl_loop (l : List S52) (inp : List (List Int)) (hl : l.length ≤ 1048576) (hn : inp.length ≤ 100) : ∀ (m i : Nat) (st out : List Int), i + m = inp.length → st.length = sd.cnt l l.length → fit st →
    Ev (fun k => impl_RunDiagram.l1 k l inp st out inp (inp.length : Int) (i : Int)) (Rn l (rd_L3 inp 0).length (inp.drop i) st out) := by
  intro m
  induction m with
  | zero =>
    intro i st out hi hs hf
    rw [List.drop_eq_nil_of_le (by omega)]
    refine ev_succ ?_
    simp only [impl_RunDiagram.l1]
    exact ev_neg (by omega) (ev_of rfl)
  | succ m ih =>
    intro i st out hi hs hf
    have hlt : i < inp.length := by omega
    rw [List.drop_eq_getElem_cons hlt]
    have hg : sd.good l st inp[i] = ((Ord l inp[i].length).2 && !inp[i].any impl_areWords.bad) := by
      show ((Ord l inp[i].length).2 && (decide (st.length = sd.cnt l l.length) && (!st.any impl_areWords.bad && !inp[i].any impl_areWords.bad))) = _
      rw [fit_any hf, hs]
      simp
    refine ev_succ ?_
    simp only [impl_RunDiagram.l1]
    rw [rdL inp i hlt, wrap_small (by omega) (by omega), ordI, show impl_areWords.f inp[i] = some (!inp[i].any impl_areWords.bad) from rfl, stepI l st inp[i] hl]
    refine ev_pos (by omega) (ev_pos (by omega) (ev_pos (by omega) (ev_pos (by omega) ?_)))
    unfold Rn
    by_cases h1 : inp[i].length = (rd_L3 inp 0).length
    · rw [if_pos h1]
      refine ev_pos (by omega) (ev_some ?_)
      by_cases h2 : (Ord l inp[i].length).2 = true
      · refine ev_pos h2 (ev_some ?_)
        by_cases h3 : inp[i].any impl_areWords.bad = true
        · rw [if_neg (by rw [hg, h2, h3]; decide)]
          exact ev_neg (by rw [h3]; decide) (ev_of rfl)
        · have h3' : inp[i].any impl_areWords.bad = false := by simpa using h3
          have hgood : sd.good l st inp[i] = true := by rw [hg, h2, h3']; rfl
          rw [if_pos hgood]
          refine ev_pos (by rw [h3']; rfl) (ev_some ?_)
          have hfo : fit (sd.out l st inp[i]) := fit_run (any_fit h3') _ _ (fit_fill hf _)
          refine ih (i + 1) _ _ (by omega) ?_ ?_
          · unfold Stp; rw [if_pos hgood]; exact next_cnt l _ _ _ (Nat.le_refl _)
          · unfold Stp; rw [if_pos hgood]; exact fit_next (any_fit h3') hfo _
      · rw [if_neg (by rw [hg]; simp [h2])]
        exact ev_neg h2 (ev_of rfl)
    · rw [if_neg h1]
      exact ev_neg (by omega) (ev_of rfl)
theorem zeros_loop (l : List S52) (inp : List (List Int)) (hl : l.length ≤ 1048576) (r : List Int) (hend : Ev (fun k => impl_RunDiagram.l1 k l inp (List.replicate (sd.cnt l l.length) 0) [] inp (inp.length : Int) 0) r) : ∀ (m i : Nat), i + m = l.length →
    Ev (fun k => impl_RunDiagram.l0 k l inp (List.replicate (sd.cnt l i) 0) l (l.length : Int) (i : Int)) r := by
  intro m
  induction m with
  | zero =>
    intro i hi
    obtain rfl : i = l.length := by omega
    refine ev_succ ?_
    simp only [impl_RunDiagram.l0]
    exact ev_neg (by omega) hend
  | succ m ih =>
    intro i hi
    have hlt : i < l.length := by omega
    have hn := ih (i + 1) (by omega)
    have hc := sd.cnt_le l i
    rw [sd.cnt_succ hlt] at hn
    refine ev_succ ?_
    simp only [impl_RunDiagram.l0]
    rw [rdB l i hlt, wrap_small (by omega) (by omega)]
    refine ev_pos (by omega) (ev_pos (by omega) (ev_pos (by omega) ?_))
    by_cases hd : l[i].f0 = 5
    · rw [if_pos (show sd.isD l[i] = true from by unfold sd.isD; rw [hd]; rfl), List.replicate_succ'] at hn
      exact ev_pos hd (ev_pos (by simp; omega) hn)
    · rw [if_neg (show ¬ sd.isD l[i] = true from by unfold sd.isD; simpa using hd)] at hn
      exact ev_neg hd hn
theorem runI (l : List S52) (inp : List (List Int)) (hl : l.length ≤ 1048576) (hn : inp.length ≤ 1048576) : Ev (fun k => impl_RunDiagram.f k l inp) (Run l inp) := by
  simp only [impl_RunDiagram.f]
  rw [inI]
  refine ev_some ?_
  unfold Run
  by_cases h : 1 ≤ inp.length ∧ inp.length ≤ 100
  · rw [if_pos h.2]
    refine ev_pos (by simp; omega) ?_
    refine zeros_loop l inp hl _ ?_ l.length 0 (by omega)
    refine impl_loop l inp hl h.2 inp.length 0 _ _ (by omega) (by simp) (fun x hx => ?_)
    rw [List.eq_of_mem_replicate hx]
    decide
  · refine ev_neg (by simp; omega) (ev_of ?_)
    by_cases h2 : inp.length ≤ 100
    · rw [if_pos h2]
      obtain rfl : inp = [] := List.eq_nil_of_length_eq_zero (by omega)
      rfl
    · rw [if_neg h2]
theorem run_len (l : List S52) (inp : List (List Int)) : (Run l inp).length ≤ 12 := by
  have h : ∀ (n0 : Nat) (rows : List (List Int)) (st out : List Int), out.length ≤ 12 → (Rn l n0 rows st out).length ≤ 12 := by
    intro n0 rows
    induction rows with
    | nil => intro st out h; exact h
    | cons row rest ih =>
      intro st out h
      unfold Rn
      split
      · split
        · exact ih _ _ (stp_len l st row).1
        · simp
      · simp
  unfold Run
  split
  · exact h _ _ _ _ (by simp)
  · simp

theorem pure_holds : Pure := by
  intro l inp hl hi
  refine Ev.rounds ?_
  simp only [laws_FnExactRunDiagram.f, laws_szBlockS.f]
  have hlm := len_cap hl.1
  have hlm2 : wrap64 (1048576 - (l.length : Int)) = 1048576 - (l.length : Int) := wrap_small (by omega) (by omega)
  by_cases hb : wrap64 (1048576 - (l.length : Int)) < 0
  · rw [if_pos hb]
    exact ev_some (ev_pos (by decide) (ev_of rfl))
  · rw [if_neg hb]
    rw [hlm2] at hb ⊢
    refine ev_some (ev_neg hb ?_)
    have hln : l.length ≤ 1048576 := by omega
    have hmn : (l.map cvB).length ≤ 1048576 := by simpa using hln
    have hml : (l.map cvB).length = l.length := by simp
    rcases sz_rows inp (1048576 - (l.length : Int)) (by omega) (by omega) hi.1 (fun x hx => (hi.2 x hx).1) with ⟨r, h, hneg⟩ | ⟨hnn, htt, r, h, hpos⟩
    · exact Ev.bind h (ev_pos hneg (ev_of rfl))
    · refine Ev.bind h (ev_neg (by omega) ?_)
      have hx : ∀ x ∈ inp, x.length ≤ 1048576 := fun x hx => by have := tot_le hx; omega
      have t := toBlock_ev l hln
      have ts := toRows_ev inp hnn hx
      have es := eqRows_ev inp hnn hx
      have hS := runS (l.map cvB) inp hmn hx
      have hI := runI (l.map cvB) inp hmn hnn
      have hU := run_len (l.map cvB) inp
      obtain ⟨mr, hm⟩ := markB_ev (l.map cvB) hmn
      obtain ⟨m2, hm2, hp2⟩ := markRows_ev inp (1 + 3 * ((l.map cvB).length : Int)) (by omega) (by omega) hnn htt hx
      have hq := eqBlock_ev (l.map cvB) hmn
      generalize Run (l.map cvB) inp = u at hS hI hU
      have e1 := eqInt_ev u (by omega)
      have hh := heldInt_ev 1 u.length (by omega) (by omega) (by omega)
      refine Ev.bind t (Ev.bind ts (Ev.bind hS (Ev.bind t (Ev.bind ts (Ev.bind hI (Ev.bind e1 (ev_pos rfl (Ev.bind t (Ev.bind hq (ev_pos rfl (Ev.bind ts (Ev.bind es (ev_pos rfl (Ev.bind hm ?_))))))))))))))
      dsimp only
      refine Ev.bind hm2 (ev_neg (by omega) (Ev.bind e1 (ev_succ ?_)))
      simp only [laws_FnExactRunDiagram.j0]
      refine ev_neg (by simp) (Ev.bind (markInt_ev u 1 (by omega) (by omega) (by omega)) ?_)
      dsimp only
      refine Ev.bind hh (ev_neg (by omega) (ev_pos rfl (Ev.bind t (Ev.bind ts (Ev.bind hI (Ev.bind e1 (ev_pos rfl (Ev.bind hh (ev_neg (by omega) (ev_pos rfl (ev_of rfl)))))))))))

end Go.Proofs.Ytpefkclpnkefnaa.fnExactRunDiagram

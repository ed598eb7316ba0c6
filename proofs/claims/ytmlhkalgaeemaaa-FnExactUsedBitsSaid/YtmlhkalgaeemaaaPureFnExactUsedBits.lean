/- The law FnExactUsedBits answers true for every list of elements; no condition but that the numbers are of their kind. -/
import Derived.Test.YtmlhkalgaeemaaaStFnExactUsedBits
namespace Go.Proofs.Ytmlhkalgaeemaaa.fnExactUsedBits
open Go.RowKit Go.Proofs.Ytmlhkalgaeemaaa.GFnExactUsedBits Go.Proofs.YtmlhkalgaeemaaaV.PrintWords Go.Proofs.YtmlhkalgaeemaaaV.PrintLast Go.Proofs.YtmlhkalgaeemaaaV.PrintMore
set_option linter.unusedVariables false
set_option linter.unusedSimpArgs false

theorem ev_succ {α : Type} {g : Nat → Option α} {r : α} (h : Ev (fun k => g (k + 1)) r) : Ev g r := Ev.step (fun _ => rfl) h
theorem ev_pos {α : Type} {c : Prop} [Decidable c] {g f : Nat → Option α} {r : α} (hc : c) (h : Ev g r) : Ev (fun k => if c then g k else f k) r := Ev.congr (fun _ => if_pos hc) h
theorem ev_neg {α : Type} {c : Prop} [Decidable c] {g f : Nat → Option α} {r : α} (hc : ¬ c) (h : Ev f r) : Ev (fun k => if c then g k else f k) r := Ev.congr (fun _ => if_neg hc) h
theorem ev_some {α β : Type} {a : α} {f : Nat → α → Option β} {r : β} (h : Ev (fun k => f k a) r) : Ev (fun k => (some a).bind (f k)) r := h
theorem ev_of {α : Type} {a : Option α} {r : α} (h : a = some r) : Ev (fun _ => a) r := ⟨0, fun _ _ => h⟩
theorem ev_eq {α : Type} {g : Nat → Option α} {r r' : α} (h : Ev g r) (e : r = r') : Ev g r' := e ▸ h
theorem wrap_small {i : Int} (h0 : -9223372036854775808 ≤ i) (h1 : i ≤ 9223372036854775807) : wrap64 i = i := by unfold wrap64; omega
theorem wf_bounds {x : Int} (h : (Lit.int .i64 x).wf = true) : -9223372036854775808 ≤ x ∧ x ≤ 9223372036854775807 := by
  simp [Lit.wf, IntKind.min, IntKind.max, IntKind.signed, IntKind.bits] at h
  omega
theorem set_keeps {α : Type} (l out : List α) (d : α) (i : Nat) (hi : i < l.length) (ho : out.length = l.length) (h : ∀ j, j < i → out[j]? = l[j]?) : ∀ j, j < i + 1 → (out.set i (l.getD i d))[j]? = l[j]? := by
  intro j hj
  rw [List.getElem?_set]
  by_cases e : i = j
  · subst e
    rw [if_pos rfl, if_pos (by omega), List.getD_eq_getElem?_getD, List.getElem?_eq_getElem hi]
    rfl
  · rw [if_neg e]
    exact h j (by omega)
theorem all_kept {α : Type} (l out : List α) (ho : out.length = l.length) (h : ∀ j, j < l.length → out[j]? = l[j]?) : out = l := by
  apply List.ext_getElem?
  intro j
  by_cases hj : j < l.length
  · exact h j hj
  · rw [List.getElem?_eq_none (by omega), List.getElem?_eq_none (by omega)]

theorem eqInt_loop (l : List Int) (hl : l.length ≤ 1048576) : ∀ (m i : Nat), i + m = l.length → Ev (fun k => laws_eqIntS.l0 k l l (i : Int)) true := by
  intro m
  induction m with
  | zero =>
    intro i hi
    refine ev_succ ?_
    simp only [laws_eqIntS.l0]
    exact ev_neg (by omega) (ev_of rfl)
  | succ m ih =>
    intro i hi
    refine ev_succ ?_
    simp only [laws_eqIntS.l0]
    refine ev_pos (by omega) (ev_pos (by omega) (ev_pos (by omega) ?_))
    refine ev_pos (by first | rfl | trivial) ?_
    rw [wrap_small (by omega) (by omega)]
    exact ih (i + 1) (by omega)
theorem eqInt_ev (l : List Int) (hl : l.length ≤ 1048576) : Ev (fun k => laws_eqIntS.f k l l) true := by
  simp only [laws_eqIntS.f]
  refine ev_pos (by first | rfl | trivial) ?_
  exact eqInt_loop l hl l.length 0 (by omega)

def mkInt (c : Int) (n : Nat) : List Int := (List.range n).map fun j : Nat => (c + (j : Int))
theorem mkInt_length (c : Int) (n : Nat) : (mkInt c n).length = n := by simp [mkInt]
theorem mkInt_get (c : Int) (n i : Nat) (h : i < n) : (mkInt c n)[i]? = some (c + (i : Int)) := by
  simp [mkInt, h]
theorem markInt_loop (l : List Int) (c : Int) (hc : 0 ≤ c) (hc2 : c ≤ 100000000) (hl : l.length ≤ 1048576) : ∀ (m i : Nat) (out : List Int), i + m = l.length → out.length = l.length → (∀ j, j < i → out[j]? = (mkInt c l.length)[j]?) →
    Ev (fun k => laws_markIntS.l0 k out (c + (i : Int)) (i : Int)) (c + (l.length : Int), mkInt c l.length) := by
  intro m
  induction m with
  | zero =>
    intro i out hi ho h
    refine ev_succ ?_
    simp only [laws_markIntS.l0]
    refine ev_neg (by omega) ?_
    have e : out = mkInt c l.length := all_kept _ _ (by rw [mkInt_length, ho]) (fun j hj => h j (by rw [mkInt_length] at hj; omega))
    exact ev_of (by rw [e, show i = l.length by omega])
  | succ m ih =>
    intro i out hi ho h
    refine ev_succ ?_
    simp only [laws_markIntS.l0]
    refine ev_pos (by omega) (ev_pos (by omega) ?_)
    rw [wrap_small (by omega) (by omega), wrap_small (by omega) (by omega)]
    have hg := mkInt_get c l.length i (by omega)
    have hs := ih (i + 1) (out.set i ((mkInt c l.length).getD i 0)) (by omega) (by simpa using ho) (set_keeps _ out 0 i (by rw [mkInt_length]; omega) (by rw [mkInt_length, ho]) h)
    rw [List.getD_eq_getElem?_getD, hg] at hs
    simp only [Option.getD_some] at hs
    have e1 : c + (i : Int) + 1 = c + ((i + 1 : Nat) : Int) := by omega
    rw [e1]
    exact hs
theorem markInt_ev (l : List Int) (c : Int) (hc : 0 ≤ c) (hc2 : c ≤ 100000000) (hl : l.length ≤ 1048576) : Ev (fun k => laws_markIntS.f k l c) (c + (l.length : Int), mkInt c l.length) := by
  simp only [laws_markIntS.f]
  have h := markInt_loop l c hc hc2 hl l.length 0 l (by omega) rfl (fun j hj => by omega)
  have e : c + ((0 : Nat) : Int) = c := by omega
  rw [e] at h
  exact h

theorem heldInt_loop (c : Int) (n : Nat) (hc : 0 ≤ c) (hc2 : c ≤ 100000000) (hn : n ≤ 1048576) : ∀ (m i : Nat), i + m = n → Ev (fun k => laws_heldIntS.l0 k (mkInt c n) (c + (i : Int)) (i : Int)) (c + (n : Int)) := by
  intro m
  induction m with
  | zero =>
    intro i hi
    refine ev_succ ?_
    simp only [laws_heldIntS.l0]
    exact ev_neg (by rw [mkInt_length]; omega) (ev_of (by rw [show i = n by omega]))
  | succ m ih =>
    intro i hi
    refine ev_succ ?_
    simp only [laws_heldIntS.l0]
    refine ev_pos (by rw [mkInt_length]; omega) (ev_pos (by omega) ?_)
    have hg := mkInt_get c n i (by omega)
    refine ev_pos (by simp [rd, List.getD_eq_getElem?_getD, hg]) ?_
    rw [wrap_small (by omega) (by omega), wrap_small (by omega) (by omega)]
    have e1 : c + (i : Int) + 1 = c + ((i + 1 : Nat) : Int) := by omega
    rw [e1]
    exact ih (i + 1) (by omega)
theorem heldInt_ev (c : Int) (n : Nat) (hc : 0 ≤ c) (hc2 : c ≤ 100000000) (hn : n ≤ 1048576) : Ev (fun k => laws_heldIntS.f k (mkInt c n) c) (c + (n : Int)) := by
  simp only [laws_heldIntS.f]
  have h := heldInt_loop c n hc hc2 hn n 0 (by omega)
  have e : c + ((0 : Nat) : Int) = c := by omega
  rw [e] at h
  exact h

theorem len_cap {l : Nat} (h : l ≤ maxLen) : (l : Int) ≤ 9223372036854775807 := by
  have : maxLen ≤ 9223372036854775807 := by decide
  omega
def cv (x : S77) : S75 := ⟨x.f0, x.f1⟩
theorem toNode_loop (l : List S77) (hl : l.length ≤ 1048576) : ∀ (m i : Nat) (out : List S75), i + m = l.length → out.length = l.length → (∀ j, j < i → out[j]? = (l.map cv)[j]?) → Ev (fun k => laws_toNodeS.l0 k l out (i : Int)) (l.map cv) := by
  intro m
  induction m with
  | zero =>
    intro i out hi ho h
    refine ev_succ ?_
    simp only [laws_toNodeS.l0]
    refine ev_neg (by omega) ?_
    exact ev_of (congrArg some (all_kept _ out (by simpa using ho) (fun j hj => h j (by simp at hj; omega))))
  | succ m ih =>
    intro i out hi ho h
    refine ev_succ ?_
    simp only [laws_toNodeS.l0, laws_toNode.f]
    refine ev_pos (by omega) (ev_pos (by omega) (ev_some (ev_pos (by omega) ?_)))
    rw [wrap_small (by omega) (by omega)]
    have hs := ih (i + 1) (out.set i ((l.map cv).getD i z75)) (by omega) (by simpa using ho) (set_keeps (l.map cv) out z75 i (by simp; omega) (by simpa using ho) h)
    rw [show (l.map cv).getD i z75 = cv (l[i]'(by omega)) by rw [List.getD_eq_getElem?_getD, List.getElem?_map, List.getElem?_eq_getElem (by omega)]; rfl] at hs
    have hg : rd_T77 l (i : Int) = l[i]'(by omega) := by unfold rd_T77; rw [Int.toNat_natCast, List.getD_eq_getElem?_getD, List.getElem?_eq_getElem (by omega)]; rfl
    rw [hg, Int.toNat_natCast]
    exact hs
theorem toNode_ev (l : List S77) (hl : l.length ≤ 1048576) : Ev (fun k => laws_toNodeS.f k l) (l.map cv) := by
  simp only [laws_toNodeS.f]
  refine ev_pos (by omega) (ev_pos (by omega) ?_)
  exact toNode_loop l hl l.length 0 (List.replicate ((l.length : Int)).toNat z75) (by omega) (by simp) (fun j hj => by omega)
theorem eqNode_loop (l : List S75) (hl : l.length ≤ 1048576) : ∀ (m i : Nat), i + m = l.length → Ev (fun k => laws_eqNodeS.l0 k l l (i : Int)) true := by
  intro m
  induction m with
  | zero =>
    intro i hi
    refine ev_succ ?_
    simp only [laws_eqNodeS.l0]
    exact ev_neg (by omega) (ev_of rfl)
  | succ m ih =>
    intro i hi
    refine ev_succ ?_
    simp only [laws_eqNodeS.l0, laws_eqNode.f]
    refine ev_pos (by omega) (ev_pos (by omega) (ev_pos (by omega) ?_))
    simp only [if_true]
    refine ev_some (ev_pos rfl ?_)
    rw [wrap_small (by omega) (by omega)]
    exact ih (i + 1) (by omega)
theorem eqNode_ev (l : List S75) (hl : l.length ≤ 1048576) : Ev (fun k => laws_eqNodeS.f k l l) true := by
  simp only [laws_eqNodeS.f]
  refine ev_pos (by first | rfl | trivial) ?_
  exact eqNode_loop l hl l.length 0 (by omega)
theorem rd75 (l : List S75) (i : Nat) (h : i < l.length) : rd_T75 l (i : Int) = l[i] := by
  unfold rd_T75; rw [Int.toNat_natCast, List.getD_eq_getElem?_getD, List.getElem?_eq_getElem h]; rfl

def mkN (n : Nat) : List S75 := (List.range n).map fun j : Nat => ⟨1 + 2 * (j : Int), 1 + 2 * (j : Int) + 1⟩
theorem mkN_len (n : Nat) : (mkN n).length = n := by simp [mkN]
theorem mkN_get (n i : Nat) (h : i < n) : (mkN n)[i]? = some ⟨1 + 2 * (i : Int), 1 + 2 * (i : Int) + 1⟩ := by simp [mkN, h]
theorem rdset (l : List S75) (i : Nat) (h : i < l.length) (u : S75) : rd_T75 (l.set i u) (i : Int) = u := by
  unfold rd_T75
  simp [List.getD_eq_getElem?_getD, h]
theorem markN_loop (l : List S75) (hl : l.length ≤ 1048576) : ∀ (m i : Nat) (out : List S75), i + m = l.length → out.length = l.length → (∀ j, j < i → out[j]? = (mkN l.length)[j]?) → Ev (fun k => laws_markNodeS.l0 k out (1 + 2 * (i : Int)) (i : Int)) (1 + 2 * (l.length : Int), mkN l.length) := by
  intro m
  induction m with
  | zero =>
    intro i out hi ho h
    refine ev_succ ?_
    simp only [laws_markNodeS.l0]
    refine ev_neg (by omega) ?_
    have e : out = mkN l.length := all_kept _ _ (by rw [mkN_len, ho]) (fun j hj => h j (by rw [mkN_len] at hj; omega))
    exact ev_of (by rw [e, show i = l.length by omega])
  | succ m ih =>
    intro i out hi ho h
    refine ev_succ ?_
    simp only [laws_markNodeS.l0]
    refine ev_pos (by omega) (ev_pos (by omega) (ev_some ?_))
    rw [Int.toNat_natCast, rdset out i (by omega), List.set_set]
    have w1 : wrap64 (1 + 2 * (i : Int) + 1) = 1 + 2 * (i : Int) + 1 := wrap_small (by omega) (by omega)
    rw [w1, wrap_small (by omega) (by omega), wrap_small (by omega) (by omega)]
    have hg := mkN_get l.length i (by omega)
    have hs := ih (i + 1) (out.set i ((mkN l.length).getD i z75)) (by omega) (by simpa using ho) (set_keeps _ out z75 i (by rw [mkN_len]; omega) (by rw [mkN_len, ho]) h)
    rw [List.getD_eq_getElem?_getD, hg] at hs
    simp only [Option.getD_some] at hs
    have e1 : 1 + 2 * (i : Int) + 1 + 1 = 1 + 2 * ((i + 1 : Nat) : Int) := by omega
    rw [e1]
    exact hs
theorem markN_ev (l : List S75) (hl : l.length ≤ 1048576) : Ev (fun k => laws_markNodeS.f k l 1) (1 + 2 * (l.length : Int), mkN l.length) := by
  simp only [laws_markNodeS.f]
  exact markN_loop l hl l.length 0 l (by omega) rfl (fun j hj => by omega)

def hs (n : Int) (x : S75) : Bool := x.f0 == 1 && x.f1 == n
def U (l : List S75) : Nat → Nat → List Int → List Int
  | 0, _, acc => acc
  | m + 1, n, acc => U l m (n + 1) (if l.any (hs (n : Int)) = true then acc ++ [(n : Int)] else acc)
theorem U_len (l : List S75) : ∀ (m n : Nat) (acc : List Int), (U l m n acc).length ≤ acc.length + m
  | 0, _, _ => Nat.le_refl _
  | m + 1, n, acc => by
    unfold U
    have := U_len l m (n + 1) (if l.any (hs (n : Int)) = true then acc ++ [(n : Int)] else acc)
    split at this <;> split <;> simp_all <;> omega
theorem ixL (l : List S75) (hl : l.length ≤ 1048576) (n : Int) : ∀ (m i : Nat), i + m = l.length → ∃ r : Int, Ev (fun k => impl_Node_92.l0 k l (l.length : Int) (i : Int) 1 n) r ∧ decide (r ≥ 0) = (l.drop i).any (hs n) := by
  intro m
  induction m with
  | zero =>
    intro i hi
    refine ⟨-1, ev_succ ?_, ?_⟩
    · simp only [impl_Node_92.l0]
      exact ev_neg (by omega) (ev_of rfl)
    · rw [List.drop_eq_nil_of_le (by omega)]
      rfl
  | succ m ih =>
    intro i hi
    have hd : l.drop i = l[i]'(by omega) :: l.drop (i + 1) := List.drop_eq_getElem_cons (by omega)
    rw [hd, List.any_cons]
    have hc : ((1 : Int) == (l[i]'(by omega)).f0 && (n == (l[i]'(by omega)).f1)) = hs n (l[i]'(by omega)) := by
      unfold hs
      rw [Bool.beq_comm (a := (1 : Int)), Bool.beq_comm (a := n)]
    by_cases h : hs n (l[i]'(by omega)) = true
    · refine ⟨(i : Int), ev_succ ?_, ?_⟩
      · simp only [impl_Node_92.l0]
        rw [rd75 l i (by omega)]
        exact ev_pos (by omega) (ev_pos (by omega) (ev_pos (by omega) (ev_pos (by rw [hc]; exact h) (ev_of rfl))))
      · rw [h, Bool.true_or]
        exact decide_eq_true (by omega)
    · obtain ⟨r, hr, he⟩ := ih (i + 1) (by omega)
      refine ⟨r, ev_succ ?_, ?_⟩
      · simp only [impl_Node_92.l0]
        rw [rd75 l i (by omega)]
        refine ev_pos (by omega) (ev_pos (by omega) (ev_pos (by omega) (ev_neg (by rw [hc]; exact h) ?_)))
        rw [wrap_small (by omega) (by omega)]
        exact hr
      · rw [he]
        simp [h]
theorem ct (l : List S75) (hl : l.length ≤ 1048576) (n : Int) : Ev (fun k => impl_Node_64.f k l 1 n) (l.any (hs n)) := by
  obtain ⟨r, hr, he⟩ := ixL l hl n l.length 0 (by omega)
  simp only [impl_Node_64.f, impl_Node_92.f]
  refine Ev.bind hr (ev_of ?_)
  rw [he]
  rfl
theorem usI_g (l : List S75) (hl : l.length ≤ 1048576) : ∀ (m n : Nat) (acc : List Int), Ev (fun k => impl_UsedBits.go k l m n acc) (U l m n acc)
  | 0, _, _ => ev_of rfl
  | m + 1, n, acc => by
    simp only [impl_UsedBits.go]
    exact Ev.bind (ct l hl (n : Int)) (usI_g l hl m (n + 1) _)
theorem usI (l : List S75) (hl : l.length ≤ 1048576) : Ev (fun k => impl_UsedBits.f k l) (U l 16 0 []) := usI_g l hl 16 0 []
theorem usS1 (l : List S75) (hl : l.length ≤ 1048576) (n : Nat) (acc r : List Int) (hn : n < 16) (ha : acc.length ≤ n)
    (hy : Ev (fun k => spec_UsedBits.l0 k l (if l.any (hs (n : Int)) = true then acc ++ [(n : Int)] else acc) ((n + 1 : Nat) : Int)) r) : ∀ (m i : Nat), i + m = l.length → (l.take i).any (hs (n : Int)) = false → Ev (fun k => spec_UsedBits.l1 k l acc (n : Int) (i : Int)) r := by
  have w1 : wrap64 ((n : Int) + 1) = ((n + 1 : Nat) : Int) := wrap_small (by omega) (by omega)
  intro m
  induction m with
  | zero =>
    intro i hi hf
    refine ev_succ ?_
    simp only [spec_UsedBits.l1]
    rw [w1]
    refine ev_neg (by omega) ?_
    rw [List.take_of_length_le (by omega)] at hf
    rw [if_neg (by rw [hf]; simp)] at hy
    exact hy
  | succ m ih =>
    intro i hi hf
    refine ev_succ ?_
    simp only [spec_UsedBits.l1]
    rw [rd75 l i (by omega), w1]
    have ht : (l.take (i + 1)).any (hs (n : Int)) = hs (n : Int) (l[i]'(by omega)) := by
      rw [List.take_succ_eq_append_getElem (by omega), List.any_append, hf]
      simp
    have go_on : hs (n : Int) (l[i]'(by omega)) = false → Ev (fun k => spec_UsedBits.l1 k l acc (n : Int) (wrap64 ((i : Int) + 1))) r := by
      intro h
      rw [wrap_small (by omega) (by omega)]
      exact ih (i + 1) (by omega) (by rw [ht, h])
    refine ev_pos (by omega) (ev_pos (by omega) ?_)
    by_cases h1 : (l[i]'(by omega)).f0 = 1
    · refine ev_pos h1 ?_
      by_cases h2 : (l[i]'(by omega)).f1 = (n : Int)
      · refine ev_pos h2 (ev_pos (by omega) ?_)
        have : l.any (hs (n : Int)) = true := List.any_eq_true.mpr ⟨l[i]'(by omega), List.getElem_mem _, by simp [hs, h1, h2]⟩
        rw [if_pos this] at hy
        exact hy
      · exact ev_neg h2 (go_on (by simp [hs, h2]))
    · exact ev_neg h1 (go_on (by simp [hs, h1]))
theorem usS0 (l : List S75) (hl : l.length ≤ 1048576) : ∀ (m n : Nat) (acc : List Int), n + m = 16 → acc.length ≤ n → Ev (fun k => spec_UsedBits.l0 k l acc (n : Int)) (U l m n acc)
  | 0, n, acc, h, _ => by
    refine ev_succ ?_
    simp only [spec_UsedBits.l0]
    exact ev_neg (by omega) (ev_of rfl)
  | m + 1, n, acc, h, ha => by
    refine ev_succ ?_
    simp only [spec_UsedBits.l0]
    refine ev_pos (by omega) ?_
    refine usS1 l hl n acc _ (by omega) ha ?_ l.length 0 (by omega) (by simp)
    exact usS0 l hl m (n + 1) _ (by omega) (by split <;> (try simp) <;> omega)
theorem usS (l : List S75) (hl : l.length ≤ 1048576) : Ev (fun k => spec_UsedBits.f k l) (U l 16 0 []) := by
  simp only [spec_UsedBits.f]
  exact usS0 l hl 16 0 [] (by omega) (by simp)
theorem Us_len (l : List S75) : (U l 16 0 []).length ≤ 16 := by
  have := U_len l 16 0 []
  simpa using this

theorem pure_holds : Pure := by
  intro l hl
  refine Ev.rounds ?_
  simp only [laws_FnExactUsedBits.f, laws_szNodeS.f]
  have hlm := len_cap hl.1
  have hlm2 : wrap64 (1048576 - (l.length : Int)) = 1048576 - (l.length : Int) := wrap_small (by omega) (by omega)
  by_cases hb : wrap64 (1048576 - (l.length : Int)) < 0
  · rw [if_pos hb]
    exact ev_some (ev_pos (by decide) (ev_of rfl))
  · rw [if_neg hb]
    rw [hlm2] at hb ⊢
    refine ev_some (ev_neg hb ?_)
    have hln : l.length ≤ 1048576 := by omega
    have hmn : (l.map cv).length ≤ 1048576 := by simpa using hln
    have t := toNode_ev l hln
    have hU := Us_len (l.map cv)
    have e := eqInt_ev (U (l.map cv) 16 0 []) (by omega)
    have hh := heldInt_ev 1 (U (l.map cv) 16 0 []).length (by omega) (by omega) (by omega)
    refine Ev.bind t (Ev.bind (usS _ hmn) (Ev.bind t (Ev.bind (usI _ hmn) (Ev.bind e (ev_pos rfl ?_)))))
    refine Ev.bind t (Ev.bind (eqNode_ev _ hmn) (ev_pos rfl ?_))
    refine Ev.bind (markN_ev _ hmn) ?_
    dsimp only
    refine ev_neg (by omega) (Ev.bind e (ev_succ ?_))
    simp only [laws_FnExactUsedBits.j0]
    refine ev_neg (by simp) (Ev.bind (markInt_ev _ 1 (by omega) (by omega) (by omega)) ?_)
    dsimp only
    refine Ev.bind hh (ev_neg (by omega) (ev_pos rfl ?_))
    refine Ev.bind t (Ev.bind (usI _ hmn) (Ev.bind e (ev_pos rfl ?_)))
    refine Ev.bind hh (ev_neg (by omega) (ev_pos rfl (ev_of rfl)))

end Go.Proofs.Ytmlhkalgaeemaaa.fnExactUsedBits

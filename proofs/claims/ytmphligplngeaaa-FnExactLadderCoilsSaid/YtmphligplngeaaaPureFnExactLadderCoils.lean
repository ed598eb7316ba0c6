/- The law FnExactLadderCoils answers true for every list of rungs; no condition but that the numbers are of their kind. -/
import Derived.Test.YtmphligplngeaaaStFnExactLadderCoils
namespace Go.Proofs.Ytmphligplngeaaa.fnExactLadderCoils
open Go.RowKit Go.Proofs.Ytmphligplngeaaa.GFnExactLadderCoils Go.Proofs.YtmphligplngeaaaV.PrintWords Go.Proofs.YtmphligplngeaaaV.PrintLast Go.Proofs.YtmphligplngeaaaV.PrintMore
set_option linter.unusedVariables false
set_option linter.unusedSimpArgs false

theorem ev_succ {α : Type} {g : Nat → Option α} {r : α} (h : Ev (fun k => g (k + 1)) r) : Ev g r := Ev.step (fun _ => rfl) h
theorem ev_pos {α : Type} {c : Prop} [Decidable c] {g f : Nat → Option α} {r : α} (hc : c) (h : Ev g r) : Ev (fun k => if c then g k else f k) r := Ev.congr (fun _ => if_pos hc) h
theorem ev_neg {α : Type} {c : Prop} [Decidable c] {g f : Nat → Option α} {r : α} (hc : ¬ c) (h : Ev f r) : Ev (fun k => if c then g k else f k) r := Ev.congr (fun _ => if_neg hc) h
theorem ev_some {α β : Type} {a : α} {f : Nat → α → Option β} {r : β} (h : Ev (fun k => f k a) r) : Ev (fun k => (some a).bind (f k)) r := h
theorem ev_of {α : Type} {a : Option α} {r : α} (h : a = some r) : Ev (fun _ => a) r := ⟨0, fun _ _ => h⟩
theorem ev_eq {α : Type} {g : Nat → Option α} {r r' : α} (h : Ev g r) (e : r = r') : Ev g r' := e ▸ h
theorem wrap_small {i : Int} (h0 : -9223372036854775808 ≤ i) (h1 : i ≤ 9223372036854775807) : wrap64 i = i := by unfold wrap64; omega
theorem wf_bounds {x : Int} (h : (Lit.int .i64 x).wf = true) : -9223372036854775808 ≤ x ∧ x ≤ 9223372036854775807 := by
  simp [Lit.wf, IntKind.min, IntKind.max, IntKind.signed, IntKind.bits] at h
  omega
theorem set_keeps {α : Type} (l out : List α) (d : α) (i : Nat) (hi : i < l.length) (ho : out.length = l.length) (h : ∀ j, j < i → out[j]? = l[j]?) : ∀ j, j < i + 1 → (out.set i (l.getD i d))[j]? = l[j]? := by
  intro j hj
  rw [List.getElem?_set]
  by_cases e : i = j
  · subst e
    rw [if_pos rfl, if_pos (by omega), List.getD_eq_getElem?_getD, List.getElem?_eq_getElem hi]
    rfl
  · rw [if_neg e]
    exact h j (by omega)
theorem all_kept {α : Type} (l out : List α) (ho : out.length = l.length) (h : ∀ j, j < l.length → out[j]? = l[j]?) : out = l := by
  apply List.ext_getElem?
  intro j
  by_cases hj : j < l.length
  · exact h j hj
  · rw [List.getElem?_eq_none (by omega), List.getElem?_eq_none (by omega)]

theorem eqInt_loop (l : List Int) (hl : l.length ≤ 1048576) : ∀ (m i : Nat), i + m = l.length → Ev (fun k => laws_eqIntS.l0 k l l (i : Int)) true := by
  intro m
  induction m with
  | zero =>
    intro i hi
    refine ev_succ ?_
    simp only [laws_eqIntS.l0]
    exact ev_neg (by omega) (ev_of rfl)
  | succ m ih =>
    intro i hi
    refine ev_succ ?_
    simp only [laws_eqIntS.l0]
    refine ev_pos (by omega) (ev_pos (by omega) (ev_pos (by omega) ?_))
    refine ev_pos (by first | rfl | trivial) ?_
    rw [wrap_small (by omega) (by omega)]
    exact ih (i + 1) (by omega)
theorem eqInt_ev (l : List Int) (hl : l.length ≤ 1048576) : Ev (fun k => laws_eqIntS.f k l l) true := by
  simp only [laws_eqIntS.f]
  refine ev_pos (by first | rfl | trivial) ?_
  exact eqInt_loop l hl l.length 0 (by omega)

def mkInt (c : Int) (n : Nat) : List Int := (List.range n).map fun j : Nat => (c + (j : Int))
theorem mkInt_length (c : Int) (n : Nat) : (mkInt c n).length = n := by simp [mkInt]
theorem mkInt_get (c : Int) (n i : Nat) (h : i < n) : (mkInt c n)[i]? = some (c + (i : Int)) := by
  simp [mkInt, h]
theorem markInt_loop (l : List Int) (c : Int) (hc : 0 ≤ c) (hc2 : c ≤ 100000000) (hl : l.length ≤ 1048576) : ∀ (m i : Nat) (out : List Int), i + m = l.length → out.length = l.length → (∀ j, j < i → out[j]? = (mkInt c l.length)[j]?) →
    Ev (fun k => laws_markIntS.l0 k out (c + (i : Int)) (i : Int)) (c + (l.length : Int), mkInt c l.length) := by
  intro m
  induction m with
  | zero =>
    intro i out hi ho h
    refine ev_succ ?_
    simp only [laws_markIntS.l0]
    refine ev_neg (by omega) ?_
    have e : out = mkInt c l.length := all_kept _ _ (by rw [mkInt_length, ho]) (fun j hj => h j (by rw [mkInt_length] at hj; omega))
    exact ev_of (by rw [e, show i = l.length by omega])
  | succ m ih =>
    intro i out hi ho h
    refine ev_succ ?_
    simp only [laws_markIntS.l0]
    refine ev_pos (by omega) (ev_pos (by omega) ?_)
    rw [wrap_small (by omega) (by omega), wrap_small (by omega) (by omega)]
    have hg := mkInt_get c l.length i (by omega)
    have hs := ih (i + 1) (out.set i ((mkInt c l.length).getD i 0)) (by omega) (by simpa using ho) (set_keeps _ out 0 i (by rw [mkInt_length]; omega) (by rw [mkInt_length, ho]) h)
    rw [List.getD_eq_getElem?_getD, hg] at hs
    simp only [Option.getD_some] at hs
    have e1 : c + (i : Int) + 1 = c + ((i + 1 : Nat) : Int) := by omega
    rw [e1]
    exact hs
theorem markInt_ev (l : List Int) (c : Int) (hc : 0 ≤ c) (hc2 : c ≤ 100000000) (hl : l.length ≤ 1048576) : Ev (fun k => laws_markIntS.f k l c) (c + (l.length : Int), mkInt c l.length) := by
  simp only [laws_markIntS.f]
  have h := markInt_loop l c hc hc2 hl l.length 0 l (by omega) rfl (fun j hj => by omega)
  have e : c + ((0 : Nat) : Int) = c := by omega
  rw [e] at h
  exact h

theorem heldInt_loop (c : Int) (n : Nat) (hc : 0 ≤ c) (hc2 : c ≤ 100000000) (hn : n ≤ 1048576) : ∀ (m i : Nat), i + m = n → Ev (fun k => laws_heldIntS.l0 k (mkInt c n) (c + (i : Int)) (i : Int)) (c + (n : Int)) := by
  intro m
  induction m with
  | zero =>
    intro i hi
    refine ev_succ ?_
    simp only [laws_heldIntS.l0]
    exact ev_neg (by rw [mkInt_length]; omega) (ev_of (by rw [show i = n by omega]))
  | succ m ih =>
    intro i hi
    refine ev_succ ?_
    simp only [laws_heldIntS.l0]
    refine ev_pos (by rw [mkInt_length]; omega) (ev_pos (by omega) ?_)
    have hg := mkInt_get c n i (by omega)
    refine ev_pos (by simp [rd, List.getD_eq_getElem?_getD, hg]) ?_
    rw [wrap_small (by omega) (by omega), wrap_small (by omega) (by omega)]
    have e1 : c + (i : Int) + 1 = c + ((i + 1 : Nat) : Int) := by omega
    rw [e1]
    exact ih (i + 1) (by omega)
theorem heldInt_ev (c : Int) (n : Nat) (hc : 0 ≤ c) (hc2 : c ≤ 100000000) (hn : n ≤ 1048576) : Ev (fun k => laws_heldIntS.f k (mkInt c n) c) (c + (n : Int)) := by
  simp only [laws_heldIntS.f]
  have h := heldInt_loop c n hc hc2 hn n 0 (by omega)
  have e : c + ((0 : Nat) : Int) = c := by omega
  rw [e] at h
  exact h

theorem len_cap {l : Nat} (h : l ≤ maxLen) : (l : Int) ≤ 9223372036854775807 := by
  have : maxLen ≤ 9223372036854775807 := by decide
  omega
def cv (x : S71) : S69 := ⟨x.f0, x.f1⟩
theorem toNode_loop (l : List S71) (hl : l.length ≤ 1048576) : ∀ (m i : Nat) (out : List S69), i + m = l.length → out.length = l.length → (∀ j, j < i → out[j]? = (l.map cv)[j]?) → Ev (fun k => laws_toNodeS.l0 k l out (i : Int)) (l.map cv) := by
  intro m
  induction m with
  | zero =>
    intro i out hi ho h
    refine ev_succ ?_
    simp only [laws_toNodeS.l0]
    refine ev_neg (by omega) ?_
    exact ev_of (congrArg some (all_kept _ out (by simpa using ho) (fun j hj => h j (by simp at hj; omega))))
  | succ m ih =>
    intro i out hi ho h
    refine ev_succ ?_
    simp only [laws_toNodeS.l0, laws_toNode.f]
    refine ev_pos (by omega) (ev_pos (by omega) (ev_some (ev_pos (by omega) ?_)))
    rw [wrap_small (by omega) (by omega)]
    have hs := ih (i + 1) (out.set i ((l.map cv).getD i z69)) (by omega) (by simpa using ho) (set_keeps (l.map cv) out z69 i (by simp; omega) (by simpa using ho) h)
    rw [show (l.map cv).getD i z69 = cv (l[i]'(by omega)) by rw [List.getD_eq_getElem?_getD, List.getElem?_map, List.getElem?_eq_getElem (by omega)]; rfl] at hs
    have hg : rd_T71 l (i : Int) = l[i]'(by omega) := by unfold rd_T71; rw [Int.toNat_natCast, List.getD_eq_getElem?_getD, List.getElem?_eq_getElem (by omega)]; rfl
    rw [hg, Int.toNat_natCast]
    exact hs
theorem toNode_ev (l : List S71) (hl : l.length ≤ 1048576) : Ev (fun k => laws_toNodeS.f k l) (l.map cv) := by
  simp only [laws_toNodeS.f]
  refine ev_pos (by omega) (ev_pos (by omega) ?_)
  exact toNode_loop l hl l.length 0 (List.replicate ((l.length : Int)).toNat z69) (by omega) (by simp) (fun j hj => by omega)
theorem eqNode_loop (l : List S69) (hl : l.length ≤ 1048576) : ∀ (m i : Nat), i + m = l.length → Ev (fun k => laws_eqNodeS.l0 k l l (i : Int)) true := by
  intro m
  induction m with
  | zero =>
    intro i hi
    refine ev_succ ?_
    simp only [laws_eqNodeS.l0]
    exact ev_neg (by omega) (ev_of rfl)
  | succ m ih =>
    intro i hi
    refine ev_succ ?_
    simp only [laws_eqNodeS.l0, laws_eqNode.f]
    refine ev_pos (by omega) (ev_pos (by omega) (ev_pos (by omega) ?_))
    simp only [if_true]
    refine ev_some (ev_pos rfl ?_)
    rw [wrap_small (by omega) (by omega)]
    exact ih (i + 1) (by omega)
theorem eqNode_ev (l : List S69) (hl : l.length ≤ 1048576) : Ev (fun k => laws_eqNodeS.f k l l) true := by
  simp only [laws_eqNodeS.f]
  refine ev_pos (by first | rfl | trivial) ?_
  exact eqNode_loop l hl l.length 0 (by omega)
theorem rd75 (l : List S69) (i : Nat) (h : i < l.length) : rd_T69 l (i : Int) = l[i] := by
  unfold rd_T69; rw [Int.toNat_natCast, List.getD_eq_getElem?_getD, List.getElem?_eq_getElem h]; rfl

def mkG (c : Int) (n : Nat) : List S69 := (List.range n).map fun j : Nat => ⟨c + 2 * (j : Int), c + 2 * (j : Int) + 1⟩
theorem mkG_len (c : Int) (n : Nat) : (mkG c n).length = n := by simp [mkG]
theorem mkG_get (c : Int) (n i : Nat) (h : i < n) : (mkG c n)[i]? = some ⟨c + 2 * (i : Int), c + 2 * (i : Int) + 1⟩ := by simp [mkG, h]
theorem rdset (l : List S69) (i : Nat) (h : i < l.length) (u : S69) : rd_T69 (l.set i u) (i : Int) = u := by
  unfold rd_T69
  simp [List.getD_eq_getElem?_getD, h]
theorem markG_loop (c : Int) (hc : 0 ≤ c) (hc2 : c ≤ 100000000) (l : List S69) (hl : l.length ≤ 1048576) : ∀ (m i : Nat) (out : List S69), i + m = l.length → out.length = l.length → (∀ j, j < i → out[j]? = (mkG c l.length)[j]?) → Ev (fun k => laws_markNodeS.l0 k out (c + 2 * (i : Int)) (i : Int)) (c + 2 * (l.length : Int), mkG c l.length) := by
  intro m
  induction m with
  | zero =>
    intro i out hi ho h
    refine ev_succ ?_
    simp only [laws_markNodeS.l0]
    refine ev_neg (by omega) ?_
    have e : out = mkG c l.length := all_kept _ _ (by rw [mkG_len, ho]) (fun j hj => h j (by rw [mkG_len] at hj; omega))
    exact ev_of (by rw [e, show i = l.length by omega])
  | succ m ih =>
    intro i out hi ho h
    refine ev_succ ?_
    simp only [laws_markNodeS.l0]
    refine ev_pos (by omega) (ev_pos (by omega) (ev_some ?_))
    rw [Int.toNat_natCast, rdset out i (by omega), List.set_set]
    have w1 : wrap64 (c + 2 * (i : Int) + 1) = c + 2 * (i : Int) + 1 := wrap_small (by omega) (by omega)
    rw [w1, wrap_small (by omega) (by omega), wrap_small (by omega) (by omega)]
    have hg := mkG_get c l.length i (by omega)
    have hs := ih (i + 1) (out.set i ((mkG c l.length).getD i z69)) (by omega) (by simpa using ho) (set_keeps _ out z69 i (by rw [mkG_len]; omega) (by rw [mkG_len, ho]) h)
    rw [List.getD_eq_getElem?_getD, hg] at hs
    simp only [Option.getD_some] at hs
    have e1 : c + 2 * (i : Int) + 1 + 1 = c + 2 * ((i + 1 : Nat) : Int) := by omega
    rw [e1]
    exact hs
theorem markG_ev (c : Int) (hc : 0 ≤ c) (hc2 : c ≤ 100000000) (l : List S69) (hl : l.length ≤ 1048576) : Ev (fun k => laws_markNodeS.f k l c) (c + 2 * (l.length : Int), mkG c l.length) := by
  simp only [laws_markNodeS.f]
  have h := markG_loop c hc hc2 l hl l.length 0 l (by omega) rfl (fun j hj => by omega)
  have e : c + 2 * ((0 : Nat) : Int) = c := by omega
  rw [e] at h
  exact h

def cvR (x : S58) : S60 := ⟨x.f0.map cv, x.f1, x.f2⟩
def tot : List S58 → Nat
  | [] => 0
  | x :: r => x.f0.length + tot r
theorem tot_cons (x : S58) (r : List S58) : tot (x :: r) = x.f0.length + tot r := rfl
theorem tot_le {l : List S58} {x : S58} (h : x ∈ l) : x.f0.length ≤ tot l := by
  induction l with
  | nil => cases h
  | cons y r ih =>
    rw [tot_cons]
    rcases List.mem_cons.1 h with rfl | h
    · omega
    · have := ih h; omega
theorem rd58 (l : List S58) (i : Nat) (h : i < l.length) : rd_T58 l (i : Int) = l[i] := by
  unfold rd_T58; rw [Int.toNat_natCast, List.getD_eq_getElem?_getD, List.getElem?_eq_getElem h]; rfl
theorem rd60 (l : List S60) (i : Nat) (h : i < l.length) : rd_T60 l (i : Int) = l[i] := by
  unfold rd_T60; rw [Int.toNat_natCast, List.getD_eq_getElem?_getD, List.getElem?_eq_getElem h]; rfl
theorem sz_rung1 (l : List S71) (c kd left : Int) (h0 : 0 ≤ left) (h1 : left ≤ 1048576) (hl : l.length ≤ maxLen) : (∃ r, laws_szRung.f l c kd left = some r ∧ r < 0) ∨ ((l.length : Int) ≤ left ∧ laws_szRung.f l c kd left = some (left - l.length)) := by
  have hlm := len_cap hl
  unfold laws_szRung.f laws_szNodeS.f
  rw [wrap_small (i := left - (l.length : Int)) (by omega) (by omega)]
  by_cases h : left - (l.length : Int) < 0
  · rw [if_pos h]
    exact .inl ⟨-1, rfl, by omega⟩
  · rw [if_neg h, Option.bind_some, if_neg h]
    exact .inr ⟨by omega, rfl⟩
theorem sz_loop (l : List S58) (hl : l.length ≤ 1048576) (hx : ∀ x ∈ l, x.f0.length ≤ maxLen) : ∀ (m i : Nat) (left : Int), i + m = l.length → 0 ≤ left → left ≤ 1048576 →
    (∃ r, Ev (fun k => laws_szRungS.l0 k l left (i : Int)) r ∧ r < 0) ∨ (((tot (l.drop i) : Nat) : Int) ≤ left ∧ Ev (fun k => laws_szRungS.l0 k l left (i : Int)) (left - (tot (l.drop i) : Nat))) := by
  intro m
  induction m with
  | zero =>
    intro i left hi h0 h1
    rw [List.drop_eq_nil_of_le (by omega)]
    refine .inr ⟨by simp [tot]; omega, ev_succ ?_⟩
    simp only [laws_szRungS.l0]
    exact ev_neg (by omega) (ev_of (by simp [tot]))
  | succ m ih =>
    intro i left hi h0 h1
    have hlt : i < l.length := by omega
    have hd : l.drop i = l[i] :: l.drop (i + 1) := List.drop_eq_getElem_cons hlt
    have hm := hx _ (List.getElem_mem hlt)
    have hr := rd58 l i hlt
    rcases sz_rung1 l[i].f0 l[i].f1 l[i].f2 left h0 h1 hm with ⟨r, he, hneg⟩ | ⟨hle, he⟩
    · refine .inl ⟨-1, ev_succ ?_, by omega⟩
      simp only [laws_szRungS.l0]
      rw [hr, he]
      exact ev_pos (by omega) (ev_pos (by omega) (ev_some (ev_pos hneg (ev_of rfl))))
    · rw [hd]
      have step : ∀ r, Ev (fun k => laws_szRungS.l0 k l (left - (l[i].f0.length : Int)) ((i + 1 : Nat) : Int)) r → Ev (fun k => laws_szRungS.l0 k l left (i : Int)) r := by
        intro r h
        refine ev_succ ?_
        simp only [laws_szRungS.l0]
        rw [hr, he, wrap_small (i := (i : Int) + 1) (by omega) (by omega)]
        exact ev_pos (by omega) (ev_pos (by omega) (ev_some (ev_neg (by omega) h)))
      rcases ih (i + 1) (left - (l[i].f0.length : Int)) (by omega) (by omega) (by omega) with ⟨r, h, hneg⟩ | ⟨hle2, h⟩
      · exact .inl ⟨r, step r h, hneg⟩
      · refine .inr ⟨by rw [tot_cons]; omega, ?_⟩
        have e : left - ((tot (l[i] :: l.drop (i + 1)) : Nat) : Int) = left - (l[i].f0.length : Int) - ((tot (l.drop (i + 1)) : Nat) : Int) := by rw [tot_cons]; omega
        rw [e]
        exact step _ h
theorem sz_rungs (l : List S58) (hl : l.length ≤ maxLen) (hx : ∀ x ∈ l, x.f0.length ≤ maxLen) :
    (∃ r, Ev (fun k => laws_szRungS.f k l 1048576) r ∧ r < 0) ∨ (l.length ≤ 1048576 ∧ tot l ≤ 1048576 ∧ ∃ r, Ev (fun k => laws_szRungS.f k l 1048576) r ∧ 0 ≤ r) := by
  have hlm := len_cap hl
  simp only [laws_szRungS.f]
  rw [wrap_small (i := 1048576 - (l.length : Int)) (by omega) (by omega)]
  by_cases hneg0 : 1048576 - (l.length : Int) < 0
  · exact .inl ⟨-1, ev_pos hneg0 (ev_of rfl), by omega⟩
  · rcases sz_loop l (by omega) hx l.length 0 (1048576 - (l.length : Int)) (by omega) (by omega) (by omega) with ⟨r, h, hneg⟩ | ⟨hle, h⟩
    · exact .inl ⟨r, ev_neg hneg0 h, hneg⟩
    · rw [List.drop_zero] at hle h
      exact .inr ⟨by omega, by omega, _, ev_neg hneg0 h, by omega⟩
theorem toRungS_loop (l : List S58) (hl : l.length ≤ 1048576) (hx : ∀ x ∈ l, x.f0.length ≤ 1048576) : ∀ (m i : Nat) (out : List S60), i + m = l.length → out.length = l.length → (∀ j, j < i → out[j]? = (l.map cvR)[j]?) → Ev (fun k => laws_toRungS.l0 k l out (i : Int)) (l.map cvR) := by
  intro m
  induction m with
  | zero =>
    intro i out hi ho h
    refine ev_succ ?_
    simp only [laws_toRungS.l0]
    refine ev_neg (by omega) ?_
    exact ev_of (congrArg some (all_kept _ out (by simpa using ho) (fun j hj => h j (by simp at hj; omega))))
  | succ m ih =>
    intro i out hi ho h
    have hlt : i < l.length := by omega
    refine ev_succ ?_
    simp only [laws_toRungS.l0]
    rw [rd58 l i hlt]
    refine ev_pos (by omega) (ev_pos (by omega) (Ev.bind (g := fun k => laws_toRung.f k l[i].f0 l[i].f1 l[i].f2) (a := (l[i].f0.map cv, l[i].f1, l[i].f2)) ?_ (ev_pos (by omega) ?_)))
    · simp only [laws_toRung.f]
      exact Ev.bind (toNode_ev _ (hx _ (List.getElem_mem hlt))) (ev_of rfl)
    · rw [wrap_small (by omega) (by omega)]
      have hs := ih (i + 1) (out.set i ((l.map cvR).getD i z60)) (by omega) (by simpa using ho) (set_keeps (l.map cvR) out z60 i (by simp; omega) (by simpa using ho) h)
      rw [show (l.map cvR).getD i z60 = cvR l[i] by rw [List.getD_eq_getElem?_getD, List.getElem?_map, List.getElem?_eq_getElem hlt]; rfl] at hs
      rw [Int.toNat_natCast]
      exact hs
theorem toRungS_ev (l : List S58) (hl : l.length ≤ 1048576) (hx : ∀ x ∈ l, x.f0.length ≤ 1048576) : Ev (fun k => laws_toRungS.f k l) (l.map cvR) := by
  simp only [laws_toRungS.f]
  refine ev_pos (by omega) (ev_pos (by omega) ?_)
  exact toRungS_loop l hl hx l.length 0 (List.replicate ((l.length : Int)).toNat z60) (by omega) (by simp) (fun j hj => by omega)
theorem eqRungS_loop (l : List S60) (hl : l.length ≤ 1048576) (hx : ∀ x ∈ l, x.f0.length ≤ 1048576) : ∀ (m i : Nat), i + m = l.length → Ev (fun k => laws_eqRungS.l0 k l l (i : Int)) true := by
  intro m
  induction m with
  | zero =>
    intro i hi
    refine ev_succ ?_
    simp only [laws_eqRungS.l0]
    exact ev_neg (by omega) (ev_of rfl)
  | succ m ih =>
    intro i hi
    have hlt : i < l.length := by omega
    refine ev_succ ?_
    simp only [laws_eqRungS.l0]
    rw [rd60 l i hlt]
    refine ev_pos (by omega) (ev_pos (by omega) (ev_pos (by omega) (Ev.bind (g := fun k => laws_eqRung.f k l[i].f0 l[i].f1 l[i].f2 l[i].f0 l[i].f1 l[i].f2) (a := true) ?_ (ev_pos rfl ?_))))
    · simp only [laws_eqRung.f]
      refine Ev.bind (eqNode_ev _ (hx _ (List.getElem_mem hlt))) (ev_pos rfl ?_)
      simp only [if_true]
      exact ev_of rfl
    · rw [wrap_small (by omega) (by omega)]
      exact ih (i + 1) (by omega)
theorem eqRungS_ev (l : List S60) (hl : l.length ≤ 1048576) (hx : ∀ x ∈ l, x.f0.length ≤ 1048576) : Ev (fun k => laws_eqRungS.f k l l) true := by
  simp only [laws_eqRungS.f]
  refine ev_pos (by first | rfl | trivial) ?_
  exact eqRungS_loop l hl hx l.length 0 (by omega)
theorem mark_go : ∀ (l : List S58) (c : Int), 0 ≤ c → c + 2 * (tot l : Nat) + 2 * (l.length : Int) ≤ 100000000 → (∀ x ∈ l, x.f0.length ≤ 1048576) → Ev (fun k => laws_markRungS.go k (l.map cvR) c) (c + 2 * (tot l : Nat) + 2 * (l.length : Int))
  | [], c, _, _, _ => ev_of (by simp [laws_markRungS.go, tot])
  | x :: r, c, h0, h1, hx => by
    have hx0 := hx x (List.mem_cons_self ..)
    have e : ((x :: r).length : Int) = (r.length : Int) + 1 := by simp
    have et : ((tot (x :: r) : Nat) : Int) = (x.f0.length : Int) + ((tot r : Nat) : Int) := by rw [tot_cons]; omega
    rw [e, et] at h1 ⊢
    have ihr := mark_go r (c + 2 * (x.f0.length : Int) + 1 + 1) (by omega) (by omega) (fun y hy => hx y (List.mem_cons_of_mem _ hy))
    have hm := markG_ev c h0 (by omega) (x.f0.map cv) (by simpa using hx0)
    rw [List.length_map] at hm
    refine Ev.bind (g := fun k => laws_markNodeS.f k (cvR x).f0 c) hm ?_
    dsimp only
    rw [wrap_small (i := c + 2 * (x.f0.length : Int) + 1) (by omega) (by omega), wrap_small (by omega) (by omega)]
    exact ev_eq ihr (by omega)
theorem mark_ev (l : List S58) (hl : l.length ≤ 1048576) (ht : tot l ≤ 1048576) (hx : ∀ x ∈ l, x.f0.length ≤ 1048576) : ∃ r : Int, Ev (fun k => laws_markRungS.f k (l.map cvR) 1) r ∧ 0 ≤ r := by
  refine ⟨1 + 2 * ((tot l : Nat) : Int) + 2 * (l.length : Int), ?_, ?_⟩
  · simp only [laws_markRungS.f]
    exact ev_pos (by rw [List.length_map]; omega) (mark_go l 1 (by omega) (by omega) hx)
  · omega

theorem lc1 (l : List S60) (hl : l.length ≤ 1048576) (n : Nat) (hn : n < 16) (r : List Int) (hy : Ev (fun k => spec_LadderCoils.l0 k l (impl_LadderCoils.chl (impl_LadderCoils.p l) (n + 1)) ((n + 1 : Nat) : Int)) r) : ∀ (m i : Nat), i + m = l.length → (l.take i).any (impl_LadderCoils.is n) = false → Ev (fun k => spec_LadderCoils.l1 k l (impl_LadderCoils.chl (impl_LadderCoils.p l) n) (n : Int) (i : Int)) r := by
  have hc := impl_LadderCoils.chl_succ (impl_LadderCoils.p l) n
  have hlen := impl_LadderCoils.chl_len (impl_LadderCoils.p l) n
  intro m
  induction m with
  | zero =>
    intro i hi h
    refine ev_succ ?_
    simp only [spec_LadderCoils.l1]
    rw [List.take_of_length_le (by omega)] at h
    rw [show impl_LadderCoils.p l n = false from h, if_neg (by decide)] at hc
    rw [hc] at hy
    rw [wrap_small (by omega) (by omega)]
    exact ev_neg (by omega) hy
  | succ m ih =>
    intro i hi h
    have hlt : i < l.length := by omega
    refine ev_succ ?_
    simp only [spec_LadderCoils.l1]
    rw [rd60 l i hlt]
    refine ev_pos (by omega) (ev_pos (by omega) ?_)
    by_cases ha : l[i].f1 = (n : Int)
    · have hp : impl_LadderCoils.p l n = true := List.any_eq_true.mpr ⟨l[i], List.getElem_mem hlt, by simp [impl_LadderCoils.is, ha]⟩
      rw [hp, if_pos rfl] at hc
      rw [hc] at hy
      rw [wrap_small (i := (n : Int) + 1) (by omega) (by omega)]
      exact ev_pos ha (ev_pos (by omega) hy)
    · refine ev_neg ha ?_
      rw [wrap_small (by omega) (by omega)]
      refine ih (i + 1) (by omega) ?_
      rw [List.take_succ_eq_append_getElem hlt, List.any_append, h]
      simp [impl_LadderCoils.is, ha]
theorem lc0 (l : List S60) (hl : l.length ≤ 1048576) : ∀ (m n : Nat), n + m = 16 → Ev (fun k => spec_LadderCoils.l0 k l (impl_LadderCoils.chl (impl_LadderCoils.p l) n) (n : Int)) (impl_LadderCoils.chl (impl_LadderCoils.p l) 16)
  | 0, n, h => by
    refine ev_succ ?_
    simp only [spec_LadderCoils.l0]
    exact ev_neg (by omega) (ev_of (by rw [show n = 16 by omega]))
  | m + 1, n, h => by
    refine ev_succ ?_
    simp only [spec_LadderCoils.l0]
    refine ev_pos (by omega) ?_
    exact lc1 l hl n (by omega) _ (lc0 l hl m (n + 1) (by omega)) l.length 0 (by omega) rfl
theorem specE (l : List S60) (hl : l.length ≤ 1048576) : Ev (fun k => spec_LadderCoils.f k l) (impl_LadderCoils.chl (impl_LadderCoils.p l) 16) := by
  simp only [spec_LadderCoils.f]
  exact lc0 l hl 16 0 (by omega)

theorem pure_holds : Pure := by
  intro l hl
  refine Ev.rounds ?_
  simp only [laws_FnExactLadderCoils.f]
  rcases sz_rungs l hl.1 (fun x hx => (hl.2 x hx).1.1) with ⟨r, hr, hneg⟩ | ⟨hln, htn, r, hr, hpos⟩
  · exact Ev.bind hr (ev_pos hneg (ev_of rfl))
  · refine Ev.bind hr (ev_neg (by omega) ?_)
    have hxn : ∀ x ∈ l, x.f0.length ≤ 1048576 := fun x hx => Nat.le_trans (tot_le hx) htn
    have hmn : (l.map cvR).length ≤ 1048576 := by simpa using hln
    have hmx : ∀ x ∈ l.map cvR, x.f0.length ≤ 1048576 := by
      intro x hx
      obtain ⟨y, hy, rfl⟩ := List.mem_map.1 hx
      show (y.f0.map cv).length ≤ 1048576
      rw [List.length_map]
      exact hxn y hy
    have t := toRungS_ev l hln hxn
    have hI : impl_LadderCoils.f (l.map cvR) = some (impl_LadderCoils.chl (impl_LadderCoils.p (l.map cvR)) 16) := by unfold impl_LadderCoils.f; rw [if_pos (by omega)]
    have hU := impl_LadderCoils.chl_len (impl_LadderCoils.p (l.map cvR)) 16
    have hS := specE (l.map cvR) hmn
    obtain ⟨q, hq, hq0⟩ := mark_ev l hln htn hxn
    generalize impl_LadderCoils.chl (impl_LadderCoils.p (l.map cvR)) 16 = u at hI hU hS
    have e := eqInt_ev u (by omega)
    have hh := heldInt_ev 1 u.length (by omega) (by omega) (by omega)
    refine Ev.bind t (Ev.bind hS (Ev.bind t ?_))
    rw [hI]
    refine ev_some (Ev.bind e (ev_pos rfl ?_))
    refine Ev.bind t (Ev.bind (eqRungS_ev _ hmn hmx) (ev_pos rfl ?_))
    refine Ev.bind hq (ev_neg (by omega) (Ev.bind e (ev_succ ?_)))
    simp only [laws_FnExactLadderCoils.j0]
    refine ev_neg (by simp) (Ev.bind (markInt_ev _ 1 (by omega) (by omega) (by omega)) ?_)
    dsimp only
    refine Ev.bind hh (ev_neg (by omega) (ev_pos rfl ?_))
    refine Ev.bind t ?_
    rw [hI]
    refine ev_some (Ev.bind e (ev_pos rfl ?_))
    refine Ev.bind hh (ev_neg (by omega) (ev_pos rfl (ev_of rfl)))

end Go.Proofs.Ytmphligplngeaaa.fnExactLadderCoils

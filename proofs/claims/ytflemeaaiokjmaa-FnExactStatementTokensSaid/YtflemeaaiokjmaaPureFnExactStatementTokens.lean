/- The law FnExactStatementTokens answers true for every text; no condition. -/
import Derived.Test.YtflemeaaiokjmaaStFnExactStatementTokens
namespace Go.Proofs.Ytflemeaaiokjmaa.fnExactStatementTokens
open Go.RowKit Go.Proofs.Ytflemeaaiokjmaa.GFnExactStatementTokens Go.Proofs.YtflemeaaiokjmaaV.PrintWords Go.Proofs.YtflemeaaiokjmaaV.PrintLast Go.Proofs.YtflemeaaiokjmaaV.PrintMore
set_option linter.unusedVariables false
set_option linter.unusedSimpArgs false

theorem ev_succ {α : Type} {g : Nat → Option α} {r : α} (h : Ev (fun k => g (k + 1)) r) : Ev g r := Ev.step (fun _ => rfl) h
theorem ev_pos {α : Type} {c : Prop} [Decidable c] {g f : Nat → Option α} {r : α} (hc : c) (h : Ev g r) : Ev (fun k => if c then g k else f k) r := Ev.congr (fun _ => if_pos hc) h
theorem ev_neg {α : Type} {c : Prop} [Decidable c] {g f : Nat → Option α} {r : α} (hc : ¬ c) (h : Ev f r) : Ev (fun k => if c then g k else f k) r := Ev.congr (fun _ => if_neg hc) h
theorem ev_some {α β : Type} {a : α} {f : Nat → α → Option β} {r : β} (h : Ev (fun k => f k a) r) : Ev (fun k => (some a).bind (f k)) r := h
theorem ev_of {α : Type} {a : Option α} {r : α} (h : a = some r) : Ev (fun _ => a) r := ⟨0, fun _ _ => h⟩
theorem ev_eq {α : Type} {g : Nat → Option α} {r r' : α} (h : Ev g r) (e : r = r') : Ev g r' := e ▸ h
theorem wrap_small {i : Int} (h0 : -9223372036854775808 ≤ i) (h1 : i ≤ 9223372036854775807) : wrap64 i = i := by unfold wrap64; omega
theorem wf_bounds {x : Int} (h : (Lit.int .i64 x).wf = true) : -9223372036854775808 ≤ x ∧ x ≤ 9223372036854775807 := by
  simp [Lit.wf, IntKind.min, IntKind.max, IntKind.signed, IntKind.bits] at h
  omega
theorem set_keeps {α : Type} (l out : List α) (d : α) (i : Nat) (hi : i < l.length) (ho : out.length = l.length) (h : ∀ j, j < i → out[j]? = l[j]?) : ∀ j, j < i + 1 → (out.set i (l.getD i d))[j]? = l[j]? := by
  intro j hj
  rw [List.getElem?_set]
  by_cases e : i = j
  · subst e
    rw [if_pos rfl, if_pos (by omega), List.getD_eq_getElem?_getD, List.getElem?_eq_getElem hi]
    rfl
  · rw [if_neg e]
    exact h j (by omega)
theorem all_kept {α : Type} (l out : List α) (ho : out.length = l.length) (h : ∀ j, j < l.length → out[j]? = l[j]?) : out = l := by
  apply List.ext_getElem?
  intro j
  by_cases hj : j < l.length
  · exact h j hj
  · rw [List.getElem?_eq_none (by omega), List.getElem?_eq_none (by omega)]

theorem suf_size (a : ByteArray) (i : Nat) : (a.extract i a.size).size = a.size - i := by rw [ByteArray.size_extract]; omega
theorem suf_bt (a : ByteArray) (i j : Nat) (h : i + j < a.size) : bt (a.extract i a.size) (j : Int) = bt a ((i + j : Nat) : Int) := by
  have h1 : j < (a.extract i a.size).size := by rw [suf_size]; omega
  unfold bt
  simp only [Int.toNat_natCast]
  rw [dif_pos h1, dif_pos h, ByteArray.getElem_extract]
theorem suf_suf (a : ByteArray) (i t : Nat) : (a.extract i a.size).extract t (a.extract i a.size).size = a.extract (i + t) a.size := by
  rw [suf_size, ByteArray.extract_extract]
  by_cases h : i ≤ a.size
  · rw [show min (i + (a.size - i)) a.size = a.size by omega]
  · apply ByteArray.ext
    apply Array.ext
    · simp; omega
    · intro j hj; exfalso; simp at hj; omega
theorem suf_pre (a : ByteArray) (i t : Nat) (h : i + t ≤ a.size) : (a.extract i a.size).extract 0 t = a.extract i (i + t) := by
  rw [ByteArray.extract_extract, Nat.add_zero, show min (i + t) a.size = i + t by omega]
theorem nil_iff (a : ByteArray) : a.toList = ([] : List UInt8) ↔ a.size = 0 := by
  rw [Go.ByteArray.toList_eq]
  constructor
  · intro h
    have := congrArg List.length h
    simpa using this
  · intro h
    apply List.eq_nil_of_length_eq_zero
    simpa using h
theorem two_eq (a : ByteArray) (h : 2 ≤ a.size) (x y : UInt8) : ((a.extract 0 2).toList == ([x, y] : List UInt8)) = (decide (bt a 0 = (x.toNat : Int)) && decide (bt a 1 = (y.toNat : Int))) := by
  have e : (a.extract 0 2).toList = [a[0], a[1]] := by
    rw [Go.ByteArray.toList_eq]
    apply List.ext_getElem
    · simp; omega
    · intro j h1 h2
      have hj : j = 0 ∨ j = 1 := by simp at h2; omega
      rcases hj with rfl | rfl <;> simp <;> rfl
  have b0 : bt a 0 = (a[0].toNat : Int) := by unfold bt; rw [dif_pos (show (0 : Int).toNat < a.size by simp; omega)]; rfl
  have b1 : bt a 1 = (a[1].toNat : Int) := by unfold bt; rw [dif_pos (show (1 : Int).toNat < a.size by simp; omega)]; rfl
  rw [e, b0, b1]
  have k : ∀ u v : UInt8, decide ((u.toNat : Int) = (v.toNat : Int)) = (u == v) := by
    intro u v
    by_cases h : u = v
    · subst h; simp
    · have : ¬ (u.toNat : Int) = (v.toNat : Int) := by
        intro h2
        exact h (UInt8.toNat.inj (by omega))
      simp [h, this]
  rw [k, k]
  simp
def dg (x : Int) : Bool := decide (48 ≤ x) && decide (x ≤ 57)
theorem dgS (x : Int) : spec_l10Digit.f x = some (dg x) := by
  unfold spec_l10Digit.f dg
  by_cases h : x ≥ 48
  · rw [if_pos h]; simp [show 48 ≤ x from h]
  · rw [if_neg h]; simp [show ¬ 48 ≤ x from h]
theorem dgI (x : Int) : impl_isDigit.f x = some (dg x) := by
  unfold impl_isDigit.f dg
  by_cases h : x ≥ 48
  · rw [if_pos h]; simp [show 48 ≤ x from h]
  · rw [if_neg h]; simp [show ¬ 48 ≤ x from h]
/-- Where the digits from place j on end; m: how many bytes there are. -/
def run (a : ByteArray) : Nat → Nat → Nat
  | 0, j => j
  | m + 1, j => if dg (bt a (j : Int)) then run a m (j + 1) else j
theorem run_le (a : ByteArray) : ∀ m j, j ≤ run a m j ∧ run a m j ≤ j + m
  | 0, j => by simp [run]
  | m + 1, j => by
    unfold run
    have := run_le a m (j + 1)
    split <;> omega
def len5 (n : Nat) : Nat := if n > 5 then 0 else n
/-- The length of the token at place i; 0: none. -/
def tk (a : ByteArray) (i : Nat) : Nat :=
  if bt a (i : Int) = 119 ∧ i + 1 < a.size ∧ 48 ≤ bt a ((i + 1 : Nat) : Int) ∧ bt a ((i + 1 : Nat) : Int) ≤ 55 then 2
  else if bt a (i : Int) = 58 ∧ i + 1 < a.size ∧ bt a ((i + 1 : Nat) : Int) = 61 then 2
  else if dg (bt a (i : Int)) then len5 (run a (a.size - (i + 1)) (i + 1) - i)
  else if bt a (i : Int) = 43 ∨ bt a (i : Int) = 45 ∨ bt a (i : Int) = 42 ∨ bt a (i : Int) = 40 ∨ bt a (i : Int) = 41 then 1 else 0
theorem tk_le (a : ByteArray) (i : Nat) (h : i < a.size) : i + tk a i ≤ a.size := by
  unfold tk
  have := run_le a (a.size - (i + 1)) (i + 1)
  split
  · omega
  · split
    · omega
    · split
      · unfold len5; split <;> omega
      · split <;> omega
def T (a : ByteArray) : Nat → Nat → List ByteArray → List ByteArray × Bool
  | 0, _, out => (out, true)
  | m + 1, i, out => if i < a.size then (if bt a (i : Int) = 32 then T a m (i + 1) out else if tk a i = 0 then ([], false) else T a m (i + tk a i) (out ++ [a.extract i (i + tk a i)])) else (out, true)
theorem tokL (a : ByteArray) (ha : a.size ≤ 80) (i : Nat) : ∀ (m j : Nat), i + j + m = a.size → Ev (fun k => impl_token.l0 k (a.extract i a.size) (j : Int)) ((len5 (run a m (i + j) - i) : Nat) : Int) := by
  intro m
  induction m with
  | zero =>
    intro j h
    refine ev_succ ?_
    simp only [impl_token.l0, suf_size]
    refine ev_neg (by omega) ?_
    unfold run len5
    by_cases h5 : (j : Int) > 5
    · refine ev_pos h5 (ev_of ?_)
      rw [if_pos (by omega)]; rfl
    · refine ev_neg h5 (ev_of ?_)
      rw [if_neg (by omega), show i + j - i = j by omega]
  | succ m ih =>
    intro j h
    refine ev_succ ?_
    simp only [impl_token.l0, suf_size]
    refine ev_pos (by omega) (ev_pos (by omega) ?_)
    rw [suf_bt a i j (by omega), dgI]
    refine ev_some ?_
    unfold run
    by_cases hd : dg (bt a ((i + j : Nat) : Int)) = true
    · refine ev_pos hd ?_
      rw [if_pos hd, wrap_small (by omega) (by omega)]
      exact ih (j + 1) (by omega)
    · refine ev_neg hd ?_
      rw [if_neg hd]
      unfold len5
      by_cases h5 : (j : Int) > 5
      · refine ev_pos h5 (ev_of ?_)
        rw [if_pos (by omega)]; rfl
      · refine ev_neg h5 (ev_of ?_)
        rw [if_neg (by omega), show i + j - i = j by omega]
theorem tokI (a : ByteArray) (ha : a.size ≤ 80) (i : Nat) (hi : i < a.size) : Ev (fun k => impl_token.f k (a.extract i a.size)) ((tk a i : Nat) : Int) := by
  have b0 : bt (a.extract i a.size) 0 = bt a (i : Int) := suf_bt a i 0 (by omega)
  have b1 : i + 1 < a.size → bt (a.extract i a.size) 1 = bt a ((i + 1 : Nat) : Int) := fun h => suf_bt a i 1 h
  have j1f : (bt a (i : Int) = 119 ∧ i + 1 < a.size ∧ 48 ≤ bt a ((i + 1 : Nat) : Int) ∧ bt a ((i + 1 : Nat) : Int) ≤ 55) ∨ ¬ (bt a (i : Int) = 119 ∧ i + 1 < a.size ∧ 48 ≤ bt a ((i + 1 : Nat) : Int) ∧ bt a ((i + 1 : Nat) : Int) ≤ 55) := Classical.em _
  have hj1 : ∀ b : Bool, b = (decide (bt a (i : Int) = 119 ∧ i + 1 < a.size ∧ 48 ≤ bt a ((i + 1 : Nat) : Int) ∧ bt a ((i + 1 : Nat) : Int) ≤ 55) || decide (bt a (i : Int) = 58 ∧ i + 1 < a.size ∧ bt a ((i + 1 : Nat) : Int) = 61)) → Ev (fun k => impl_token.j1 k (a.extract i a.size) b) ((tk a i : Nat) : Int) := by
    intro b hb
    refine ev_succ ?_
    simp only [impl_token.j1, suf_size]
    unfold tk
    by_cases h1 : bt a (i : Int) = 119 ∧ i + 1 < a.size ∧ 48 ≤ bt a ((i + 1 : Nat) : Int) ∧ bt a ((i + 1 : Nat) : Int) ≤ 55
    · refine ev_pos (by rw [hb, decide_eq_true h1, Bool.true_or]) (ev_of ?_)
      rw [if_pos h1]; rfl
    · rw [if_neg h1]
      by_cases h2 : bt a (i : Int) = 58 ∧ i + 1 < a.size ∧ bt a ((i + 1 : Nat) : Int) = 61
      · refine ev_pos (by rw [hb, decide_eq_true h2, Bool.or_true]) (ev_of ?_)
        rw [if_pos h2]; rfl
      · rw [if_neg h2]
        refine ev_neg (by rw [hb, decide_eq_false h1, decide_eq_false h2]; simp) (ev_pos (by omega) ?_)
        rw [b0, dgI]
        refine ev_some ?_
        by_cases hd : dg (bt a (i : Int)) = true
        · refine ev_pos hd ?_
          rw [if_pos hd]
          exact tokL a ha i (a.size - (i + 1)) 1 (by omega)
        · refine ev_neg hd ?_
          rw [if_neg hd]
          by_cases g1 : bt a (i : Int) = 43
          · exact ev_pos g1 (ev_of (by rw [if_pos (.inl g1)]; rfl))
          · refine ev_neg g1 ?_
            by_cases g2 : bt a (i : Int) = 45
            · exact ev_pos g2 (ev_of (by rw [if_pos (.inr (.inl g2))]; rfl))
            · refine ev_neg g2 ?_
              by_cases g3 : bt a (i : Int) = 42
              · exact ev_pos g3 (ev_of (by rw [if_pos (.inr (.inr (.inl g3)))]; rfl))
              · refine ev_neg g3 ?_
                by_cases g4 : bt a (i : Int) = 40
                · exact ev_pos g4 (ev_of (by rw [if_pos (.inr (.inr (.inr (.inl g4))))]; rfl))
                · refine ev_neg g4 ?_
                  by_cases g5 : bt a (i : Int) = 41
                  · exact ev_pos g5 (ev_of (by rw [if_pos (.inr (.inr (.inr (.inr g5))))]; rfl))
                  · exact ev_neg g5 (ev_of (by rw [if_neg (by simp [g1, g2, g3, g4, g5])]; rfl))
  have hj0 : ∀ b : Bool, b = decide (bt a (i : Int) = 119 ∧ i + 1 < a.size ∧ 48 ≤ bt a ((i + 1 : Nat) : Int) ∧ bt a ((i + 1 : Nat) : Int) ≤ 55) → Ev (fun k => impl_token.j0 k (a.extract i a.size) b) ((tk a i : Nat) : Int) := by
    intro b hb
    refine ev_succ ?_
    simp only [impl_token.j0]
    by_cases h1 : bt a (i : Int) = 119 ∧ i + 1 < a.size ∧ 48 ≤ bt a ((i + 1 : Nat) : Int) ∧ bt a ((i + 1 : Nat) : Int) ≤ 55
    · exact ev_pos (by rw [hb, decide_eq_true h1]) (hj1 b (by rw [hb, decide_eq_true h1, Bool.true_or]))
    · refine ev_neg (by rw [hb, decide_eq_false h1]; simp) ?_
      by_cases h2 : i + 1 < a.size
      · refine ev_pos (by rw [suf_size]; omega) (ev_pos (by omega) (ev_pos (by rw [suf_size]; omega) (hj1 _ ?_)))
        rw [two_eq _ (by rw [suf_size]; omega), b0, b1 h2, decide_eq_false h1, Bool.false_or]
        have : ((58 : UInt8).toNat : Int) = 58 ∧ ((61 : UInt8).toNat : Int) = 61 := ⟨rfl, rfl⟩
        rw [this.1, this.2]
        simp [h2]
      · refine ev_neg (by rw [suf_size]; omega) (hj1 _ ?_)
        rw [decide_eq_false h1, Bool.false_or, decide_eq_false (fun h => h2 h.2.1)]
  simp only [impl_token.f]
  by_cases h2 : i + 1 < a.size
  · refine ev_pos (by rw [suf_size]; omega) (ev_pos (by rw [suf_size]; omega) ?_)
    rw [b0]
    by_cases g1 : bt a (i : Int) = 119
    · refine ev_pos g1 (ev_pos (by rw [suf_size]; omega) ?_)
      rw [b1 h2]
      by_cases g2 : bt a ((i + 1 : Nat) : Int) ≥ 48
      · exact ev_pos g2 (hj0 _ (decide_eq_decide.mpr ⟨fun h => ⟨g1, h2, g2, h⟩, fun h => h.2.2.2⟩))
      · exact ev_neg g2 (hj0 _ (by symm; simp only [decide_eq_false_iff_not]; intro h; exact g2 h.2.2.1))
    · exact ev_neg g1 (hj0 _ (by simp [g1]))
  · refine ev_neg (by rw [suf_size]; omega) (hj0 _ (by symm; simp only [decide_eq_false_iff_not]; intro h; exact h2 h.2.1))
theorem clI (l : List ByteArray) (h : l.length ≤ 80) : impl_clone_string.f l = some l := by
  unfold impl_clone_string.f slices_Clone_string_string.f slices_Clip_string_string.f
  rw [if_pos (by omega)]
  rfl
theorem stI (a : ByteArray) (ha : a.size ≤ 80) : ∀ (m i : Nat) (out : List ByteArray), a.size ≤ i + m → i ≤ a.size → out.length ≤ i → Ev (fun k => impl_StatementTokens.l0 k (a.extract i a.size) out) (T a m i out) := by
  intro m
  have done_ : ∀ (m i : Nat) (out : List ByteArray), i = a.size → out.length ≤ i → Ev (fun k => impl_StatementTokens.l0 k (a.extract i a.size) out) (out, true) := by
    intro m i out hi ho
    refine ev_succ ?_
    simp only [impl_StatementTokens.l0]
    refine ev_pos ((nil_iff _).mpr (by rw [suf_size]; omega)) ?_
    rw [clI out (by omega)]
    exact ev_of rfl
  induction m with
  | zero =>
    intro i out h hi ho
    exact done_ 0 i out (by omega) ho
  | succ m ih =>
    intro i out h hi ho
    unfold T
    by_cases hlt : i < a.size
    · rw [if_pos hlt]
      refine ev_succ ?_
      simp only [impl_StatementTokens.l0]
      refine ev_neg (fun hn => by have := (nil_iff _).mp hn; rw [suf_size] at this; omega) (ev_pos (by rw [suf_size]; omega) ?_)
      have b0 : bt (a.extract i a.size) 0 = bt a (i : Int) := suf_bt a i 0 (by omega)
      rw [b0]
      by_cases hs : bt a (i : Int) = 32
      · rw [if_pos hs]
        refine ev_pos hs (ev_pos (by rw [suf_size]; omega) ?_)
        rw [suf_suf]
        exact ih (i + 1) out (by omega) (by omega) (by omega)
      · rw [if_neg hs]
        refine ev_neg hs (Ev.bind (tokI a ha i hlt) ?_)
        have htk := tk_le a i hlt
        by_cases h0 : tk a i = 0
        · rw [if_pos h0]
          exact ev_pos (by omega) (ev_of rfl)
        · rw [if_neg h0]
          refine ev_neg (by omega) (ev_pos (by omega) (ev_pos (by rw [suf_size]; omega) (ev_pos (by omega) ?_)))
          rw [Int.toNat_natCast, suf_suf, suf_pre a i _ (by omega)]
          exact ih (i + tk a i) _ (by omega) (by omega) (by simp; omega)
    · rw [if_neg hlt]
      exact done_ 0 i out (by omega) ho
theorem spL (a : ByteArray) (ha : a.size ≤ 80) (i : Nat) (out : List ByteArray) (hi : i < a.size) (ho : out.length ≤ i) (r : List ByteArray × Bool)
    (hz : ∀ n : Nat, len5 n = 0 → 1 ≤ n → len5 (run a (a.size - (i + 1)) (i + 1) - i) = len5 n → r = ([], false))
    (hn : ∀ n : Nat, len5 (run a (a.size - (i + 1)) (i + 1) - i) = n → 1 ≤ n → i + n ≤ a.size → Ev (fun k => spec_StatementTokens.l0 k a (out ++ [a.extract i (i + n)]) ((i + n : Nat) : Int)) r) : ∀ (m j : Nat), i + j + m = a.size → 1 ≤ j → run a m (i + j) = run a (a.size - (i + 1)) (i + 1) → Ev (fun k => spec_StatementTokens.l1 k a out (i : Int) (j : Int)) r := by
  have fin : ∀ j : Nat, 1 ≤ j → i + j ≤ a.size → i + j = run a (a.size - (i + 1)) (i + 1) → Ev (fun k => if (j : Int) > 5 then (some ((([] : List ByteArray)), false)) else (if 0 ≤ (i : Int) then (if (i : Int) ≤ (wrap64 ((i : Int) + (j : Int))) then (if (wrap64 ((i : Int) + (j : Int))) ≤ (a.size : Int) then (if out.length < 8796093022208 then (spec_StatementTokens.l0 k a (out ++ [a.extract ((i : Int)).toNat ((wrap64 ((i : Int) + (j : Int))) : Int).toNat]) (wrap64 ((i : Int) + (j : Int)))) else (none)) else (none)) else (none)) else (none))) r := by
    intro j h1 h2 h3
    have w1 : wrap64 ((i : Int) + (j : Int)) = ((i + j : Nat) : Int) := wrap_small (by omega) (by omega)
    rw [w1]
    have e : run a (a.size - (i + 1)) (i + 1) - i = j := by omega
    by_cases h5 : (j : Int) > 5
    · refine ev_pos h5 (ev_of ?_)
      rw [hz j (by unfold len5; rw [if_pos (by omega)]) h1 (by rw [e])]
    · refine ev_neg h5 (ev_pos (by omega) (ev_pos (by omega) (ev_pos (by omega) (ev_pos (by omega) ?_))))
      rw [Int.toNat_natCast, Int.toNat_natCast]
      exact hn j (by rw [e]; unfold len5; rw [if_neg (by omega)]) h1 h2
  intro m
  induction m with
  | zero =>
    intro j h hj hr
    refine ev_succ ?_
    simp only [spec_StatementTokens.l1]
    have w1 : wrap64 ((i : Int) + (j : Int)) = ((i + j : Nat) : Int) := wrap_small (by omega) (by omega)
    have f := fin j hj (by omega) hr
    rw [w1] at f ⊢
    exact ev_neg (by omega) f
  | succ m ih =>
    intro j h hj hr
    refine ev_succ ?_
    simp only [spec_StatementTokens.l1]
    have w1 : wrap64 ((i : Int) + (j : Int)) = ((i + j : Nat) : Int) := wrap_small (by omega) (by omega)
    have f := fin j hj (by omega)
    rw [w1] at f ⊢
    refine ev_pos (by omega) (ev_pos (by omega) ?_)
    rw [dgS]
    refine ev_some ?_
    rw [run] at hr
    by_cases hd : dg (bt a ((i + j : Nat) : Int)) = true
    · rw [if_pos hd] at hr
      refine ev_pos hd ?_
      rw [wrap_small (by omega) (by omega)]
      exact ih (j + 1) (by omega) (by omega) hr
    · rw [if_neg hd] at hr
      exact ev_neg hd (f hr)
theorem stS (a : ByteArray) (ha : a.size ≤ 80) : ∀ (m i : Nat) (out : List ByteArray), a.size ≤ i + m → i ≤ a.size → out.length ≤ i → Ev (fun k => spec_StatementTokens.l0 k a out (i : Int)) (T a m i out) := by
  intro m
  induction m with
  | zero =>
    intro i out h hi ho
    refine ev_succ ?_
    simp only [spec_StatementTokens.l0]
    exact ev_neg (by omega) (ev_of rfl)
  | succ m ih =>
    intro i out h hi ho
    unfold T
    by_cases hlt : i < a.size
    · rw [if_pos hlt]
      refine ev_succ ?_
      simp only [spec_StatementTokens.l0]
      refine ev_pos (by omega) (ev_pos (by omega) ?_)
      have w1 : wrap64 ((i : Int) + 1) = ((i + 1 : Nat) : Int) := wrap_small (by omega) (by omega)
      have w2 : wrap64 ((i : Int) + 2) = ((i + 2 : Nat) : Int) := wrap_small (by omega) (by omega)
      rw [w1]
      by_cases hs : bt a (i : Int) = 32
      · rw [if_pos hs]
        refine ev_pos hs ?_
        exact ih (i + 1) out (by omega) (by omega) (by omega)
      · rw [if_neg hs]
        refine ev_neg hs ?_
        have htk := tk_le a i hlt
        have nx : ∀ n : Nat, tk a i = n → 1 ≤ n → Ev (fun k => spec_StatementTokens.l0 k a (out ++ [a.extract i (i + n)]) ((i + n : Nat) : Int)) (if tk a i = 0 then ([], false) else T a m (i + tk a i) (out ++ [a.extract i (i + tk a i)])) := by
          intro n hn h1
          rw [if_neg (by omega), hn]
          exact ih (i + n) _ (by omega) (by omega) (by simp; omega)
        generalize hR : (if tk a i = 0 then (([] : List ByteArray), false) else T a m (i + tk a i) (out ++ [a.extract i (i + tk a i)])) = R at nx ⊢
        have zz : tk a i = 0 → R = ([], false) := fun h => by rw [← hR, if_pos h]
        have w2s : bt a (i : Int) = 119 ∧ i + 1 < a.size ∧ 48 ≤ bt a ((i + 1 : Nat) : Int) ∧ bt a ((i + 1 : Nat) : Int) ≤ 55 ∨ bt a (i : Int) = 58 ∧ i + 1 < a.size ∧ bt a ((i + 1 : Nat) : Int) = 61 → tk a i = 2 ∧ i + 2 ≤ a.size := by
          intro h
          unfold tk
          rcases h with h | h
          · rw [if_pos h]; exact ⟨rfl, by omega⟩
          · rw [if_neg (by omega), if_pos h]; exact ⟨rfl, by omega⟩
        have hj2 : ∀ b : Bool, b = (decide (bt a (i : Int) = 119 ∧ i + 1 < a.size ∧ 48 ≤ bt a ((i + 1 : Nat) : Int) ∧ bt a ((i + 1 : Nat) : Int) ≤ 55) || decide (bt a (i : Int) = 58 ∧ i + 1 < a.size ∧ bt a ((i + 1 : Nat) : Int) = 61)) → Ev (fun k => spec_StatementTokens.j2 k a out (i : Int) 1 (bt a (i : Int)) b) R := by
          intro b hb
          refine ev_succ ?_
          simp only [spec_StatementTokens.j2]
          rw [w1, w2]
          by_cases hc : bt a (i : Int) = 119 ∧ i + 1 < a.size ∧ 48 ≤ bt a ((i + 1 : Nat) : Int) ∧ bt a ((i + 1 : Nat) : Int) ≤ 55 ∨ bt a (i : Int) = 58 ∧ i + 1 < a.size ∧ bt a ((i + 1 : Nat) : Int) = 61
          · obtain ⟨e2, l2⟩ := w2s hc
            refine ev_pos (by rw [hb]; rcases hc with hc | hc <;> rw [decide_eq_true hc] <;> simp) (ev_pos (by omega) (ev_pos (by omega) (ev_pos (by omega) (ev_pos (by omega) ?_))))
            rw [Int.toNat_natCast, Int.toNat_natCast]
            exact nx 2 e2 (by omega)
          · have n1 := fun h => hc (.inl h)
            have n2 := fun h => hc (.inr h)
            refine ev_neg (by rw [hb, decide_eq_false n1, decide_eq_false n2]; simp) ?_
            rw [dgS]
            refine ev_some ?_
            by_cases hd : dg (bt a (i : Int)) = true
            · refine ev_pos hd ?_
              have et : tk a i = len5 (run a (a.size - (i + 1)) (i + 1) - i) := by unfold tk; rw [if_neg n1, if_neg n2, if_pos hd]
              refine spL a ha i out hlt ho R (fun n hz h1 he => zz (by rw [et, he, hz])) (fun n hn h1 h2 => nx n (by rw [et, hn]) h1) (a.size - (i + 1)) 1 (by omega) (by omega) rfl
            · refine ev_neg hd ?_
              have et : tk a i = if bt a (i : Int) = 43 ∨ bt a (i : Int) = 45 ∨ bt a (i : Int) = 42 ∨ bt a (i : Int) = 40 ∨ bt a (i : Int) = 41 then 1 else 0 := by unfold tk; rw [if_neg n1, if_neg n2, if_neg hd]
              have one : (bt a (i : Int) = 43 ∨ bt a (i : Int) = 45 ∨ bt a (i : Int) = 42 ∨ bt a (i : Int) = 40 ∨ bt a (i : Int) = 41) → Ev (fun k => if 0 ≤ (i : Int) then (if (i : Int) ≤ ((i + 1 : Nat) : Int) then (if ((i + 1 : Nat) : Int) ≤ (a.size : Int) then (if out.length < 8796093022208 then (spec_StatementTokens.l0 k a (out ++ [a.extract ((i : Int)).toNat (((i + 1 : Nat) : Int)).toNat]) ((i + 1 : Nat) : Int)) else (none)) else (none)) else (none)) else (none)) R := by
                intro h
                refine ev_pos (by omega) (ev_pos (by omega) (ev_pos (by omega) (ev_pos (by omega) ?_)))
                rw [Int.toNat_natCast, Int.toNat_natCast]
                exact nx 1 (by rw [et, if_pos h]) (by omega)
              by_cases g1 : bt a (i : Int) = 43
              · exact ev_pos g1 (one (.inl g1))
              · refine ev_neg g1 ?_
                by_cases g2 : bt a (i : Int) = 45
                · exact ev_pos g2 (one (.inr (.inl g2)))
                · refine ev_neg g2 ?_
                  by_cases g3 : bt a (i : Int) = 42
                  · exact ev_pos g3 (one (.inr (.inr (.inl g3))))
                  · refine ev_neg g3 ?_
                    by_cases g4 : bt a (i : Int) = 40
                    · exact ev_pos g4 (one (.inr (.inr (.inr (.inl g4)))))
                    · refine ev_neg g4 ?_
                      by_cases g5 : bt a (i : Int) = 41
                      · exact ev_pos g5 (one (.inr (.inr (.inr (.inr g5)))))
                      · refine ev_neg g5 (ev_of ?_)
                        rw [zz (by rw [et, if_neg (by simp [g1, g2, g3, g4, g5])])]
        have hj1 : ∀ b : Bool, b = decide (bt a (i : Int) = 58 ∧ i + 1 < a.size ∧ bt a ((i + 1 : Nat) : Int) = 61) → Ev (fun k => spec_StatementTokens.j1 k a out (i : Int) 1 (bt a (i : Int)) b) R := by
          intro b hb
          refine ev_succ ?_
          simp only [spec_StatementTokens.j1]
          rw [w1]
          by_cases hc : bt a (i : Int) = 58 ∧ i + 1 < a.size ∧ bt a ((i + 1 : Nat) : Int) = 61
          · exact ev_pos (by rw [hb, decide_eq_true hc]) (hj2 b (by rw [hb, decide_eq_true hc, Bool.or_true]))
          · refine ev_neg (by rw [hb, decide_eq_false hc]; simp) ?_
            by_cases g1 : bt a (i : Int) = 119
            · refine ev_pos g1 ?_
              by_cases g2 : i + 1 < a.size
              · refine ev_pos (by omega) (ev_pos (by omega) ?_)
                by_cases g3 : bt a ((i + 1 : Nat) : Int) ≥ 48
                · exact ev_pos g3 (hj2 _ (by rw [decide_eq_false hc, Bool.or_false]; exact decide_eq_decide.mpr ⟨fun h => ⟨g1, g2, g3, h⟩, fun h => h.2.2.2⟩))
                · exact ev_neg g3 (hj2 _ (by rw [decide_eq_false hc, Bool.or_false, decide_eq_false (fun h => g3 h.2.2.1)]))
              · exact ev_neg (by omega) (hj2 _ (by rw [decide_eq_false hc, Bool.or_false, decide_eq_false (fun h => g2 h.2.1)]))
            · exact ev_neg g1 (hj2 _ (by rw [decide_eq_false hc, Bool.or_false, decide_eq_false (fun h => g1 h.1)]))
        by_cases g1 : bt a (i : Int) = 58
        · refine ev_pos g1 ?_
          by_cases g2 : i + 1 < a.size
          · refine ev_pos (by omega) (ev_pos (by omega) (hj1 _ ?_))
            by_cases h : bt a ((i + 1 : Nat) : Int) = 61
            · rw [decide_eq_true ⟨g1, g2, h⟩]
              exact beq_iff_eq.mpr h
            · rw [decide_eq_false (fun hh => h hh.2.2)]
              exact beq_eq_false_iff_ne.mpr h
          · exact ev_neg (by omega) (hj1 _ (by rw [decide_eq_false (fun h => g2 h.2.1)]))
        · exact ev_neg g1 (hj1 _ (by rw [decide_eq_false (fun h => g1 h.1)]))
    · rw [if_neg hlt]
      refine ev_succ ?_
      simp only [spec_StatementTokens.l0]
      exact ev_neg (by omega) (ev_of rfl)
theorem T_len (a : ByteArray) : ∀ (m i : Nat) (out : List ByteArray), i ≤ a.size → out.length ≤ i → (T a m i out).1.length ≤ a.size
  | 0, i, out, h, ho => by simp [T]; omega
  | m + 1, i, out, h, ho => by
    unfold T
    split
    · rename_i hlt
      split
      · exact T_len a m (i + 1) out (by omega) (by omega)
      · split
        · simp
        · rename_i h0
          have := tk_le a i hlt
          exact T_len a m _ _ this (by simp; omega)
    · simp; omega
def TT (a : ByteArray) : List ByteArray × Bool := if (a.size : Int) > 80 then ([], false) else T a a.size 0 []
theorem TT_len (a : ByteArray) : (TT a).1.length ≤ 80 := by
  unfold TT
  split
  · simp
  · have := T_len a a.size 0 [] (by omega) (by simp); omega
theorem allS (a : ByteArray) : Ev (fun k => spec_StatementTokens.f k a) (TT a) := by
  simp only [spec_StatementTokens.f]
  refine ev_some ?_
  unfold TT
  by_cases h : (a.size : Int) > 80
  · rw [if_pos h]; exact ev_pos h (ev_of rfl)
  · rw [if_neg h]
    exact ev_neg h (stS a (by omega) a.size 0 [] (by omega) (by omega) (by simp))
theorem allI (a : ByteArray) : Ev (fun k => impl_StatementTokens.f k a) (TT a) := by
  simp only [impl_StatementTokens.f]
  unfold TT
  by_cases h : (a.size : Int) > 80
  · rw [if_pos h]; exact ev_pos h (ev_of rfl)
  · rw [if_neg h]
    refine ev_neg h ?_
    have := stI a (by omega) a.size 0 [] (by omega) (by omega) (by simp)
    have e : a.extract 0 a.size = a := by
      apply ByteArray.ext
      simp
    rw [e] at this
    exact this
theorem eqStr_loop (l : List ByteArray) (hl : l.length ≤ 80) : ∀ (m i : Nat), i + m = l.length → Ev (fun k => laws_eqStringS.l0 k l l (i : Int)) true := by
  intro m
  induction m with
  | zero =>
    intro i hi
    refine ev_succ ?_
    simp only [laws_eqStringS.l0]
    exact ev_neg (by omega) (ev_of rfl)
  | succ m ih =>
    intro i hi
    refine ev_succ ?_
    simp only [laws_eqStringS.l0]
    refine ev_pos (by omega) (ev_pos (by omega) (ev_pos (by omega) ?_))
    refine ev_pos (by first | rfl | trivial) ?_
    rw [wrap_small (by omega) (by omega)]
    exact ih (i + 1) (by omega)
theorem eqStr (l : List ByteArray) (hl : l.length ≤ 80) : Ev (fun k => laws_eqStringS.f k l l) true := by
  simp only [laws_eqStringS.f]
  exact ev_pos (by first | rfl | trivial) (eqStr_loop l hl l.length 0 (by omega))
theorem markT_loop : ∀ (m : Nat) (x : Int) (s : ByteArray), x ≤ m → s.size + m ≤ 1000000 → ∃ r, Ev (fun k => laws_markText.l0 k x s) r
  | 0, x, s, hx, hs => by
    refine ⟨(⟨#[109]⟩ : ByteArray) ++ s, ev_succ ?_⟩
    · simp only [laws_markText.l0]
      exact ev_neg (by omega) (ev_pos (by omega) (ev_of rfl))
  | m + 1, x, s, hx, hs => by
    by_cases h : x > 0
    · have hd : Int.tdiv x 10 ≤ m ∧ 0 ≤ Int.tdiv x 10 := by rw [Int.tdiv_eq_ediv_of_nonneg (by omega)]; omega
      have hsz : ∀ y : Int, ((strOfNums [y]) ++ s).size = 1 + s.size := by intro y; rw [ByteArray.size_append, strOfNums_size]; rfl
      obtain ⟨r, hr⟩ := markT_loop m (Int.tdiv x 10) ((strOfNums [(wrap64 (48 + (Int.tmod x 10))) % 256]) ++ s) hd.1 (by rw [hsz]; omega)
      refine ⟨r, ev_succ ?_⟩
      simp only [laws_markText.l0]
      refine ev_pos h (ev_some (ev_pos (by rw [strOfNums_size]; simp; omega) ?_))
      rw [wrap_small (by omega) (by omega)]
      exact hr
    · refine ⟨(⟨#[109]⟩ : ByteArray) ++ s, ev_succ ?_⟩
      · simp only [laws_markText.l0]
        exact ev_neg h (ev_pos (by omega) (ev_of rfl))
theorem markT (c : Int) : ∃ r, c ≤ 100000 → Ev (fun k => laws_markText.f k c) r := by
  by_cases h : c ≤ 0
  · exact ⟨_, fun _ => by simp only [laws_markText.f]; exact ev_pos h (ev_of rfl)⟩
  · by_cases h2 : c ≤ 100000
    · obtain ⟨r, hr⟩ := markT_loop c.toNat c ⟨#[]⟩ (by omega) (by simp [ByteArray.size]; omega)
      exact ⟨r, fun _ => by simp only [laws_markText.f]; exact ev_neg h hr⟩
    · exact ⟨ByteArray.empty, fun h3 => absurd h3 h2⟩
noncomputable def mt (c : Int) : ByteArray := Classical.choose (markT c)
theorem mt_ev (c : Int) (h : c ≤ 100000) : Ev (fun k => laws_markText.f k c) (mt c) := Classical.choose_spec (markT c) h
noncomputable def mks (n : Nat) : List ByteArray := (List.range n).map fun j : Nat => mt (1 + (j : Int))
theorem mks_len (n : Nat) : (mks n).length = n := by simp [mks]
theorem mks_get (n i : Nat) (h : i < n) : (mks n)[i]? = some (mt (1 + (i : Int))) := by simp [mks, h]
theorem markS_loop (l : List ByteArray) (hl : l.length ≤ 80) : ∀ (m i : Nat) (out : List ByteArray), i + m = l.length → out.length = l.length → (∀ j, j < i → out[j]? = (mks l.length)[j]?) → Ev (fun k => laws_markStringS.l0 k out (1 + (i : Int)) (i : Int)) (1 + (l.length : Int), mks l.length) := by
  intro m
  induction m with
  | zero =>
    intro i out hi ho h
    refine ev_succ ?_
    simp only [laws_markStringS.l0]
    refine ev_neg (by omega) ?_
    have e : out = mks l.length := all_kept _ _ (by rw [mks_len, ho]) (fun j hj => h j (by rw [mks_len] at hj; omega))
    exact ev_of (by rw [e, show i = l.length by omega])
  | succ m ih =>
    intro i out hi ho h
    refine ev_succ ?_
    simp only [laws_markStringS.l0]
    refine ev_pos (by omega) (Ev.bind (mt_ev _ (by omega)) (ev_pos (by omega) ?_))
    rw [wrap_small (by omega) (by omega), wrap_small (by omega) (by omega), Int.toNat_natCast]
    have hg := mks_get l.length i (by omega)
    have hs := ih (i + 1) (out.set i ((mks l.length).getD i ByteArray.empty)) (by omega) (by simpa using ho) (set_keeps _ out ByteArray.empty i (by rw [mks_len]; omega) (by rw [mks_len, ho]) h)
    rw [List.getD_eq_getElem?_getD, hg] at hs
    simp only [Option.getD_some] at hs
    have e1 : 1 + (i : Int) + 1 = 1 + ((i + 1 : Nat) : Int) := by omega
    rw [e1]
    exact hs
theorem heldS_loop (n : Nat) (hn : n ≤ 80) : ∀ (m i : Nat), i + m = n → Ev (fun k => laws_heldStringS.l0 k (mks n) (1 + (i : Int)) (i : Int)) (1 + (n : Int)) := by
  intro m
  induction m with
  | zero =>
    intro i hi
    refine ev_succ ?_
    simp only [laws_heldStringS.l0]
    exact ev_neg (by rw [mks_len]; omega) (ev_of (by rw [show i = n by omega]))
  | succ m ih =>
    intro i hi
    refine ev_succ ?_
    simp only [laws_heldStringS.l0]
    refine ev_pos (by rw [mks_len]; omega) (ev_pos (by omega) (Ev.bind (mt_ev _ (by omega)) ?_))
    have hg := mks_get n i (by omega)
    refine ev_pos (by simp [rdOf, List.getD_eq_getElem?_getD, hg]) ?_
    rw [wrap_small (by omega) (by omega), wrap_small (by omega) (by omega)]
    have e1 : 1 + (i : Int) + 1 = 1 + ((i + 1 : Nat) : Int) := by omega
    rw [e1]
    exact ih (i + 1) (by omega)

theorem pure_holds : Pure := by
  intro a _
  refine Ev.rounds ?_
  simp only [laws_FnExactStatementTokens.f]
  by_cases hb : (a.size : Int) > 1048576
  · exact ev_pos hb (ev_of rfl)
  · refine ev_neg hb ?_
    have hl := TT_len a
    have hm : Ev (fun k => laws_markStringS.f k (TT a).1 1) (1 + ((TT a).1.length : Int), mks (TT a).1.length) := by
      simp only [laws_markStringS.f]
      exact markS_loop (TT a).1 hl (TT a).1.length 0 (TT a).1 (by omega) rfl (fun j hj => by omega)
    have hh : Ev (fun k => laws_heldStringS.f k (mks (TT a).1.length) 1) (1 + ((TT a).1.length : Int)) := by
      simp only [laws_heldStringS.f]
      exact heldS_loop _ hl (TT a).1.length 0 (by omega)
    refine Ev.bind (allS a) (Ev.bind (allI a) ?_)
    refine Ev.bind (eqStr _ hl) (ev_pos rfl ?_)
    refine ev_succ ?_
    simp only [laws_FnExactStatementTokens.j0]
    refine ev_neg (by simp) ?_
    refine Ev.bind hm ?_
    dsimp only
    refine Ev.bind hh (ev_neg (by omega) (ev_pos rfl ?_))
    refine Ev.bind (allI a) (Ev.bind (eqStr _ hl) (ev_pos rfl ?_))
    refine ev_succ ?_
    simp only [laws_FnExactStatementTokens.j1]
    refine ev_neg (by simp) ?_
    refine Ev.bind hh (ev_neg (by omega) (ev_pos rfl (ev_of rfl)))

end Go.Proofs.Ytflemeaaiokjmaa.fnExactStatementTokens

/- The law FnTimerPulse answers true for every two lists of bytes; no condition. -/
import Derived.Test.YtflemeaaiokjmaaStFnTimerPulse
namespace Go.Proofs.Ytflemeaaiokjmaa.fnTimerPulse
open Go.RowKit Go.Proofs.Ytflemeaaiokjmaa.GFnTimerPulse Go.Proofs.YtflemeaaiokjmaaV.PrintWords Go.Proofs.YtflemeaaiokjmaaV.PrintLast Go.Proofs.YtflemeaaiokjmaaV.PrintMore
set_option linter.unusedVariables false
set_option linter.unusedSimpArgs false

theorem ev_succ {α : Type} {g : Nat → Option α} {r : α} (h : Ev (fun k => g (k + 1)) r) : Ev g r := Ev.step (fun _ => rfl) h
theorem ev_pos {α : Type} {c : Prop} [Decidable c] {g f : Nat → Option α} {r : α} (hc : c) (h : Ev g r) : Ev (fun k => if c then g k else f k) r := Ev.congr (fun _ => if_pos hc) h
theorem ev_neg {α : Type} {c : Prop} [Decidable c] {g f : Nat → Option α} {r : α} (hc : ¬ c) (h : Ev f r) : Ev (fun k => if c then g k else f k) r := Ev.congr (fun _ => if_neg hc) h
theorem ev_some {α β : Type} {a : α} {f : Nat → α → Option β} {r : β} (h : Ev (fun k => f k a) r) : Ev (fun k => (some a).bind (f k)) r := h
theorem ev_of {α : Type} {a : Option α} {r : α} (h : a = some r) : Ev (fun _ => a) r := ⟨0, fun _ _ => h⟩
theorem ev_eq {α : Type} {g : Nat → Option α} {r r' : α} (h : Ev g r) (e : r = r') : Ev g r' := e ▸ h
theorem wrap_small {i : Int} (h0 : -9223372036854775808 ≤ i) (h1 : i ≤ 9223372036854775807) : wrap64 i = i := by unfold wrap64; omega
theorem wf_bounds {x : Int} (h : (Lit.int .i64 x).wf = true) : -9223372036854775808 ≤ x ∧ x ≤ 9223372036854775807 := by
  simp [Lit.wf, IntKind.min, IntKind.max, IntKind.signed, IntKind.bits] at h
  omega
theorem set_keeps {α : Type} (l out : List α) (d : α) (i : Nat) (hi : i < l.length) (ho : out.length = l.length) (h : ∀ j, j < i → out[j]? = l[j]?) : ∀ j, j < i + 1 → (out.set i (l.getD i d))[j]? = l[j]? := by
  intro j hj
  rw [List.getElem?_set]
  by_cases e : i = j
  · subst e
    rw [if_pos rfl, if_pos (by omega), List.getD_eq_getElem?_getD, List.getElem?_eq_getElem hi]
    rfl
  · rw [if_neg e]
    exact h j (by omega)
theorem all_kept {α : Type} (l out : List α) (ho : out.length = l.length) (h : ∀ j, j < l.length → out[j]? = l[j]?) : out = l := by
  apply List.ext_getElem?
  intro j
  by_cases hj : j < l.length
  · exact h j hj
  · rw [List.getElem?_eq_none (by omega), List.getElem?_eq_none (by omega)]

theorem inS (a b c : Int) : spec_l1In.f a b c = some (decide (b ≤ a) && decide (a ≤ c)) := by
  unfold spec_l1In.f
  by_cases h : a ≥ b
  · rw [if_pos h]; simp [show b ≤ a from h]
  · rw [if_neg h]; simp [show ¬ b ≤ a from h]
theorem inI (a b c : Int) : impl_in.f a b c = some (decide (b ≤ a) && decide (a ≤ c)) := by
  unfold impl_in.f
  by_cases h : a ≥ b
  · rw [if_pos h]; simp [show b ≤ a from h]
  · rw [if_neg h]; simp [show ¬ b ≤ a from h]

/-- Is a timer valid? -/
def tvalid (k p e : Int) : Bool := (decide (1 ≤ k) && decide (k ≤ 3)) && ((decide (0 ≤ p) && decide (p ≤ 10000)) && (decide (0 ≤ e) && decide (e ≤ p)))
theorem tvS (k p e : Int) (b o : Bool) : spec_TimerValid.f k p e b o = some (tvalid k p e) := by
  unfold spec_TimerValid.f tvalid
  rw [inS, Option.bind_some, inS, Option.bind_some, inS]
  cases (decide (1 ≤ k) && decide (k ≤ 3)) <;> cases (decide (0 ≤ p) && decide (p ≤ 10000)) <;> simp
theorem tvI (k p e : Int) (b o : Bool) : impl_TimerValid.f k p e b o = some (tvalid k p e) := by
  unfold impl_TimerValid.f tvalid
  rw [inI, Option.bind_some, inI, Option.bind_some, inI]
  cases (decide (1 ≤ k) && decide (k ≤ 3)) <;> cases (decide (0 ≤ p) && decide (p ≤ 10000)) <;> simp

/-- A step of a timer: the elapsed time and the output behind it. -/
abbrev P := impl_Timer_step.pair
theorem mn_comm (a b : Int) : mn a b = mn b a := by unfold mn; split <;> split <;> omega
theorem l5 (k p e dt : Int) (b o i : Bool) (hk : 1 ≤ k) (hk3 : k ≤ 3) : spec_l5Step.f k p e b o i dt = some (k, p, (P k p e b o i dt).1, i, (P k p e b o i dt).2) := by
  unfold spec_l5Step.f P impl_Timer_step.pair
  rw [mn_comm p]
  have hc : k = 1 ∨ k = 2 ∨ k = 3 := by omega
  rcases hc with rfl | rfl | rfl
  · cases i <;> cases b <;> simp
  · cases i <;> cases o <;> simp
  · by_cases h : e < p
    · cases i <;> cases o <;> cases b <;> simp [h, show ¬ p ≤ e by omega]
    · cases i <;> cases o <;> cases b <;> simp [h, show p ≤ e by omega]
theorem stepI (k p e dt : Int) (b o i : Bool) : impl_Timer_step.f k p e b o i dt = some (k, p, (P k p e b o i dt).1, i, (P k p e b o i dt).2) := rfl
theorem tv_kind {k p e : Int} (h : tvalid k p e = true) : 1 ≤ k ∧ k ≤ 3 := by
  simp [tvalid] at h
  omega

/-- The outputs of a timer. -/
def tr (k p dt : Int) : Int → Bool → Bool → List Bool → List Bool
  | _, _, _, [] => []
  | e, b, o, x :: r => (P k p e b o x dt).2 :: tr k p dt (P k p e b o x dt).1 x (P k p e b o x dt).2 r
theorem tr_length (k p dt : Int) : ∀ (l : List Bool) (e : Int) (b o : Bool), (tr k p dt e b o l).length = l.length
  | [], _, _, _ => rfl
  | x :: r, e, b, o => by simp [tr, tr_length k p dt r]
def trR (k p e : Int) (b o : Bool) (l : List Bool) (dt : Int) : List Bool := if tvalid k p e = true ∧ (decide (0 ≤ dt) && decide (dt ≤ 1000)) = true ∧ l.length ≤ 200 then tr k p dt e b o l else []
theorem trR_len (k p e : Int) (b o : Bool) (l : List Bool) (dt : Int) : (trR k p e b o l dt).length ≤ l.length := by
  unfold trR
  split
  · rw [tr_length]; omega
  · simp
theorem trSL (k p dt : Int) (hk : 1 ≤ k) (hk3 : k ≤ 3) (l : List Bool) (hl : l.length ≤ 200) : ∀ (r q out : List Bool) (e : Int) (b o : Bool), l = q ++ r → out.length = q.length → Ev (fun n => spec_TimerTrace.l0 n l dt out (q.length : Int) k p e b o) (out ++ tr k p dt e b o r) := by
  intro r
  induction r with
  | nil =>
    intro q out e b o hp ho
    refine ev_succ ?_
    simp only [spec_TimerTrace.l0]
    have : l.length = q.length := by rw [hp]; simp
    exact ev_neg (by omega) (ev_of (by simp [tr]))
  | cons x r ih =>
    intro q out e b o hp ho
    refine ev_succ ?_
    simp only [spec_TimerTrace.l0]
    have hll : l.length = q.length + (r.length + 1) := by rw [hp]; simp
    have hv : rdOf false l (q.length : Int) = x := by simp [rdOf, hp]
    refine ev_pos (by omega) (ev_pos (by omega) ?_)
    rw [hv, l5 k p e dt b o x hk hk3]
    refine ev_some (ev_pos (by omega) ?_)
    rw [wrap_small (by omega) (by omega)]
    have h := ih (q ++ [x]) (out ++ [(P k p e b o x dt).2]) (P k p e b o x dt).1 x (P k p e b o x dt).2 (by simp [hp]) (by simp [ho])
    simpa [tr] using h
theorem trS (k p e dt : Int) (b o : Bool) (l : List Bool) (hn : l.length ≤ 1048576) : Ev (fun n => spec_TimerTrace.f n k p e b o l dt) (trR k p e b o l dt) := by
  simp only [spec_TimerTrace.f]
  rw [tvS, inS]
  refine ev_some (ev_some ?_)
  unfold trR
  cases hv : tvalid k p e
  · refine ev_neg (by simp) (ev_succ ?_)
    simp only [spec_TimerTrace.j0]
    exact ev_pos trivial (ev_of (by simp))
  · have hk := tv_kind hv
    refine ev_pos rfl (ev_some ?_)
    cases hd : (decide (0 ≤ dt) && decide (dt ≤ 1000))
    · refine ev_neg (by simp) (ev_succ ?_)
      simp only [spec_TimerTrace.j0]
      exact ev_pos trivial (ev_of (by simp))
    · refine ev_pos rfl (ev_succ ?_)
      simp only [spec_TimerTrace.j0]
      by_cases h : (l.length : Int) > 200
      · refine ev_pos (by simpa using h) (ev_of ?_)
        rw [if_neg (by omega)]
      · refine ev_neg (by simpa using h) ?_
        rw [if_pos (by refine ⟨?_, ?_, ?_⟩ <;> first | rfl | trivial | omega)]
        exact trSL k p dt hk.1 hk.2 l (by omega) l [] [] e b o rfl rfl
theorem trIL (k p dt : Int) (l : List Bool) (hl : l.length ≤ 200) (W : List Bool) (hW : W.length = l.length) : ∀ (r q out : List Bool) (e : Int) (b o : Bool), l = q ++ r → out.length = l.length → (∀ j, j < q.length → out[j]? = W[j]?) → tr k p dt e b o r = W.drop q.length →
    Ev (fun n => impl_TimerTrace.l0 n dt out l (l.length : Int) (q.length : Int) k p e b o) W := by
  intro r
  induction r with
  | nil =>
    intro q out e b o hp ho hk hd
    refine ev_succ ?_
    simp only [impl_TimerTrace.l0]
    have : l.length = q.length := by rw [hp]; simp
    exact ev_neg (by omega) (ev_of (congrArg some (all_kept _ _ (by omega) (fun j hj => hk j (by omega)))))
  | cons x r ih =>
    intro q out e b o hp ho hk hd
    refine ev_succ ?_
    simp only [impl_TimerTrace.l0]
    have hll : l.length = q.length + (r.length + 1) := by rw [hp]; simp
    have hv : rdOf false l (q.length : Int) = x := by simp [rdOf, hp]
    refine ev_pos (by omega) (ev_pos (by omega) (ev_pos (by omega) ?_))
    rw [hv, stepI]
    refine ev_some (ev_pos (by omega) ?_)
    rw [wrap_small (by omega) (by omega)]
    have hdr : W.drop q.length = (P k p e b o x dt).2 :: tr k p dt (P k p e b o x dt).1 x (P k p e b o x dt).2 r := hd.symm
    have hw : W.getD q.length false = (P k p e b o x dt).2 := by
      have := congrArg (fun x => x[0]?) hdr
      simp at this
      rw [List.getD_eq_getElem?_getD, this]
      rfl
    have hs := set_keeps W out false q.length (by omega) (by omega) hk
    rw [hw] at hs
    have h2 := ih (q ++ [x]) (out.set q.length (P k p e b o x dt).2) (P k p e b o x dt).1 x (P k p e b o x dt).2 (by simp [hp]) (by simpa using ho) (fun j hj => hs j (by simpa using hj)) (by
      have := congrArg (List.drop 1) hdr
      simp at this
      simp [this])
    simpa using h2
theorem trI (k p e dt : Int) (b o : Bool) (l : List Bool) (hn : l.length ≤ 1048576) : Ev (fun n => impl_TimerTrace.f n k p e b o l dt) (trR k p e b o l dt) := by
  simp only [impl_TimerTrace.f]
  rw [tvI]
  refine ev_some ?_
  unfold trR
  cases hv : tvalid k p e
  · refine ev_neg (by simp) (ev_succ ?_)
    simp only [impl_TimerTrace.j0]
    exact ev_pos trivial (ev_of (by simp))
  · refine ev_pos rfl ?_
    by_cases h : (l.length : Int) > 200
    · refine ev_pos h (ev_succ ?_)
      simp only [impl_TimerTrace.j0]
      refine ev_pos trivial (ev_of ?_)
      rw [if_neg (by omega)]
    · refine ev_neg h ?_
      rw [inI]
      refine ev_some (ev_succ ?_)
      simp only [impl_TimerTrace.j0]
      cases hd : (decide (0 ≤ dt) && decide (dt ≤ 1000))
      · exact ev_pos rfl (ev_of (by simp))
      · refine ev_neg (by simp) (ev_pos (by omega) (ev_pos (by omega) ?_))
        rw [if_pos (by refine ⟨?_, ?_, ?_⟩ <;> first | rfl | trivial | omega)]
        have := trIL k p dt l (by omega) (tr k p dt e b o l) (tr_length k p dt l e b o) l [] (List.replicate ((l.length : Int)).toNat false) e b o rfl (by simp) (fun j hj => by simp at hj) rfl
        simpa using this

theorem xor_nonneg (a b : Int) (ha : 0 ≤ a) (ha2 : a < 4611686018427387904) (hb : 0 ≤ b) (hb2 : b < 4611686018427387904) : 0 ≤ Go.bits .xor .i64 a b := by
  obtain ⟨x, rfl⟩ := Int.eq_ofNat_of_zero_le ha
  obtain ⟨y, rfl⟩ := Int.eq_ofNat_of_zero_le hb
  have hx : x < 2 ^ 62 := by omega
  have hy : y < 2 ^ 62 := by omega
  have hx' : x % 2 ^ 64 = x := Nat.mod_eq_of_lt (by omega)
  have hy' : y % 2 ^ 64 = y := Nat.mod_eq_of_lt (by omega)
  have hz := Nat.xor_lt_two_pow hx hy
  have hn : (BitVec.ofInt 64 (x : Int) ^^^ BitVec.ofInt 64 (y : Int)).toNat = x ^^^ y := by
    rw [BitVec.toNat_xor, BitVec.ofInt_natCast, BitVec.ofInt_natCast, BitVec.toNat_ofNat, BitVec.toNat_ofNat, hx', hy']
  have key : Go.bits .xor .i64 (x : Int) (y : Int) = IntKind.wrap .i64 (((BitVec.ofInt 64 (x : Int) ^^^ BitVec.ofInt 64 (y : Int)).toNat : Nat) : Int) := rfl
  rw [key, hn, IntKind.wrap_i64]
  omega
theorem tmod_range (x n : Int) (hx : 0 ≤ x) (hn : 1 ≤ n) : 0 ≤ Int.tmod x n ∧ Int.tmod x n < n := by
  rw [Int.tmod_eq_emod_of_nonneg hx]
  exact ⟨Int.emod_nonneg _ (by omega), Int.emod_lt_of_pos _ (by omega)⟩
theorem rd_range (l : List Int) (h : ∀ x ∈ l, 0 ≤ x ∧ x ≤ 255) (i : Int) : 0 ≤ rd l i ∧ rd l i ≤ 255 := by
  unfold rd
  rw [List.getD_eq_getElem?_getD]
  by_cases hi : i.toNat < l.length
  · rw [List.getElem?_eq_getElem hi]
    exact h _ (List.getElem_mem hi)
  · rw [List.getElem?_eq_none (by omega)]
    simp
theorem mix_small (u v p t : Int) (hu : 0 ≤ u ∧ u ≤ 255) (hv : 0 ≤ v ∧ v ≤ 255) (hp : 0 ≤ p ∧ p ≤ 1000) (ht : 0 ≤ t ∧ t ≤ 1000) :
    wrap64 (wrap64 (wrap64 (wrap64 (wrap64 u * 131) + wrap64 (wrap64 v * 1117)) + wrap64 (p * 29)) + wrap64 (wrap64 t * 53)) = u * 131 + v * 1117 + p * 29 + t * 53 := by
  have e1 : wrap64 u = u := wrap_small (by omega) (by omega)
  have e2 : wrap64 v = v := wrap_small (by omega) (by omega)
  have e3 : wrap64 t = t := wrap_small (by omega) (by omega)
  have e4 : wrap64 (u * 131) = u * 131 := wrap_small (by omega) (by omega)
  have e5 : wrap64 (v * 1117) = v * 1117 := wrap_small (by omega) (by omega)
  have e6 : wrap64 (p * 29) = p * 29 := wrap_small (by omega) (by omega)
  have e7 : wrap64 (t * 53) = t * 53 := wrap_small (by omega) (by omega)
  rw [e1, e2, e3, e4, e5, e6, e7, wrap_small (i := u * 131 + v * 1117) (by omega) (by omega), wrap_small (i := u * 131 + v * 1117 + p * 29) (by omega) (by omega), wrap_small (by omega) (by omega)]
/-- One draw: from a place of at most 1000 on, a number of 0..n-1 is drawn, and the place moves by one. -/
theorem pick_ends (l : List Int) (hb : ∀ x ∈ l, 0 ≤ x ∧ x ≤ 255) (k : Nat) (p n : Int) (h0 : 0 ≤ p) (h1 : p ≤ 1000) (hl : l.length ≤ 2000) (hn : 1 ≤ n) : ∃ v, spec_l20Rd_pick.f (k + 1) l p n = some (v, p + 1) ∧ 0 ≤ v ∧ v < n := by
  have e1 : wrap64 (p + 1) = p + 1 := by unfold wrap64; omega
  have e2 : wrap64 (p + 1 - 1) = p := by unfold wrap64; omega
  unfold spec_l20Rd_pick.f
  rw [if_neg (by omega), e1]
  by_cases hz : (l.length : Int) = 0
  · rw [show ((l.length : Int) == 0) = true from by simpa using hz]
    exact ⟨0, by simp only [spec_l20Rd_pick.j0]; rw [if_pos trivial], by omega, by omega⟩
  · rw [show ((l.length : Int) == 0) = false from by simpa using hz]
    simp only [spec_l20Rd_pick.j0]
    rw [if_neg (by simp), e2]
    by_cases hp : p < (l.length : Int)
    · rw [if_pos hp, if_pos h0, if_neg (by omega)]
      have hr := rd_range l hb p
      rw [wrap_small (i := rd l p) (by omega) (by omega)]
      exact ⟨_, rfl, tmod_range _ n hr.1 hn⟩
    · rw [if_neg hp, if_neg hz]
      have f1 : ∀ x : Int, 0 ≤ x → 0 ≤ Int.tmod x (l.length : Int) ∧ Int.tmod x (l.length : Int) < (l.length : Int) := fun x hx => tmod_range x _ hx (by omega)
      have w1 : wrap64 (p * 7) = p * 7 := by unfold wrap64; omega
      have w2 : wrap64 (p * 7 + 3) = p * 7 + 3 := by unfold wrap64; omega
      have ht : 0 ≤ Int.tdiv p (l.length : Int) ∧ Int.tdiv p (l.length : Int) ≤ 1000 := by
        rw [Int.tdiv_eq_ediv_of_nonneg h0]
        have a1 := Int.ediv_nonneg h0 (by omega : (0 : Int) ≤ (l.length : Int))
        have a2 := Int.ediv_le_self (l.length : Int) h0
        omega
      rw [w1, w2, if_pos (f1 p h0).1, if_pos (f1 p h0).2, if_pos (f1 _ (by omega)).1, if_pos (f1 _ (by omega)).2, if_neg (by omega)]
      refine ⟨_, rfl, tmod_range _ n ?_ hn⟩
      have hu := rd_range l hb (Int.tmod p (l.length : Int))
      have hv := rd_range l hb (Int.tmod (p * 7 + 3) (l.length : Int))
      generalize rd l (Int.tmod p (l.length : Int)) = u at hu ⊢
      generalize rd l (Int.tmod (p * 7 + 3) (l.length : Int)) = v at hv ⊢
      generalize Int.tdiv p (l.length : Int) = t at ht ⊢
      rw [mix_small u v p t hu hv ⟨h0, h1⟩ ht]
      have hq : 0 ≤ Int.tdiv (u * 131 + v * 1117 + p * 29 + t * 53) 64 ∧ Int.tdiv (u * 131 + v * 1117 + p * 29 + t * 53) 64 ≤ 1000000 := by
        rw [Int.tdiv_eq_ediv_of_nonneg (by omega)]
        omega
      rw [wrap_small (i := Int.tdiv (u * 131 + v * 1117 + p * 29 + t * 53) 64) (by omega) (by omega)]
      exact xor_nonneg _ _ (by omega) (by omega) hq.1 (by omega)
theorem open_ends (l : List Int) (hb : ∀ x ∈ l, 0 ≤ x ∧ x ≤ 255) : ∃ m : List Int, spec_l20Open.f l = some (m, 0) ∧ m.length ≤ 2000 ∧ ∀ x ∈ m, 0 ≤ x ∧ x ≤ 255 := by
  unfold spec_l20Open.f
  by_cases h : (l.length : Int) > 2000
  · rw [if_pos h, if_pos (by omega)]
    exact ⟨_, rfl, by rw [List.length_take]; omega, fun x hx => hb x (List.mem_of_mem_take hx)⟩
  · rw [if_neg h]
    exact ⟨_, rfl, by omega, hb⟩
theorem u8_range {x : Int} (h : (Lit.int .u8 x).wf = true) : 0 ≤ x ∧ x ≤ 255 := by
  simp [Lit.wf, IntKind.min, IntKind.max, IntKind.signed, IntKind.bits] at h
  omega
theorem drawT (l : List Int) (hb : ∀ x ∈ l, 0 ≤ x ∧ x ≤ 255) : ∃ a p, Ev (fun k => spec_DrawNewTimer.f k l) (a, p) := by
  obtain ⟨m, hm, hml, hmb⟩ := open_ends l hb
  obtain ⟨u, hu, _⟩ := pick_ends m hmb 0 0 5 (by omega) (by omega) hml (by omega)
  obtain ⟨v, hv, _⟩ := pick_ends m hmb 0 1 100 (by omega) (by omega) hml (by omega)
  obtain ⟨x, hx, hx0, hx1⟩ := pick_ends m hmb 0 2 6 (by omega) (by omega) hml (by omega)
  have at_ : ∀ {n p q : Int} {y : Int}, spec_l20Rd_pick.f 1 m p n = some (y, q) → ∀ k, 1 ≤ k → spec_l20Rd_pick.f k m p n = some (y, q) := fun h k hk => at_rounds (fun k => spec_l20Rd_pick.mono _ _ _ k) hk h
  have key : ∃ a p, ∀ k, 1 ≤ k → spec_DrawNewTimer.f k l = some (a, p) := by
    have hc : x = 0 ∨ x = 1 ∨ x = 2 ∨ x = 3 ∨ x = 4 ∨ x = 5 := by omega
    have go : ∀ k, 1 ≤ k → spec_DrawNewTimer.f k l = (if 0 ≤ x then (if x < ((([0, 0, 0, 1, 2, 3] : List Int)).length : Int) then (if 0 ≤ rd [0, 0, 0, 1, 2, 3] x then (if rd [0, 0, 0, 1, 2, 3] x < ((([v, 10000, 10001, (-1)] : List Int)).length : Int) then some (u, rd [v, 10000, 10001, (-1)] (rd [0, 0, 0, 1, 2, 3] x)) else none) else none) else none) else none) := by
      intro k hk
      unfold spec_DrawNewTimer.f
      rw [hm]
      simp only [Option.bind_some]
      rw [at_ hu k hk]
      simp only [Option.bind_some, Int.zero_add]
      rw [at_ hv k hk]
      simp only [Option.bind_some, Int.reduceAdd]
      rw [at_ hx k hk]
      simp only [Option.bind_some]
    rcases hc with rfl | rfl | rfl | rfl | rfl | rfl <;> exact ⟨_, _, fun k hk => (go k hk).trans (by simp [rd]; exact ⟨rfl, rfl⟩)⟩
  obtain ⟨a, p, h⟩ := key
  exact ⟨a, p, 1, h⟩
theorem sameL (l : List Bool) (hl : l.length ≤ 1048576) : ∀ (m i : Nat), i + m = l.length → Ev (fun k => laws_sameBools.l0 k l l (i : Int)) true := by
  intro m
  induction m with
  | zero =>
    intro i hi
    refine ev_succ ?_
    simp only [laws_sameBools.l0]
    exact ev_neg (by omega) (ev_of rfl)
  | succ m ih =>
    intro i hi
    refine ev_succ ?_
    simp only [laws_sameBools.l0]
    refine ev_pos (by omega) (ev_pos (by omega) (ev_pos (by omega) (ev_neg (by simp) ?_)))
    rw [wrap_small (by omega) (by omega)]
    exact ih (i + 1) (by omega)
theorem same_ev (l : List Bool) (hl : l.length ≤ 1048576) : Ev (fun k => laws_sameBools.f k l l) true := by
  simp only [laws_sameBools.f]
  refine ev_pos (by first | rfl | trivial) ?_
  exact sameL l hl l.length 0 (by omega)
/-- The elapsed time behind j steps of dt, up to N * dt. -/
def E (N : Nat) (dt : Int) (j : Nat) : Int := if N ≤ j then (N : Int) * dt else (j : Int) * dt
theorem E_step (N : Nat) (dt : Int) (j : Nat) (hN : N ≤ 60) (h0 : 1 ≤ dt) (h1 : dt ≤ 50) : mn (wrap64 (E N dt j + dt)) ((N : Int) * dt) = E N dt (j + 1) := by
  have hb : (N : Int) * dt ≤ 60 * 50 := Int.mul_le_mul (by omega) h1 (by omega) (by omega)
  have hb0 : 0 ≤ (N : Int) * dt := Int.mul_nonneg (by omega) (by omega)
  have e1 : (((j + 1 : Nat)) : Int) * dt = (j : Int) * dt + dt := by rw [Int.natCast_add, Int.add_mul]; simp
  have hj0 : 0 ≤ (j : Int) * dt := Int.mul_nonneg (by omega) (by omega)
  unfold E
  by_cases h : N ≤ j
  · rw [if_pos h, if_pos (by omega), wrap_small (by omega) (by omega)]
    unfold mn
    rw [if_pos (by omega)]
  · rw [if_neg h]
    have h2 : (((j + 1 : Nat)) : Int) * dt ≤ (N : Int) * dt := Int.mul_le_mul_of_nonneg_right (by omega) (by omega)
    rw [wrap_small (by omega) (by omega)]
    unfold mn
    by_cases h3 : N ≤ j + 1
    · have h4 : N = j + 1 := by omega
      rw [if_pos h3, if_neg (by omega)]
      rw [h4]
      omega
    · rw [if_neg h3, if_neg (by omega)]
      omega
theorem E_lt (N : Nat) (dt : Int) (j : Nat) (h0 : 1 ≤ dt) : (decide (E N dt j < (N : Int) * dt)) = decide (j < N) := by
  unfold E
  by_cases h : N ≤ j
  · rw [if_pos h]
    simp [show ¬ j < N by omega]
  · rw [if_neg h]
    have h2 : (j : Int) * dt < (N : Int) * dt := Int.mul_lt_mul_of_pos_right (by omega) (by omega)
    simp [h2, show j < N by omega]
theorem E_eq (N : Nat) (dt : Int) (j : Nat) (h0 : 1 ≤ dt) : (E N dt j == (N : Int) * dt) = decide (N ≤ j) := by
  unfold E
  by_cases h : N ≤ j
  · rw [if_pos h]
    simp [h]
  · rw [if_neg h]
    have h2 : (j : Int) * dt < (N : Int) * dt := Int.mul_lt_mul_of_pos_right (by omega) (by omega)
    have h3 : ¬ (j : Int) * dt = (N : Int) * dt := by omega
    simp [h, h3]
theorem E_zero (N : Nat) (dt : Int) : E N dt 0 = 0 := by
  unfold E
  by_cases h : N ≤ 0
  · have : N = 0 := by omega
    rw [if_pos h, this]
    simp
  · rw [if_neg h]
    simp
theorem on_tail (N : Nat) (dt : Int) (hN : N ≤ 60) (h0 : 1 ≤ dt) (h1 : dt ≤ 50) : ∀ (m j : Nat) (o : Bool), tr 1 ((N : Int) * dt) dt (E N dt j) true o (List.replicate m true) = (List.range' (j + 1) m).map (fun i => decide (N ≤ i))
  | 0, _, _ => rfl
  | m + 1, j, o => by
    have hP : P 1 ((N : Int) * dt) (E N dt j) true o true dt = (E N dt (j + 1), decide (N ≤ j + 1)) := by
      unfold P impl_Timer_step.pair
      simp only [if_true, and_self, E_step N dt j hN h0 h1, E_eq N dt (j + 1) h0]
    rw [List.replicate_succ, tr, hP, List.range'_succ, List.map_cons, on_tail N dt hN h0 h1 m (j + 1)]
theorem hold_tail (k : Int) (x : Bool) (hk : (k = 2 ∧ x = false) ∨ (k = 3 ∧ x = true)) (N : Nat) (dt : Int) (hN : N ≤ 60) (h0 : 1 ≤ dt) (h1 : dt ≤ 50) : ∀ (m j : Nat) (b : Bool), (k = 3 → b = true) → tr k ((N : Int) * dt) dt (E N dt j) b (decide (j < N)) (List.replicate m x) = (List.range' (j + 1) m).map (fun i => decide (i < N))
  | 0, _, _, _ => rfl
  | m + 1, j, b, hb => by
    have hP : P k ((N : Int) * dt) (E N dt j) b (decide (j < N)) x dt = (E N dt (j + 1), decide (j + 1 < N)) := by
      have hq : (decide (j < N) && decide (j + 1 < N)) = decide (j + 1 < N) := by
        by_cases h : j + 1 < N
        · simp [h]; omega
        · simp [h]
      unfold P impl_Timer_step.pair
      rcases hk with ⟨rfl, rfl⟩ | ⟨rfl, rfl⟩
      · simp only [E_step N dt j hN h0 h1, E_lt N dt (j + 1) h0, hq]
        simp
      · rw [hb rfl]
        simp only [E_step N dt j hN h0 h1, E_lt N dt (j + 1) h0, hq]
        simp
    rw [List.replicate_succ, tr, hP, List.range'_succ, List.map_cons]
    rw [hold_tail k x hk N dt hN h0 h1 m (j + 1) x (fun h3 => by rcases hk with ⟨rfl, _⟩ | ⟨_, hx⟩ <;> first | exact absurd h3 (by decide) | exact hx)]
theorem pulse_tail (N : Nat) (dt : Int) (hN : N ≤ 60) (h0 : 1 ≤ dt) (h1 : dt ≤ 50) : ∀ (r : List Bool) (j : Nat) (b : Bool), j + r.length < N → tr 3 ((N : Int) * dt) dt (E N dt j) b true r = List.replicate r.length true
  | [], _, _, _ => rfl
  | x :: r, j, b, hj => by
    have hjl : j + (r.length + 1) < N := by simpa using hj
    have hlt : decide (E N dt j < (N : Int) * dt) = true := by rw [E_lt N dt j h0]; simp; omega
    have hlt2 : decide (E N dt (j + 1) < (N : Int) * dt) = true := by rw [E_lt N dt (j + 1) h0]; simp; omega
    have hP : P 3 ((N : Int) * dt) (E N dt j) b true x dt = (E N dt (j + 1), true) := by
      unfold P impl_Timer_step.pair
      rw [if_neg (by decide), if_neg (by decide), if_pos rfl, if_neg (by intro h; exact h.2.2 ⟨rfl, of_decide_eq_true hlt⟩), E_step N dt j hN h0 h1, hlt2]
      rfl
    rw [tr, hP]
    dsimp only
    rw [pulse_tail N dt hN h0 h1 r (j + 1) x (by omega)]
    rfl
theorem tvalid_of (k : Int) (N : Nat) (dt e : Int) (hk : 1 ≤ k ∧ k ≤ 3) (hN : N ≤ 60) (h0 : 1 ≤ dt) (h1 : dt ≤ 50) (he : e = 0 ∨ e = (N : Int) * dt) : tvalid k ((N : Int) * dt) e = true := by
  have hb : (N : Int) * dt ≤ 60 * 50 := Int.mul_le_mul (by omega) h1 (by omega) (by omega)
  have hb0 : 0 ≤ (N : Int) * dt := Int.mul_nonneg (by omega) (by omega)
  generalize (N : Int) * dt = p at *
  simp [tvalid]
  omega
theorem map_get (g : Nat → Bool) (m i : Nat) (h : i < m) : rdOf false ((List.range' 0 m).map g) (i : Int) = g i := by
  simp [rdOf, List.getD_eq_getElem?_getD, h]
theorem wf_prod (N : Nat) (dt : Int) (hN : N ≤ 60) (h0 : 1 ≤ dt) (h1 : dt ≤ 50) : wrap64 ((N : Int) * dt) = (N : Int) * dt := by
  have hb : (N : Int) * dt ≤ 60 * 50 := Int.mul_le_mul (by omega) h1 (by omega) (by omega)
  have hb0 : 0 ≤ (N : Int) * dt := Int.mul_nonneg (by omega) (by omega)
  exact wrap_small (by omega) (by omega)

theorem pure_holds : Pure := by
  intro l0 l1 h0 h1
  refine Ev.rounds ?_
  simp only [laws_FnTimerPulse.f]
  have big : ∀ c, c = true → Ev (fun k => laws_FnTimerPulse.j0 k l0 l1 c) true := by
    intro c hc
    refine ev_succ ?_
    simp only [laws_FnTimerPulse.j0]
    exact ev_pos hc (ev_of rfl)
  by_cases hb : (l0.length : Int) > 1048576
  · exact ev_pos hb (big true rfl)
  · refine ev_neg hb ?_
    by_cases hb1 : (l1.length : Int) > 1048576
    · exact big _ (by simpa using hb1)
    · refine ev_succ ?_
      simp only [laws_FnTimerPulse.j0]
      refine ev_neg (by simpa using hb1) ?_
      obtain ⟨a, p, hd⟩ := drawT l0 (fun x hx => u8_range (h0.2 x hx))
      refine Ev.bind hd ?_
      dsimp only
      have hdt : 1 ≤ 1 + (l1.length : Int) % 50 ∧ 1 + (l1.length : Int) % 50 ≤ 50 := by omega
      have hn : 1 ≤ 1 + mx 0 p % 40 ∧ 1 + mx 0 p % 40 ≤ 40 := by omega
      generalize 1 + (l1.length : Int) % 50 = dt at hdt ⊢
      generalize 1 + mx 0 p % 40 = n at hn ⊢
      obtain ⟨N, rfl⟩ := Int.eq_ofNat_of_zero_le (show 0 ≤ n by omega)
      have hN : N ≤ 60 := by omega
      rw [wf_prod N dt hN hdt.1 hdt.2]
      have hnew : impl_NewTimer.f 3 ((N : Int) * dt) = some (3, (N : Int) * dt, (N : Int) * dt, false, false) := by
        unfold impl_NewTimer.f
        rw [tvI, tvalid_of 3 N dt 0 (by omega) hN hdt.1 hdt.2 (.inl rfl)]
        rfl
      rw [hnew]
      refine ev_some ?_
      dsimp only
      have hpos : 0 < (N : Int) * dt := Int.mul_pos (by omega) (by omega)
      have hP : P 3 ((N : Int) * dt) ((N : Int) * dt) false false true dt = (E N dt 0, true) := by
        rw [E_zero]
        unfold P impl_Timer_step.pair
        simp [hpos]
      have hin : ∀ r : List Bool, r.length + 1 = N → trR 3 ((N : Int) * dt) ((N : Int) * dt) false false (true :: r) dt = List.replicate N true := by
        intro r hr
        unfold trR
        rw [if_pos ⟨tvalid_of 3 N dt _ (by omega) hN hdt.1 hdt.2 (.inr rfl), by simp; omega, by simp; omega⟩, tr, hP]
        dsimp only
        rw [pulse_tail N dt hN hdt.1 hdt.2 r 0 true (by omega), ← hr, List.replicate_succ]
      have hhold : trR 3 ((N : Int) * dt) ((N : Int) * dt) false false (List.replicate (N + 3) true) dt = (List.range' 0 (N + 3)).map (fun i => decide (i < N)) := by
        unfold trR
        rw [if_pos ⟨tvalid_of 3 N dt _ (by omega) hN hdt.1 hdt.2 (.inr rfl), by simp; omega, by simp; omega⟩]
        rw [show N + 3 = (N + 2) + 1 from rfl, List.replicate_succ, tr, hP]
        dsimp only
        have ht := hold_tail 3 true (.inr ⟨rfl, rfl⟩) N dt hN hdt.1 hdt.2 (N + 2) 0 true (fun _ => rfl)
        rw [show decide (0 < N) = true from decide_eq_true (by omega)] at ht
        rw [ht]
        show _ = decide (0 < N) :: _
        rw [show decide (0 < N) = true from decide_eq_true (by omega)]
      have c3 : ∀ (ins : List Bool), ins.length = N → trR 3 ((N : Int) * dt) ((N : Int) * dt) false false ins dt = List.replicate N true → ∀ (m i : Nat), i + m = N + 3 → Ev (fun k => laws_FnTimerPulse.l3 k dt (N : Int) ins (List.replicate N true) ((List.range' 0 (N + 3)).map (fun i => decide (i < N))) (i : Int) 3 ((N : Int) * dt) ((N : Int) * dt) false false) true := by
        intro ins hl hins m
        induction m with
        | zero =>
          intro i hi
          refine ev_succ ?_
          simp only [laws_FnTimerPulse.l3]
          refine ev_neg (by simp; omega) (ev_pos (by simp) ?_)
          have hS := trS 3 ((N : Int) * dt) ((N : Int) * dt) dt false false ins (by omega)
          rw [hins] at hS
          refine Ev.bind hS ?_
          refine Ev.bind (same_ev _ (by simp; omega)) (ev_of rfl)
        | succ m ih =>
          intro i hi
          refine ev_succ ?_
          simp only [laws_FnTimerPulse.l3]
          refine ev_pos (by simp; omega) (ev_pos (by omega) (ev_neg ?_ ?_))
          · rw [map_get _ _ _ (by omega)]
            simp
          · rw [wrap_small (by omega) (by omega)]
            exact ih (i + 1) (by omega)
      have c2 : ∀ (ins : List Bool), ins.length = N → trR 3 ((N : Int) * dt) ((N : Int) * dt) false false ins dt = List.replicate N true → ∀ (m i : Nat) (out : List Bool), i + m = N + 3 → out.length = N + 3 → (∀ j, j < i → out[j]? = (List.replicate (N + 3) true)[j]?) → Ev (fun k => laws_FnTimerPulse.l2 k dt (N : Int) ins (List.replicate N true) out (i : Int) 3 ((N : Int) * dt) ((N : Int) * dt) false false) true := by
        intro ins hl hins m
        induction m with
        | zero =>
          intro i out hi ho hk
          refine ev_succ ?_
          simp only [laws_FnTimerPulse.l2]
          have e : out = List.replicate (N + 3) true := all_kept _ _ (by simp [ho]) (fun j hj => hk j (by simp at hj; omega))
          refine ev_neg (by omega) ?_
          rw [e]
          have h := trI 3 ((N : Int) * dt) ((N : Int) * dt) dt false false (List.replicate (N + 3) true) (by simp; omega)
          rw [hhold] at h
          refine Ev.bind h ?_
          exact c3 ins hl hins (N + 3) 0 (by omega)
        | succ m ih =>
          intro i out hi ho hk
          refine ev_succ ?_
          simp only [laws_FnTimerPulse.l2]
          refine ev_pos (by omega) (ev_pos (by omega) ?_)
          rw [wrap_small (by omega) (by omega), Int.toNat_natCast]
          have hs := set_keeps (List.replicate (N + 3) true) out false i (by simp; omega) (by simp [ho]) hk
          rw [show (List.replicate (N + 3) true).getD i false = true by rw [List.getD_eq_getElem?_getD]; simp [show i < N + 3 by omega]] at hs
          exact ih (i + 1) (out.set i true) (by omega) (by simpa using ho) hs
      have c1 : ∀ (ins : List Bool), ins.length = N → trR 3 ((N : Int) * dt) ((N : Int) * dt) false false ins dt = List.replicate N true → ∀ (m i : Nat), i + m = N → Ev (fun k => laws_FnTimerPulse.l1 k dt (N : Int) ins (List.replicate N true) (i : Int) 3 ((N : Int) * dt) ((N : Int) * dt) false false) true := by
        intro ins hl hins m
        induction m with
        | zero =>
          intro i hi
          refine ev_succ ?_
          simp only [laws_FnTimerPulse.l1]
          refine ev_neg (by simp; omega) ?_
          rw [wrap_small (by omega) (by omega)]
          refine ev_pos (by omega) (ev_pos (by omega) ?_)
          exact c2 ins hl hins (N + 3) 0 _ (by omega) (by simp; omega) (fun j hj => by omega)
        | succ m ih =>
          intro i hi
          refine ev_succ ?_
          simp only [laws_FnTimerPulse.l1]
          refine ev_pos (by simp; omega) (ev_pos (by omega) (ev_pos ?_ ?_))
          · simp [rdOf, List.getD_eq_getElem?_getD, show i < N by omega]
          · rw [wrap_small (by omega) (by omega)]
            exact ih (i + 1) (by omega)
      have c0 : ∀ (m i : Nat) (r : List Bool), i + m = N → r.length + 1 = i → Ev (fun k => laws_FnTimerPulse.l0 k l1 dt (N : Int) (true :: r) (i : Int) 3 ((N : Int) * dt) ((N : Int) * dt) false false) true := by
        intro m
        induction m with
        | zero =>
          intro i r hi hr
          refine ev_succ ?_
          simp only [laws_FnTimerPulse.l0]
          refine ev_neg (by omega) ?_
          have h := trI 3 ((N : Int) * dt) ((N : Int) * dt) dt false false (true :: r) (by simp; omega)
          rw [hin r (by omega)] at h
          refine Ev.bind h ?_
          exact c1 (true :: r) (by simp; omega) (hin r (by omega)) N 0 (by omega)
        | succ m ih =>
          intro i r hi hr
          refine ev_succ ?_
          simp only [laws_FnTimerPulse.l0]
          refine ev_pos (by omega) ?_
          rw [wrap_small (by omega) (by omega)]
          by_cases hc : (i : Int) < (l1.length : Int)
          · exact ev_pos hc (ev_pos (by omega) (ev_pos (by simp; omega) (ih (i + 1) (r ++ [(Int.tmod (rd l1 (i:Int)) 2) == 1]) (by omega) (by simp; omega))))
          · exact ev_neg hc (ev_pos (by simp; omega) (ih (i + 1) (r ++ [false]) (by omega) (by simp; omega)))
      exact c0 (N - 1) 1 [] (by omega) rfl

end Go.Proofs.Ytflemeaaiokjmaa.fnTimerPulse

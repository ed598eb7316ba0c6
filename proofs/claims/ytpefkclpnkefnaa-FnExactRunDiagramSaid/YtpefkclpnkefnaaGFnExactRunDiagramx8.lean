/- Functions of the program as Lean functions, with proofs that the machine comes to their answers; written by this session's program mkprint.py; no condition beyond each theorem's own. -/
import Derived.Test.YtpefkclpnkefnaaGFnExactRunDiagramx0
import Derived.Test.YtpefkclpnkefnaaGFnExactRunDiagramx7
namespace Go.Proofs.Ytpefkclpnkefnaa.GFnExactRunDiagram
open Go.RowKit Go.Proofs.YtpefkclpnkefnaaV.PrintWords Go.Proofs.YtpefkclpnkefnaaV.PrintLast Go.Proofs.YtpefkclpnkefnaaV.PrintMore
attribute [local go_sem] max2_int min2_int max_two min_two max_three min_three max_four min_four   -- for this text's walks alone
set_option linter.unusedVariables false
set_option linter.unusedSimpArgs false

/-! ### impl_areWords: function 28 -/
/-- A number that is no word. -/
def impl_areWords.bad (x : Int) : Bool := !(decide (-32768 ≤ x) && decide (x ≤ 32767))
def impl_areWords.idx (l : List Int) (m : Nat) : Int := Lib.idxBy (fun _ y => impl_areWords.bad y) (l.take m) default
theorem impl_areWords.closure (x : Int) (w : World) : Calls Try.prog 48 #[.int .i64 x] w fun e w' => e = .returned (.bool (impl_areWords.bad x)) ∧ ∃ q, w' = w.drewN q := by
  have h : impl_isWord.f x = some (!impl_areWords.bad x) := by
    unfold impl_isWord.f impl_in.f impl_areWords.bad
    by_cases h1 : x ≥ -32768
    · rw [if_pos h1]; simp [show -32768 ≤ x from h1]
    · rw [if_neg h1]; simp [show ¬ -32768 ≤ x from h1]
  generalize impl_areWords.bad x = b at h ⊢
  go_enter Try.func48, Try.ntmps48
  go_wp2_with (go_at_call 49; refine (impl_isWord.calls x (!b) _ h).mono ?_; rintro e w' ⟨rfl, ⟨⟨nd, rfl⟩⟩⟩)
  go_ret
  exact ⟨by simp, nd, rfl⟩
theorem impl_areWords.index0 (A : Option Addr) (c : Nat) (fv : Value) (w : World) :
    Calls Try.prog 54 #[.slice A 0 c, fv] w fun e w' => e = .returned (.int .i64 (-1)) ∧ w' = w := by
  go_enter Try.func54, Try.ntmps54
  go_wp2
  go_loopg [5, 8] 0 (fun _ _ s8 wr => s8 = .int .i64 0 ∧ wr = w)
  case atStart => exact ⟨rfl, rfl⟩
  case round =>
    obtain ⟨rfl, rfl⟩ := hrel
    go_wp2
    go_ret
    exact ⟨rfl, rfl⟩
set_option maxHeartbeats 2000000 in
theorem impl_areWords.index (ad : Addr) (c n : Nat) (l : List Int) (w : World) (hn : l.length = n) (hbig : n ≤ 9223372036854775807) (hc : ∀ j, j < n → w.cell? (ad.add j) = some (.int .i64 l[j]!)) :
    Calls Try.prog 54 #[.slice (some ad) n c, .func (.func 48) #[] #[]] w fun e w' => e = .returned (.int .i64 (impl_areWords.idx l n)) ∧ ∃ q, w' = w.drewN q := by
  have hcall : ∀ (x : Int) (q : Nat), Calls Try.prog 48 #[.int .i64 x] (w.drewN q) fun e w' => e = .returned (.bool (impl_areWords.bad x)) ∧ ∃ q', w' = (w.drewN q).drewN q' := fun x q => impl_areWords.closure x _
  have Hn := Aside0.mk hn
  clear hn
  go_enter Try.func54, Try.ntmps54
  go_wp2
  go_loopg [5, 8] n (fun gg _ s8 wr => ∃ kk q : Nat, kk ≤ n ∧ n - kk ≤ gg ∧ s8 = .int .i64 kk ∧ wr = w.drewN q ∧ Aside0 (∀ j, j < kk → impl_areWords.bad l[j]! = false))
  case atStart => exact ⟨0, 0, Nat.zero_le _, by omega, rfl, rfl, ⟨fun j hj => absurd hj (Nat.not_lt_zero _)⟩⟩
  case round =>
    obtain ⟨kk, q, hkk, hg, rfl, rfl, HA⟩ := hrel
    by_cases hlt : kk < n
    · have hltz : (kk : Int) < (n : Int) := by omega
      have hcell : w.cell? (ad.add kk) = some (.int .i64 l[kk]!) := hc kk (by omega)
      clear hc
      generalize hy : l[kk]! = y at hcell
      have HB := Aside0.mk hy
      clear hy
      have hcall1 := hcall y
      clear hcall
      cases hq : impl_areWords.bad y with
      | true =>
        rw [hq] at hcall1
        have HQ := Aside0.mk hq
        clear hq
        go_wp2_with (go_at_call 48; refine (hcall1 _).mono ?_; rintro e w' ⟨rfl, q', rfl⟩)
        go_ret
        refine ⟨?_, _, rfl⟩
        unfold impl_areWords.idx
        rw [Lib.idxBy_hit (fun _ y => impl_areWords.bad y) l n kk default hlt (Nat.le_of_eq Hn.out.symm) (by show impl_areWords.bad l[kk]! = true; rw [HB.out]; exact HQ.out) HA.out]
        rfl
      | false =>
        rw [hq] at hcall1
        have HQ := Aside0.mk hq
        clear hq
        go_wp2_with (go_at_call 48; refine (hcall1 _).mono ?_; rintro e w' ⟨rfl, q', rfl⟩)
        go_roundg (n - (kk + 1))
        case measure => omega
        case rel =>
          refine ⟨kk + 1, _, by omega, by omega, by go_num, rfl, ⟨fun j hj => ?_⟩⟩
          by_cases e : j = kk
          · subst e
            rw [HB.out]; exact HQ.out
          · exact HA.out j (by omega)
    · have hltz : ¬ (kk : Int) < (n : Int) := by omega
      obtain rfl : kk = n := by omega
      go_wp2
      go_ret
      refine ⟨?_, q, rfl⟩
      unfold impl_areWords.idx
      rw [Lib.idxBy_miss (fun _ y => impl_areWords.bad y) l kk default HA.out]
      rfl
/-- areWords: are all numbers words? -/
def impl_areWords.f (l0 : List Int) : Option Bool := some (!l0.any impl_areWords.bad)
theorem impl_areWords.contains (A : Option Addr) (c : Nat) (l : List Int) (w : World) (hr : Kd.C (Kd.int .i64) w A l.length l) :
    Calls Try.prog 47 #[.slice A l.length c, .func (.func 48) #[] #[]] w fun e w' => e = .returned (.bool (l.any impl_areWords.bad)) ∧ ∃ q, w' = w.drewN q := by
  have hi : Calls Try.prog 54 #[.slice A l.length c, .func (.func 48) #[] #[]] w fun e w' => e = .returned (.int .i64 (Lib.idxBy (fun _ y => impl_areWords.bad y) l default)) ∧ ∃ q, w' = w.drewN q := by
    rcases Nat.eq_zero_or_pos l.length with h0 | h0
    · have : l = [] := List.eq_nil_of_length_eq_zero h0
      subst this
      exact (impl_areWords.index0 A c _ w).mono fun e w' ⟨he, hw⟩ => ⟨he, 0, hw⟩
    · obtain ⟨ad, rfl, hc⟩ := hr.2.2 h0
      have h := impl_areWords.index ad c l.length l w rfl hr.2.1 (fun j hj => by
        obtain ⟨ad', he, hcell⟩ := Kd.at_int hr (j : Int) (by omega) (by omega)
        obtain rfl := Option.some.inj he
        rw [show rd l (j : Int) = l[j]! by simp [rd, List.getElem!_eq_getElem?_getD, List.getD_eq_getElem?_getD]] at hcell
        exact hcell)
      unfold impl_areWords.idx at h
      rw [List.take_length] at h
      exact h
  rw [show l.any impl_areWords.bad = decide (0 ≤ Lib.idxBy (fun _ y => impl_areWords.bad y) l default) from (Lib.idxBy_nonneg_iff (fun _ y => impl_areWords.bad y) l default).symm]
  generalize Lib.idxBy (fun _ y => impl_areWords.bad y) l default = i at hi ⊢
  generalize l.length = n at hi ⊢
  clear hr
  go_enter Try.func47, Try.ntmps47
  go_wp2_with (go_at_call 54; refine hi.mono ?_; rintro e w' ⟨rfl, q, rfl⟩)
  go_ret
  exact ⟨rfl, q, rfl⟩
theorem impl_areWords.calls (A0 : Option Addr) (c0 : Nat) (l0 : List Int) (r : Bool) (w : World) (hr0 : Kd.C (Kd.int .i64) w A0 l0.length l0) (hc0 : l0.length ≤ c0) (h : impl_areWords.f l0 = some r) :
    Calls Try.prog 28 #[.slice A0 l0.length c0] w fun e w' => e = .returned (.bool r) ∧ Drawn0 w w' := by
  obtain rfl := Option.some.inj h
  have hi := impl_areWords.contains A0 c0 l0 w hr0
  generalize l0.any impl_areWords.bad = b at hi ⊢
  generalize l0.length = n at hi ⊢
  clear hr0
  go_enter Try.func28, Try.ntmps28
  go_wp2_with (go_at_call 47; refine hi.mono ?_; rintro e w' ⟨rfl, q, rfl⟩)
  go_ret
  exact ⟨rfl, ⟨⟨q, rfl⟩⟩⟩


-- NOT PRINTED: function 36 (impl_StepDiagram_1)

/-! ### impl_limit: function 37 -/
def impl_limit.f (a0 : Int) : Option (Int) := some (mx (-32768) (mn 32767 a0))
set_option maxHeartbeats 8000000 in
set_option maxRecDepth 100000 in
theorem impl_limit.calls (a0 : Int) (r : Int) (w : World) (h : impl_limit.f a0 = some r) :
    Calls Try.prog 37 #[.int .i64 a0] w fun e w' => e = .returned (.int .i64 r) ∧ Below w.heap.size w w' := by
  have HB := Aside0.mk (Below.refl w.heap.size w)
  have H : (some (mx (-32768) (mn 32767 a0))) = some r := h
  clear h
  obtain ⟨ji2, hji2⟩ : ∃ j_ : Int, (mn 32767 a0) = j_ := ⟨_, rfl⟩
  replace H : (some (mx (-32768) (ji2))) = some r := by first | (rw [hji2] at H; exact H) | (simp only [hji2] at H ⊢; exact H)
  (try (have hji2h : ji2 ≤ 32767 := by (rw [← hji2]; unfold mn; (repeat' split) <;> omega)))
  (try (have hji2g : ji2 ≤ 64 := by omega))
  have hji2_ : (if a0 < 32767 then a0 else 32767) = ji2 := hji2
  obtain ⟨ji3, hji3⟩ : ∃ j_ : Int, (mx (-32768) (ji2)) = j_ := ⟨_, rfl⟩
  replace H : (some ji3) = some r := by first | (rw [hji3] at H; exact H) | (simp only [hji3] at H ⊢; exact H)
  have hji3_ : (if (-32768) < (ji2) then (ji2) else (-32768)) = ji3 := hji3
  obtain rfl := Option.some.inj H
  go_enter Try.func37, Try.ntmps37
  go_wp2
  go_ret
  exact ⟨by first | rfl | (simp [errW_none, errW_some] <;> rfl) | (simp only [← hji2, ← hji3]; first | rfl | (simp [errW_none, errW_some] <;> rfl)) | (simp [*, errW_none, errW_some] <;> rfl), by repeat (first | (with_reducible first | exact HB.out | apply below_alloc | apply pw_below_drewN | apply below_drew1) | exact HB.out)⟩

end Go.Proofs.Ytpefkclpnkefnaa.GFnExactRunDiagram

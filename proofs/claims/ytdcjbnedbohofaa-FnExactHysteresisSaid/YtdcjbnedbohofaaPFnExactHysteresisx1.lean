-- PRINTED BY print.sh 35421559b90ae4d0a3588c463048766b98c2df88dd9212a6774a882060cdf62d: not written by this session
import Derived.Test.YtdcjbnedbohofaaPFnExactHysteresisx0
namespace Go.Proofs.Ytdcjbnedbohofaa.PFnExactHysteresis
open Go.RowKit Go.Proofs.YtdcjbnedbohofaaW.PrintWords Go.Proofs.YtdcjbnedbohofaaW.PrintLast Go.Proofs.YtdcjbnedbohofaaW.PrintMore
attribute [local go_sem] max2_int min2_int max_two min_two max_three min_three max_four min_four   -- for this text's walks alone
set_option linter.unusedVariables false
set_option linter.unusedSimpArgs false

/-! ### spec_Hysteresis: function 24 -/
def spec_Hysteresis.f (a0 : Bool) (a1 : Int) (a2 : Int) (a3 : Int) : Option (Bool) := if a2 ≥ a3 then (some a0) else (if a1 ≥ a3 then (some true) else (if a0 = true then (some (decide (a1 > a2))) else (some false)))
set_option maxHeartbeats 8000000 in
set_option maxRecDepth 100000 in
theorem spec_Hysteresis.calls (a0 : Bool) (a1 : Int) (a2 : Int) (a3 : Int) (r : Bool) (w : World) (h : spec_Hysteresis.f a0 a1 a2 a3 = some r) :
    Calls Try.prog 24 #[.bool a0, .int .i64 a1, .int .i64 a2, .int .i64 a3] w fun e w' => e = .returned (.bool r) ∧ Drawn0 w w' := by
  have H : (if a2 ≥ a3 then (some a0) else (if a1 ≥ a3 then (some true) else (if a0 = true then (some (decide (a1 > a2))) else (some false)))) = some r := h
  clear h
  by_cases c5 : a2 ≥ a3
  · rw [if_pos c5] at H
    have c5b0 : decide (a3 ≤ a2) = true := decide_eq_true c5
    clear c5
    obtain rfl := Option.some.inj H
    go_enter Try.func24, Try.ntmps24
    go_wp2
    go_ret
    exact ⟨by first | rfl | (simp; done) | (simp [*]; done), by repeat (first | exact Drawn0.refl _ | apply Drawn0.step)⟩
  · rw [if_neg c5] at H
    have c5b0 : decide (a3 ≤ a2) = false := decide_eq_false c5
    clear c5
    by_cases c6 : a1 ≥ a3
    · rw [if_pos c6] at H
      have c6b0 : decide (a3 ≤ a1) = true := decide_eq_true c6
      clear c6
      obtain rfl := Option.some.inj H
      go_enter Try.func24, Try.ntmps24
      go_wp2
      go_ret
      exact ⟨by first | rfl | (simp; done) | (simp [*]; done), by repeat (first | exact Drawn0.refl _ | apply Drawn0.step)⟩
    · rw [if_neg c6] at H
      have c6b0 : decide (a3 ≤ a1) = false := decide_eq_false c6
      clear c6
      by_cases c7 : a0 = true
      · subst c7
        have H1 : (some (decide (a1 > a2))) = some r := by rw [if_pos rfl] at H; exact H
        clear H
        have H := H1
        clear H1
        obtain rfl := Option.some.inj H
        go_enter Try.func24, Try.ntmps24
        go_wp2
        go_ret
        exact ⟨by first | rfl | (simp; done) | (simp [*]; done), by repeat (first | exact Drawn0.refl _ | apply Drawn0.step)⟩
      · replace c7 := Bool.eq_false_iff.mpr c7
        subst c7
        have H1 : (some false) = some r := by rw [if_neg (show ¬ (false = true) by decide)] at H; exact H
        clear H
        have H := H1
        clear H1
        obtain rfl := Option.some.inj H
        go_enter Try.func24, Try.ntmps24
        go_wp2
        go_ret
        exact ⟨by first | rfl | (simp; done) | (simp [*]; done), by repeat (first | exact Drawn0.refl _ | apply Drawn0.step)⟩

/-! ### impl_Hysteresis: function 25 -/
def impl_Hysteresis.f (a0 : Bool) (a1 : Int) (a2 : Int) (a3 : Int) : Option (Bool) := if a2 ≥ a3 then (some a0) else (if a1 ≥ a3 then (some true) else (if a1 ≤ a2 then (some false) else (some a0)))
set_option maxHeartbeats 8000000 in
set_option maxRecDepth 100000 in
theorem impl_Hysteresis.calls (a0 : Bool) (a1 : Int) (a2 : Int) (a3 : Int) (r : Bool) (w : World) (h : impl_Hysteresis.f a0 a1 a2 a3 = some r) :
    Calls Try.prog 25 #[.bool a0, .int .i64 a1, .int .i64 a2, .int .i64 a3] w fun e w' => e = .returned (.bool r) ∧ Drawn0 w w' := by
  have H : (if a2 ≥ a3 then (some a0) else (if a1 ≥ a3 then (some true) else (if a1 ≤ a2 then (some false) else (some a0)))) = some r := h
  clear h
  by_cases c5 : a2 ≥ a3
  · rw [if_pos c5] at H
    have c5b0 : decide (a3 ≤ a2) = true := decide_eq_true c5
    clear c5
    obtain rfl := Option.some.inj H
    go_enter Try.func25, Try.ntmps25
    go_wp2
    go_ret
    exact ⟨by first | rfl | (simp; done) | (simp [*]; done), by repeat (first | exact Drawn0.refl _ | apply Drawn0.step)⟩
  · rw [if_neg c5] at H
    have c5b0 : decide (a3 ≤ a2) = false := decide_eq_false c5
    clear c5
    by_cases c6 : a1 ≥ a3
    · rw [if_pos c6] at H
      have c6b0 : decide (a3 ≤ a1) = true := decide_eq_true c6
      clear c6
      obtain rfl := Option.some.inj H
      go_enter Try.func25, Try.ntmps25
      go_wp2
      go_ret
      exact ⟨by first | rfl | (simp; done) | (simp [*]; done), by repeat (first | exact Drawn0.refl _ | apply Drawn0.step)⟩
    · rw [if_neg c6] at H
      have c6b0 : decide (a3 ≤ a1) = false := decide_eq_false c6
      clear c6
      by_cases c7 : a1 ≤ a2
      · rw [if_pos c7] at H
        have c7b0 : decide (a1 ≤ a2) = true := decide_eq_true c7
        clear c7
        obtain rfl := Option.some.inj H
        go_enter Try.func25, Try.ntmps25
        go_wp2
        go_ret
        exact ⟨by first | rfl | (simp; done) | (simp [*]; done), by repeat (first | exact Drawn0.refl _ | apply Drawn0.step)⟩
      · rw [if_neg c7] at H
        have c7b0 : decide (a1 ≤ a2) = false := decide_eq_false c7
        clear c7
        obtain rfl := Option.some.inj H
        go_enter Try.func25, Try.ntmps25
        go_wp2
        go_ret
        exact ⟨by first | rfl | (simp; done) | (simp [*]; done), by repeat (first | exact Drawn0.refl _ | apply Drawn0.step)⟩

/-! ### laws_FnExactHysteresis: function 8 -/
def laws_FnExactHysteresis.f (a0 : Bool) (a1 : Int) (a2 : Int) (a3 : Int) : Option (Bool) := (spec_Hysteresis.f a0 a1 a2 a3).bind fun t101 => ((impl_Hysteresis.f a0 a1 a2 a3).bind fun t102 => (if (t102 != t101) = true then (some false) else (some true)))
set_option maxHeartbeats 8000000 in
set_option maxRecDepth 100000 in
theorem laws_FnExactHysteresis.calls (a0 : Bool) (a1 : Int) (a2 : Int) (a3 : Int) (r : Bool) (w : World) (h : laws_FnExactHysteresis.f a0 a1 a2 a3 = some r) :
    Calls Try.prog 8 #[.bool a0, .int .i64 a1, .int .i64 a2, .int .i64 a3] w fun e w' => e = .returned (.bool r) ∧ Drawn0 w w' := by
  have H : ((spec_Hysteresis.f a0 a1 a2 a3).bind fun t101 => ((impl_Hysteresis.f a0 a1 a2 a3).bind fun t102 => (if (t102 != t101) = true then (some false) else (some true)))) = some r := h
  clear h
  replace H := Option.bind_eq_some_iff.mp H
  obtain ⟨t101, A50, H⟩ := H
  replace H : ((impl_Hysteresis.f a0 a1 a2 a3).bind fun t102 => (if (t102 != t101) = true then (some false) else (some true))) = some r := H
  have A5 := Aside0.mk A50
  clear A50
  replace H := Option.bind_eq_some_iff.mp H
  obtain ⟨t102, A60, H⟩ := H
  replace H : (if (t102 != t101) = true then (some false) else (some true)) = some r := H
  have A6 := Aside0.mk A60
  clear A60
  by_cases c7 : (t102 != t101) = true
  · rw [if_pos c7] at H
    have c7b0 : (t102 != t101) = true := c7
    (try (have c7b1 : decide (t102 = t101) = false := by simpa using c7))
    (try (have c7b2 : (t102 == t101) = false := by simpa using c7))
    (try (have c7b3 : ¬ (t102 = t101) := by simpa using c7))
    clear c7
    obtain rfl := Option.some.inj H
    go_enter Try.func8, Try.ntmps8
    go_wp2_with (first | ((with_reducible refine gate_callee (f := 24) rfl ?_); refine goesL_ (some 15) rfl rfl Try.func24 (by kernel_rfl) rfl #[.bool a0, .int .i64 a1, .int .i64 a2, .int .i64 a3] rfl (by (try simp only [List.map_toArray, List.map_cons, List.map_nil]); first | done | rfl | (simp only [List.length_drop, List.length_take]; rfl)) ?_; (with_reducible refine (spec_Hysteresis.calls a0 a1 a2 a3 t101 _ A5.out).mono ?_); rintro e w' ⟨rfl, ⟨nd, rfl⟩⟩; refine ⟨_, rfl, ?_⟩) | ((with_reducible refine gate_callee (f := 25) rfl ?_); refine goesL_ (some 20) rfl rfl Try.func25 (by kernel_rfl) rfl #[.bool a0, .int .i64 a1, .int .i64 a2, .int .i64 a3] rfl (by (try simp only [List.map_toArray, List.map_cons, List.map_nil]); first | done | rfl | (simp only [List.length_drop, List.length_take]; rfl)) ?_; (with_reducible refine (impl_Hysteresis.calls a0 a1 a2 a3 t102 _ A6.out).mono ?_); rintro e w' ⟨rfl, ⟨nd, rfl⟩⟩; refine ⟨_, rfl, ?_⟩))
    go_ret
    exact ⟨by first | rfl | (simp; done) | (simp [*]; done), by repeat (first | exact Drawn0.refl _ | apply Drawn0.step)⟩
  · rw [if_neg c7] at H
    have c7b0 : (t102 != t101) = false := by simpa using c7
    (try (have c7b1 : decide (t102 = t101) = true := by simpa using c7))
    (try (have c7b2 : (t102 == t101) = true := by simpa using c7))
    clear c7
    obtain rfl := Option.some.inj H
    go_enter Try.func8, Try.ntmps8
    go_wp2_with (first | ((with_reducible refine gate_callee (f := 24) rfl ?_); refine goesL_ (some 15) rfl rfl Try.func24 (by kernel_rfl) rfl #[.bool a0, .int .i64 a1, .int .i64 a2, .int .i64 a3] rfl (by (try simp only [List.map_toArray, List.map_cons, List.map_nil]); first | done | rfl | (simp only [List.length_drop, List.length_take]; rfl)) ?_; (with_reducible refine (spec_Hysteresis.calls a0 a1 a2 a3 t101 _ A5.out).mono ?_); rintro e w' ⟨rfl, ⟨nd, rfl⟩⟩; refine ⟨_, rfl, ?_⟩) | ((with_reducible refine gate_callee (f := 25) rfl ?_); refine goesL_ (some 20) rfl rfl Try.func25 (by kernel_rfl) rfl #[.bool a0, .int .i64 a1, .int .i64 a2, .int .i64 a3] rfl (by (try simp only [List.map_toArray, List.map_cons, List.map_nil]); first | done | rfl | (simp only [List.length_drop, List.length_take]; rfl)) ?_; (with_reducible refine (impl_Hysteresis.calls a0 a1 a2 a3 t102 _ A6.out).mono ?_); rintro e w' ⟨rfl, ⟨nd, rfl⟩⟩; refine ⟨_, rfl, ?_⟩))
    go_ret
    exact ⟨by first | rfl | (simp; done) | (simp [*]; done), by repeat (first | exact Drawn0.refl _ | apply Drawn0.step)⟩

/-- THE ONE PURE STATEMENT of laws_FnExactHysteresis: yours. -/
def laws_FnExactHysteresis.Pure : Prop := ∀ (a0 : Bool) (a1 : Int) (a2 : Int) (a3 : Int), (Lit.int .i64 a1).wf = true → (Lit.int .i64 a2).wf = true → (Lit.int .i64 a3).wf = true → laws_FnExactHysteresis.f a0 a1 a2 a3 = some true
theorem laws_FnExactHysteresis.walk (P : laws_FnExactHysteresis.Pure) (a0 : Bool) (a1 : Int) (a2 : Int) (a3 : Int) (w : World) (w1 : (Lit.int .i64 a1).wf = true) (w2 : (Lit.int .i64 a2).wf = true) (w3 : (Lit.int .i64 a3).wf = true) :
    Calls Try.prog 8 #[.bool a0, .int .i64 a1, .int .i64 a2, .int .i64 a3] w fun e w' => e = .returned (.bool true) ∧ Below w.heap.size w w' := by
  have h := P a0 a1 a2 a3 w1 w2 w3
  refine (laws_FnExactHysteresis.calls a0 a1 a2 a3 true w h).mono ?_
  rintro e w' ⟨rfl, hd⟩
  exact ⟨rfl, hd.below⟩

end Go.Proofs.Ytdcjbnedbohofaa.PFnExactHysteresis

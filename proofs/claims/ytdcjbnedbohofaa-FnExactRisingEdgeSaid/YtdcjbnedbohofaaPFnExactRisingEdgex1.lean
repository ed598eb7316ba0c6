-- PRINTED BY print.sh 35421559b90ae4d0a3588c463048766b98c2df88dd9212a6774a882060cdf62d: not written by this session
import Derived.Test.YtdcjbnedbohofaaPFnExactRisingEdgex0
namespace Go.Proofs.Ytdcjbnedbohofaa.PFnExactRisingEdge
open Go.RowKit Go.Proofs.YtdcjbnedbohofaaW.PrintWords Go.Proofs.YtdcjbnedbohofaaW.PrintLast Go.Proofs.YtdcjbnedbohofaaW.PrintMore
attribute [local go_sem] max2_int min2_int max_two min_two max_three min_three max_four min_four   -- for this text's walks alone
set_option linter.unusedVariables false
set_option linter.unusedSimpArgs false

/-! ### spec_RisingEdge: function 17 -/
def spec_RisingEdge.f (a0 : Bool) (a1 : Bool) : Option (Bool) := if a1 = true then (some (!a0)) else (some false)
set_option maxHeartbeats 8000000 in
set_option maxRecDepth 100000 in
theorem spec_RisingEdge.calls (a0 : Bool) (a1 : Bool) (r : Bool) (w : World) (h : spec_RisingEdge.f a0 a1 = some r) :
    Calls Try.prog 17 #[.bool a0, .bool a1] w fun e w' => e = .returned (.bool r) ∧ Drawn0 w w' := by
  have H : (if a1 = true then (some (!a0)) else (some false)) = some r := h
  clear h
  by_cases c3 : a1 = true
  · subst c3
    have H1 : (some (!a0)) = some r := by rw [if_pos rfl] at H; exact H
    clear H
    have H := H1
    clear H1
    obtain rfl := Option.some.inj H
    go_enter Try.func17, Try.ntmps17
    go_wp2
    go_ret
    exact ⟨by first | rfl | (simp; done) | (simp [*]; done), by repeat (first | exact Drawn0.refl _ | apply Drawn0.step)⟩
  · replace c3 := Bool.eq_false_iff.mpr c3
    subst c3
    have H1 : (some false) = some r := by rw [if_neg (show ¬ (false = true) by decide)] at H; exact H
    clear H
    have H := H1
    clear H1
    obtain rfl := Option.some.inj H
    go_enter Try.func17, Try.ntmps17
    go_wp2
    go_ret
    exact ⟨by first | rfl | (simp; done) | (simp [*]; done), by repeat (first | exact Drawn0.refl _ | apply Drawn0.step)⟩

/-! ### impl_RisingEdge: function 18 -/
def impl_RisingEdge.f (a0 : Bool) (a1 : Bool) : Option (Bool) := if a1 = true then (some (!a0)) else (some false)
set_option maxHeartbeats 8000000 in
set_option maxRecDepth 100000 in
theorem impl_RisingEdge.calls (a0 : Bool) (a1 : Bool) (r : Bool) (w : World) (h : impl_RisingEdge.f a0 a1 = some r) :
    Calls Try.prog 18 #[.bool a0, .bool a1] w fun e w' => e = .returned (.bool r) ∧ Drawn0 w w' := by
  have H : (if a1 = true then (some (!a0)) else (some false)) = some r := h
  clear h
  by_cases c3 : a1 = true
  · subst c3
    have H1 : (some (!a0)) = some r := by rw [if_pos rfl] at H; exact H
    clear H
    have H := H1
    clear H1
    obtain rfl := Option.some.inj H
    go_enter Try.func18, Try.ntmps18
    go_wp2
    go_ret
    exact ⟨by first | rfl | (simp; done) | (simp [*]; done), by repeat (first | exact Drawn0.refl _ | apply Drawn0.step)⟩
  · replace c3 := Bool.eq_false_iff.mpr c3
    subst c3
    have H1 : (some false) = some r := by rw [if_neg (show ¬ (false = true) by decide)] at H; exact H
    clear H
    have H := H1
    clear H1
    obtain rfl := Option.some.inj H
    go_enter Try.func18, Try.ntmps18
    go_wp2
    go_ret
    exact ⟨by first | rfl | (simp; done) | (simp [*]; done), by repeat (first | exact Drawn0.refl _ | apply Drawn0.step)⟩

/-! ### laws_FnExactRisingEdge: function 5 -/
def laws_FnExactRisingEdge.f (a0 : Bool) (a1 : Bool) : Option (Bool) := (spec_RisingEdge.f a0 a1).bind fun t101 => ((impl_RisingEdge.f a0 a1).bind fun t102 => (if (t102 != t101) = true then (some false) else (some true)))
set_option maxHeartbeats 8000000 in
set_option maxRecDepth 100000 in
theorem laws_FnExactRisingEdge.calls (a0 : Bool) (a1 : Bool) (r : Bool) (w : World) (h : laws_FnExactRisingEdge.f a0 a1 = some r) :
    Calls Try.prog 5 #[.bool a0, .bool a1] w fun e w' => e = .returned (.bool r) ∧ Drawn0 w w' := by
  have H : ((spec_RisingEdge.f a0 a1).bind fun t101 => ((impl_RisingEdge.f a0 a1).bind fun t102 => (if (t102 != t101) = true then (some false) else (some true)))) = some r := h
  clear h
  replace H := Option.bind_eq_some_iff.mp H
  obtain ⟨t101, A30, H⟩ := H
  replace H : ((impl_RisingEdge.f a0 a1).bind fun t102 => (if (t102 != t101) = true then (some false) else (some true))) = some r := H
  have A3 := Aside0.mk A30
  clear A30
  replace H := Option.bind_eq_some_iff.mp H
  obtain ⟨t102, A40, H⟩ := H
  replace H : (if (t102 != t101) = true then (some false) else (some true)) = some r := H
  have A4 := Aside0.mk A40
  clear A40
  by_cases c5 : (t102 != t101) = true
  · rw [if_pos c5] at H
    have c5b0 : (t102 != t101) = true := c5
    (try (have c5b1 : decide (t102 = t101) = false := by simpa using c5))
    (try (have c5b2 : (t102 == t101) = false := by simpa using c5))
    (try (have c5b3 : ¬ (t102 = t101) := by simpa using c5))
    clear c5
    obtain rfl := Option.some.inj H
    go_enter Try.func5, Try.ntmps5
    go_wp2_with (first | ((with_reducible refine gate_callee (f := 17) rfl ?_); refine goesL_ (some 9) rfl rfl Try.func17 (by kernel_rfl) rfl #[.bool a0, .bool a1] rfl (by (try simp only [List.map_toArray, List.map_cons, List.map_nil]); first | done | rfl | (simp only [List.length_drop, List.length_take]; rfl)) ?_; (with_reducible refine (spec_RisingEdge.calls a0 a1 t101 _ A3.out).mono ?_); rintro e w' ⟨rfl, ⟨nd, rfl⟩⟩; refine ⟨_, rfl, ?_⟩) | ((with_reducible refine gate_callee (f := 18) rfl ?_); refine goesL_ (some 12) rfl rfl Try.func18 (by kernel_rfl) rfl #[.bool a0, .bool a1] rfl (by (try simp only [List.map_toArray, List.map_cons, List.map_nil]); first | done | rfl | (simp only [List.length_drop, List.length_take]; rfl)) ?_; (with_reducible refine (impl_RisingEdge.calls a0 a1 t102 _ A4.out).mono ?_); rintro e w' ⟨rfl, ⟨nd, rfl⟩⟩; refine ⟨_, rfl, ?_⟩))
    go_ret
    exact ⟨by first | rfl | (simp; done) | (simp [*]; done), by repeat (first | exact Drawn0.refl _ | apply Drawn0.step)⟩
  · rw [if_neg c5] at H
    have c5b0 : (t102 != t101) = false := by simpa using c5
    (try (have c5b1 : decide (t102 = t101) = true := by simpa using c5))
    (try (have c5b2 : (t102 == t101) = true := by simpa using c5))
    clear c5
    obtain rfl := Option.some.inj H
    go_enter Try.func5, Try.ntmps5
    go_wp2_with (first | ((with_reducible refine gate_callee (f := 17) rfl ?_); refine goesL_ (some 9) rfl rfl Try.func17 (by kernel_rfl) rfl #[.bool a0, .bool a1] rfl (by (try simp only [List.map_toArray, List.map_cons, List.map_nil]); first | done | rfl | (simp only [List.length_drop, List.length_take]; rfl)) ?_; (with_reducible refine (spec_RisingEdge.calls a0 a1 t101 _ A3.out).mono ?_); rintro e w' ⟨rfl, ⟨nd, rfl⟩⟩; refine ⟨_, rfl, ?_⟩) | ((with_reducible refine gate_callee (f := 18) rfl ?_); refine goesL_ (some 12) rfl rfl Try.func18 (by kernel_rfl) rfl #[.bool a0, .bool a1] rfl (by (try simp only [List.map_toArray, List.map_cons, List.map_nil]); first | done | rfl | (simp only [List.length_drop, List.length_take]; rfl)) ?_; (with_reducible refine (impl_RisingEdge.calls a0 a1 t102 _ A4.out).mono ?_); rintro e w' ⟨rfl, ⟨nd, rfl⟩⟩; refine ⟨_, rfl, ?_⟩))
    go_ret
    exact ⟨by first | rfl | (simp; done) | (simp [*]; done), by repeat (first | exact Drawn0.refl _ | apply Drawn0.step)⟩

/-- THE ONE PURE STATEMENT of laws_FnExactRisingEdge: yours. -/
def laws_FnExactRisingEdge.Pure : Prop := ∀ (a0 : Bool) (a1 : Bool), laws_FnExactRisingEdge.f a0 a1 = some true
theorem laws_FnExactRisingEdge.walk (P : laws_FnExactRisingEdge.Pure) (a0 : Bool) (a1 : Bool) (w : World)  :
    Calls Try.prog 5 #[.bool a0, .bool a1] w fun e w' => e = .returned (.bool true) ∧ Below w.heap.size w w' := by
  have h := P a0 a1 
  refine (laws_FnExactRisingEdge.calls a0 a1 true w h).mono ?_
  rintro e w' ⟨rfl, hd⟩
  exact ⟨rfl, hd.below⟩

end Go.Proofs.Ytdcjbnedbohofaa.PFnExactRisingEdge

/- Functions of the program as Lean functions, with proofs that the machine comes to their answers; written by this session's program mkprint.py; no condition beyond each theorem's own. -/
import Derived.Test.YtimmlippglpmnaaGFnExactScaleWordx0
namespace Go.Proofs.Ytimmlippglpmnaa.GFnExactScaleWord
open Go.RowKit Go.Proofs.YtimmlippglpmnaaV.PrintWords Go.Proofs.YtimmlippglpmnaaV.PrintLast Go.Proofs.YtimmlippglpmnaaV.PrintMore
attribute [local go_sem] max2_int min2_int max_two min_two max_three min_three max_four min_four   -- for this text's walks alone
set_option linter.unusedVariables false
set_option linter.unusedSimpArgs false

/-! ### spec_l1In: function 57 -/
def spec_l1In.f (a0 : Int) (a1 : Int) (a2 : Int) : Option (Bool) := if a0 ≥ a1 then (some (decide (a0 ≤ a2))) else (some false)
set_option maxHeartbeats 8000000 in
set_option maxRecDepth 100000 in
theorem spec_l1In.calls (a0 : Int) (a1 : Int) (a2 : Int) (r : Bool) (w : World) (h : spec_l1In.f a0 a1 a2 = some r) :
    Calls Try.prog 57 #[.int .i64 a0, .int .i64 a1, .int .i64 a2] w fun e w' => e = .returned (.bool r) ∧ Drawn0 w w' := by
  have H : (if a0 ≥ a1 then (some (decide (a0 ≤ a2))) else (some false)) = some r := h
  clear h
  by_cases c4 : a0 ≥ a1
  · rw [if_pos c4] at H
    have c4b0 : decide (a1 ≤ a0) = true := decide_eq_true c4
    clear c4
    obtain rfl := Option.some.inj H
    go_enter Try.func57, Try.ntmps57
    go_wp2
    go_ret
    exact ⟨by first | rfl | (simp; done) | (simp [*]; done), by repeat (first | exact Drawn0.refl _ | apply Drawn0.step)⟩
  · rw [if_neg c4] at H
    have c4b0 : decide (a1 ≤ a0) = false := decide_eq_false c4
    clear c4
    obtain rfl := Option.some.inj H
    go_enter Try.func57, Try.ntmps57
    go_wp2
    go_ret
    exact ⟨by first | rfl | (simp; done) | (simp [*]; done), by repeat (first | exact Drawn0.refl _ | apply Drawn0.step)⟩

/-! ### spec_l7Word: function 53 -/
def spec_l7Word.f (a0 : Int) : Option (Bool) := (spec_l1In.f a0 (-32768) 32767).bind fun t101 => (some t101)
set_option maxHeartbeats 8000000 in
set_option maxRecDepth 100000 in
theorem spec_l7Word.calls (a0 : Int) (r : Bool) (w : World) (h : spec_l7Word.f a0 = some r) :
    Calls Try.prog 53 #[.int .i64 a0] w fun e w' => e = .returned (.bool r) ∧ Drawn0 w w' := by
  have H : ((spec_l1In.f a0 (-32768) 32767).bind fun t101 => (some t101)) = some r := h
  clear h
  replace H := Option.bind_eq_some_iff.mp H
  obtain ⟨t101, A20, H⟩ := H
  replace H : (some t101) = some r := H
  have A2 := Aside0.mk A20
  clear A20
  obtain rfl := Option.some.inj H
  go_enter Try.func53, Try.ntmps53
  go_wp2_with (first | ((with_reducible refine gate_callee (f := 57) rfl ?_); refine goesL_ (some 4) rfl rfl Try.func57 (by kernel_rfl) rfl #[.int .i64 a0, .int .i64 (-32768), .int .i64 32767] rfl (by (try simp only [List.map_toArray, List.map_cons, List.map_nil]); first | done | rfl | (simp only [List.length_drop, List.length_take]; rfl)) ?_; (with_reducible refine (spec_l1In.calls a0 (-32768) 32767 t101 _ A2.out).mono ?_); rintro e w' ⟨rfl, ⟨nd, rfl⟩⟩; refine ⟨_, rfl, ?_⟩))
  go_ret
  exact ⟨by first | rfl | (simp; done) | (simp [*]; done), by repeat (first | exact Drawn0.refl _ | apply Drawn0.step)⟩

/-! ### spec_l1Clip: function 54 -/
def spec_l1Clip.f (a0 : Int) (a1 : Int) (a2 : Int) : Option (Int) := some (mx a1 (mn a2 a0))
set_option maxHeartbeats 8000000 in
set_option maxRecDepth 100000 in
theorem spec_l1Clip.calls (a0 : Int) (a1 : Int) (a2 : Int) (r : Int) (w : World) (h : spec_l1Clip.f a0 a1 a2 = some r) :
    Calls Try.prog 54 #[.int .i64 a0, .int .i64 a1, .int .i64 a2] w fun e w' => e = .returned (.int .i64 r) ∧ Below w.heap.size w w' := by
  have HB := Aside0.mk (Below.refl w.heap.size w)
  have H : (some (mx a1 (mn a2 a0))) = some r := h
  clear h
  obtain ⟨ji4, hji4⟩ : ∃ j_ : Int, (mn a2 a0) = j_ := ⟨_, rfl⟩
  replace H : (some (mx a1 (ji4))) = some r := by first | (rw [hji4] at H; exact H) | (simp only [hji4] at H ⊢; exact H)
  have hji4_ : (if a0 < a2 then a0 else a2) = ji4 := hji4
  obtain ⟨ji5, hji5⟩ : ∃ j_ : Int, (mx a1 (ji4)) = j_ := ⟨_, rfl⟩
  replace H : (some ji5) = some r := by first | (rw [hji5] at H; exact H) | (simp only [hji5] at H ⊢; exact H)
  have hji5_ : (if a1 < (ji4) then (ji4) else a1) = ji5 := hji5
  obtain rfl := Option.some.inj H
  go_enter Try.func54, Try.ntmps54
  go_wp2
  go_ret
  exact ⟨by first | rfl | (simp [errW_none, errW_some] <;> rfl) | (simp only [← hji4, ← hji5]; first | rfl | (simp [errW_none, errW_some] <;> rfl)) | (simp [*, errW_none, errW_some] <;> rfl), by repeat (first | (with_reducible first | exact HB.out | apply below_alloc | apply pw_below_drewN | apply below_drew1) | exact HB.out)⟩

/-! ### spec_l7Floor: function 61 -/
def spec_l7Floor.f (a0 : Int) (a1 : Int) : Option (Int) := if a1 = 0 then (none) else (if (Int.tmod a0 a1) < 0 then (some (wrap64 ((wrap64 (Int.tdiv a0 a1)) - 1))) else (some (wrap64 (Int.tdiv a0 a1))))
set_option maxHeartbeats 8000000 in
set_option maxRecDepth 100000 in
theorem spec_l7Floor.calls (a0 : Int) (a1 : Int) (r : Int) (w : World) (h : spec_l7Floor.f a0 a1 = some r) :
    Calls Try.prog 61 #[.int .i64 a0, .int .i64 a1] w fun e w' => e = .returned (.int .i64 r) ∧ Drawn0 w w' := by
  have H : (if a1 = 0 then (none) else (if (Int.tmod a0 a1) < 0 then (some (wrap64 ((wrap64 (Int.tdiv a0 a1)) - 1))) else (some (wrap64 (Int.tdiv a0 a1))))) = some r := h
  clear h
  by_cases c3 : a1 = 0
  · rw [if_pos c3] at H
    exact absurd H (by simp)
  · rw [if_neg c3] at H
    have c3b0 : (a1 == 0) = false := beq_eq_false_iff_ne.mpr c3
    have c3b1 : (a1 != 0) = true := bne_iff_ne.mpr c3
    by_cases c4 : (Int.tmod a0 a1) < 0
    · rw [if_pos c4] at H
      have c4b0 : decide ((Int.tmod a0 a1) < 0) = true := decide_eq_true c4
      clear c4
      obtain rfl := Option.some.inj H
      go_enter Try.func61, Try.ntmps61
      go_wp2
      go_ret
      exact ⟨by first | rfl | (simp; done) | (simp [*]; done), by repeat (first | exact Drawn0.refl _ | apply Drawn0.step)⟩
    · rw [if_neg c4] at H
      have c4b0 : decide ((Int.tmod a0 a1) < 0) = false := decide_eq_false c4
      clear c4
      obtain rfl := Option.some.inj H
      go_enter Try.func61, Try.ntmps61
      go_wp2
      go_ret
      exact ⟨by first | rfl | (simp; done) | (simp [*]; done), by repeat (first | exact Drawn0.refl _ | apply Drawn0.step)⟩

/-! ### spec_ScaleWord: function 26 -/
def spec_ScaleWord.j0 : Nat → Int → Int → Int → Int → Int → Bool → Option (Int)
  | 0, _, _, _, _, _, _ => none
  | k + 1, x0, x1, x2, x3, x4, x38 => if x38 = true then (some 0) else ((spec_l1Clip.f x0 x1 x2).bind fun t107 => ((spec_l7Floor.f (wrap64 ((wrap64 (t107 - x1)) * (wrap64 (x4 - x3)))) (wrap64 (x2 - x1))).bind fun t108 => (some (wrap64 (x3 + t108)))))
def spec_ScaleWord.f (k : Nat) (a0 : Int) (a1 : Int) (a2 : Int) (a3 : Int) (a4 : Int) : Option (Int) := (spec_l7Word.f a0).bind fun t102 => (if t102 = true then ((spec_l7Word.f a1).bind fun t103 => (if t103 = true then ((spec_l7Word.f a2).bind fun t104 => (if t104 = true then ((spec_l7Word.f a3).bind fun t105 => (if t105 = true then ((spec_l7Word.f a4).bind fun t106 => (if t106 = true then (spec_ScaleWord.j0 k a0 a1 a2 a3 a4 (decide (a1 ≥ a2))) else (spec_ScaleWord.j0 k a0 a1 a2 a3 a4 true))) else (spec_ScaleWord.j0 k a0 a1 a2 a3 a4 true))) else (spec_ScaleWord.j0 k a0 a1 a2 a3 a4 true))) else (spec_ScaleWord.j0 k a0 a1 a2 a3 a4 true))) else (spec_ScaleWord.j0 k a0 a1 a2 a3 a4 true))
theorem spec_ScaleWord.mono_l : ∀ k, (∀ y0 y1 y2 y3 y4 y5, LeO (spec_ScaleWord.j0 k y0 y1 y2 y3 y4 y5) (spec_ScaleWord.j0 (k + 1) y0 y1 y2 y3 y4 y5))
  | 0 => fun _ _ _ _ _ _ r h => by simp [spec_ScaleWord.j0] at h
  | k + 1 => by
    have ih0 := spec_ScaleWord.mono_l k
    · intro y0 y1 y2 y3 y4 y5
      unfold spec_ScaleWord.j0
      repeat' first
      | (with_reducible exact ih0 _ _ _ _ _ _)
      | (with_reducible exact LeO.refl _)
      | (with_reducible exact LeO.none _)
      | (with_reducible refine LeO.ite ?_ ?_)
      | (with_reducible refine LeO.bind ?_ (fun _ => ?_))
      | exact ih0 _ _ _ _ _ _
      | exact LeO.none _
      | refine LeO.ite ?_ ?_
      | refine LeO.bind ?_ (fun _ => ?_)
theorem spec_ScaleWord.mono : ∀ a0 a1 a2 a3 a4 k, LeO (spec_ScaleWord.f k a0 a1 a2 a3 a4) (spec_ScaleWord.f (k + 1) a0 a1 a2 a3 a4) := by
  intro a0 a1 a2 a3 a4 k
  have ih0 := spec_ScaleWord.mono_l k
  unfold spec_ScaleWord.f
  repeat' first
      | (with_reducible exact ih0 _ _ _ _ _ _)
      | (with_reducible exact LeO.refl _)
      | (with_reducible exact LeO.none _)
      | (with_reducible refine LeO.ite ?_ ?_)
      | (with_reducible refine LeO.bind ?_ (fun _ => ?_))
      | exact ih0 _ _ _ _ _ _
      | exact LeO.none _
      | refine LeO.ite ?_ ?_
      | refine LeO.bind ?_ (fun _ => ?_)
set_option maxHeartbeats 8000000 in
set_option maxRecDepth 100000 in
theorem spec_ScaleWord.calls (k : Nat) (a0 : Int) (a1 : Int) (a2 : Int) (a3 : Int) (a4 : Int) (r : Int) (w : World) (h : spec_ScaleWord.f k a0 a1 a2 a3 a4 = some r) :
    Calls Try.prog 26 #[.int .i64 a0, .int .i64 a1, .int .i64 a2, .int .i64 a3, .int .i64 a4] w fun e w' => e = .returned (.int .i64 r) ∧ Below w.heap.size w w' := by
  have HB := Aside0.mk (Below.refl w.heap.size w)
  have H : ((spec_l7Word.f a0).bind fun t102 => (if t102 = true then ((spec_l7Word.f a1).bind fun t103 => (if t103 = true then ((spec_l7Word.f a2).bind fun t104 => (if t104 = true then ((spec_l7Word.f a3).bind fun t105 => (if t105 = true then ((spec_l7Word.f a4).bind fun t106 => (if t106 = true then (spec_ScaleWord.j0 k a0 a1 a2 a3 a4 (decide (a1 ≥ a2))) else (spec_ScaleWord.j0 k a0 a1 a2 a3 a4 true))) else (spec_ScaleWord.j0 k a0 a1 a2 a3 a4 true))) else (spec_ScaleWord.j0 k a0 a1 a2 a3 a4 true))) else (spec_ScaleWord.j0 k a0 a1 a2 a3 a4 true))) else (spec_ScaleWord.j0 k a0 a1 a2 a3 a4 true))) = some r := h
  clear h
  have HC6 := Aside0.mk H
  clear H
  go_enter Try.func26, Try.ntmps26
  go_upto_region 1 with (fail)
  go_cut [38] (fun v38 wc => ∃ (kq : Nat) (x38_5 : Bool), v38 = .bool x38_5 ∧ Aside0 (spec_ScaleWord.j0 kq a0 a1 a2 a3 a4 x38_5 = some r) ∧ Aside0 (kq ≤ k) ∧ Aside0 (Below w.heap.size w wc))
  case first =>
    have H := HC6.out
    clear HC6
    replace H := Option.bind_eq_some_iff.mp H
    obtain ⟨t102, A70, H⟩ := H
    replace H : (if t102 = true then ((spec_l7Word.f a1).bind fun t103 => (if t103 = true then ((spec_l7Word.f a2).bind fun t104 => (if t104 = true then ((spec_l7Word.f a3).bind fun t105 => (if t105 = true then ((spec_l7Word.f a4).bind fun t106 => (if t106 = true then (spec_ScaleWord.j0 k a0 a1 a2 a3 a4 (decide (a1 ≥ a2))) else (spec_ScaleWord.j0 k a0 a1 a2 a3 a4 true))) else (spec_ScaleWord.j0 k a0 a1 a2 a3 a4 true))) else (spec_ScaleWord.j0 k a0 a1 a2 a3 a4 true))) else (spec_ScaleWord.j0 k a0 a1 a2 a3 a4 true))) else (spec_ScaleWord.j0 k a0 a1 a2 a3 a4 true)) = some r := H
    have A7 := Aside0.mk A70
    clear A70
    by_cases c8 : t102 = true
    · subst c8
      have H1 : ((spec_l7Word.f a1).bind fun t103 => (if t103 = true then ((spec_l7Word.f a2).bind fun t104 => (if t104 = true then ((spec_l7Word.f a3).bind fun t105 => (if t105 = true then ((spec_l7Word.f a4).bind fun t106 => (if t106 = true then (spec_ScaleWord.j0 k a0 a1 a2 a3 a4 (decide (a1 ≥ a2))) else (spec_ScaleWord.j0 k a0 a1 a2 a3 a4 true))) else (spec_ScaleWord.j0 k a0 a1 a2 a3 a4 true))) else (spec_ScaleWord.j0 k a0 a1 a2 a3 a4 true))) else (spec_ScaleWord.j0 k a0 a1 a2 a3 a4 true))) = some r := by rw [if_pos rfl] at H; exact H
      clear H
      have H := H1
      clear H1
      replace H := Option.bind_eq_some_iff.mp H
      obtain ⟨t103, A90, H⟩ := H
      replace H : (if t103 = true then ((spec_l7Word.f a2).bind fun t104 => (if t104 = true then ((spec_l7Word.f a3).bind fun t105 => (if t105 = true then ((spec_l7Word.f a4).bind fun t106 => (if t106 = true then (spec_ScaleWord.j0 k a0 a1 a2 a3 a4 (decide (a1 ≥ a2))) else (spec_ScaleWord.j0 k a0 a1 a2 a3 a4 true))) else (spec_ScaleWord.j0 k a0 a1 a2 a3 a4 true))) else (spec_ScaleWord.j0 k a0 a1 a2 a3 a4 true))) else (spec_ScaleWord.j0 k a0 a1 a2 a3 a4 true)) = some r := H
      have A9 := Aside0.mk A90
      clear A90
      by_cases c10 : t103 = true
      · subst c10
        have H1 : ((spec_l7Word.f a2).bind fun t104 => (if t104 = true then ((spec_l7Word.f a3).bind fun t105 => (if t105 = true then ((spec_l7Word.f a4).bind fun t106 => (if t106 = true then (spec_ScaleWord.j0 k a0 a1 a2 a3 a4 (decide (a1 ≥ a2))) else (spec_ScaleWord.j0 k a0 a1 a2 a3 a4 true))) else (spec_ScaleWord.j0 k a0 a1 a2 a3 a4 true))) else (spec_ScaleWord.j0 k a0 a1 a2 a3 a4 true))) = some r := by rw [if_pos rfl] at H; exact H
        clear H
        have H := H1
        clear H1
        replace H := Option.bind_eq_some_iff.mp H
        obtain ⟨t104, A110, H⟩ := H
        replace H : (if t104 = true then ((spec_l7Word.f a3).bind fun t105 => (if t105 = true then ((spec_l7Word.f a4).bind fun t106 => (if t106 = true then (spec_ScaleWord.j0 k a0 a1 a2 a3 a4 (decide (a1 ≥ a2))) else (spec_ScaleWord.j0 k a0 a1 a2 a3 a4 true))) else (spec_ScaleWord.j0 k a0 a1 a2 a3 a4 true))) else (spec_ScaleWord.j0 k a0 a1 a2 a3 a4 true)) = some r := H
        have A11 := Aside0.mk A110
        clear A110
        by_cases c12 : t104 = true
        · subst c12
          have H1 : ((spec_l7Word.f a3).bind fun t105 => (if t105 = true then ((spec_l7Word.f a4).bind fun t106 => (if t106 = true then (spec_ScaleWord.j0 k a0 a1 a2 a3 a4 (decide (a1 ≥ a2))) else (spec_ScaleWord.j0 k a0 a1 a2 a3 a4 true))) else (spec_ScaleWord.j0 k a0 a1 a2 a3 a4 true))) = some r := by rw [if_pos rfl] at H; exact H
          clear H
          have H := H1
          clear H1
          replace H := Option.bind_eq_some_iff.mp H
          obtain ⟨t105, A130, H⟩ := H
          replace H : (if t105 = true then ((spec_l7Word.f a4).bind fun t106 => (if t106 = true then (spec_ScaleWord.j0 k a0 a1 a2 a3 a4 (decide (a1 ≥ a2))) else (spec_ScaleWord.j0 k a0 a1 a2 a3 a4 true))) else (spec_ScaleWord.j0 k a0 a1 a2 a3 a4 true)) = some r := H
          have A13 := Aside0.mk A130
          clear A130
          by_cases c14 : t105 = true
          · subst c14
            have H1 : ((spec_l7Word.f a4).bind fun t106 => (if t106 = true then (spec_ScaleWord.j0 k a0 a1 a2 a3 a4 (decide (a1 ≥ a2))) else (spec_ScaleWord.j0 k a0 a1 a2 a3 a4 true))) = some r := by rw [if_pos rfl] at H; exact H
            clear H
            have H := H1
            clear H1
            replace H := Option.bind_eq_some_iff.mp H
            obtain ⟨t106, A150, H⟩ := H
            replace H : (if t106 = true then (spec_ScaleWord.j0 k a0 a1 a2 a3 a4 (decide (a1 ≥ a2))) else (spec_ScaleWord.j0 k a0 a1 a2 a3 a4 true)) = some r := H
            have A15 := Aside0.mk A150
            clear A150
            by_cases c16 : t106 = true
            · subst c16
              have H1 : (spec_ScaleWord.j0 k a0 a1 a2 a3 a4 (decide (a1 ≥ a2))) = some r := by rw [if_pos rfl] at H; exact H
              clear H
              have H := H1
              clear H1
              have H' := Aside0.mk H
              clear H
              go_wp2_with (first | ((with_reducible refine gate_callee (f := 53) rfl ?_); refine goesL_ (some 12) rfl rfl Try.func53 (by kernel_rfl) rfl #[.int .i64 a0] rfl (by (try simp only [List.map_toArray, List.map_cons, List.map_nil]); first | done | rfl | (simp only [List.length_drop, List.length_take]; rfl)) ?_; (with_reducible refine (spec_l7Word.calls a0 true _ A7.out).mono ?_); rintro e w' ⟨rfl, ⟨nd, rfl⟩⟩; refine ⟨_, rfl, ?_⟩) | (go_at_call 53; (with_reducible refine (spec_l7Word.calls a1 true _ A9.out).mono ?_); rintro e w' ⟨rfl, ⟨nd, rfl⟩⟩) | (go_at_call 53; (with_reducible refine (spec_l7Word.calls a2 true _ A11.out).mono ?_); rintro e w' ⟨rfl, ⟨nd, rfl⟩⟩) | (go_at_call 53; (with_reducible refine (spec_l7Word.calls a3 true _ A13.out).mono ?_); rintro e w' ⟨rfl, ⟨nd, rfl⟩⟩) | (go_at_call 53; (with_reducible refine (spec_l7Word.calls a4 true _ A15.out).mono ?_); rintro e w' ⟨rfl, ⟨nd, rfl⟩⟩))
              go_meet
              case rel => exact ⟨_, (decide (a1 ≥ a2)), (by first | rfl | (simp; done) | (simp [*]; done)), H', ⟨by first | omega | exact Nat.le_refl _⟩, ⟨by repeat (first | (with_reducible first | exact HB.out | apply below_alloc | apply pw_below_drewN | apply below_drew1) | exact HB.out)⟩⟩
            · replace c16 := Bool.eq_false_iff.mpr c16
              subst c16
              have H1 : (spec_ScaleWord.j0 k a0 a1 a2 a3 a4 true) = some r := by rw [if_neg (show ¬ (false = true) by decide)] at H; exact H
              clear H
              have H := H1
              clear H1
              have H' := Aside0.mk H
              clear H
              go_wp2_with (first | ((with_reducible refine gate_callee (f := 53) rfl ?_); refine goesL_ (some 12) rfl rfl Try.func53 (by kernel_rfl) rfl #[.int .i64 a0] rfl (by (try simp only [List.map_toArray, List.map_cons, List.map_nil]); first | done | rfl | (simp only [List.length_drop, List.length_take]; rfl)) ?_; (with_reducible refine (spec_l7Word.calls a0 true _ A7.out).mono ?_); rintro e w' ⟨rfl, ⟨nd, rfl⟩⟩; refine ⟨_, rfl, ?_⟩) | (go_at_call 53; (with_reducible refine (spec_l7Word.calls a1 true _ A9.out).mono ?_); rintro e w' ⟨rfl, ⟨nd, rfl⟩⟩) | (go_at_call 53; (with_reducible refine (spec_l7Word.calls a2 true _ A11.out).mono ?_); rintro e w' ⟨rfl, ⟨nd, rfl⟩⟩) | (go_at_call 53; (with_reducible refine (spec_l7Word.calls a3 true _ A13.out).mono ?_); rintro e w' ⟨rfl, ⟨nd, rfl⟩⟩) | (go_at_call 53; (with_reducible refine (spec_l7Word.calls a4 false _ A15.out).mono ?_); rintro e w' ⟨rfl, ⟨nd, rfl⟩⟩))
              go_meet
              case rel => exact ⟨_, (true), (by first | rfl | (simp; done) | (simp [*]; done)), H', ⟨by first | omega | exact Nat.le_refl _⟩, ⟨by repeat (first | (with_reducible first | exact HB.out | apply below_alloc | apply pw_below_drewN | apply below_drew1) | exact HB.out)⟩⟩
          · replace c14 := Bool.eq_false_iff.mpr c14
            subst c14
            have H1 : (spec_ScaleWord.j0 k a0 a1 a2 a3 a4 true) = some r := by rw [if_neg (show ¬ (false = true) by decide)] at H; exact H
            clear H
            have H := H1
            clear H1
            have H' := Aside0.mk H
            clear H
            go_wp2_with (first | ((with_reducible refine gate_callee (f := 53) rfl ?_); refine goesL_ (some 12) rfl rfl Try.func53 (by kernel_rfl) rfl #[.int .i64 a0] rfl (by (try simp only [List.map_toArray, List.map_cons, List.map_nil]); first | done | rfl | (simp only [List.length_drop, List.length_take]; rfl)) ?_; (with_reducible refine (spec_l7Word.calls a0 true _ A7.out).mono ?_); rintro e w' ⟨rfl, ⟨nd, rfl⟩⟩; refine ⟨_, rfl, ?_⟩) | (go_at_call 53; (with_reducible refine (spec_l7Word.calls a1 true _ A9.out).mono ?_); rintro e w' ⟨rfl, ⟨nd, rfl⟩⟩) | (go_at_call 53; (with_reducible refine (spec_l7Word.calls a2 true _ A11.out).mono ?_); rintro e w' ⟨rfl, ⟨nd, rfl⟩⟩) | (go_at_call 53; (with_reducible refine (spec_l7Word.calls a3 false _ A13.out).mono ?_); rintro e w' ⟨rfl, ⟨nd, rfl⟩⟩))
            go_meet
            case rel => exact ⟨_, (true), (by first | rfl | (simp; done) | (simp [*]; done)), H', ⟨by first | omega | exact Nat.le_refl _⟩, ⟨by repeat (first | (with_reducible first | exact HB.out | apply below_alloc | apply pw_below_drewN | apply below_drew1) | exact HB.out)⟩⟩
        · replace c12 := Bool.eq_false_iff.mpr c12
          subst c12
          have H1 : (spec_ScaleWord.j0 k a0 a1 a2 a3 a4 true) = some r := by rw [if_neg (show ¬ (false = true) by decide)] at H; exact H
          clear H
          have H := H1
          clear H1
          have H' := Aside0.mk H
          clear H
          go_wp2_with (first | ((with_reducible refine gate_callee (f := 53) rfl ?_); refine goesL_ (some 12) rfl rfl Try.func53 (by kernel_rfl) rfl #[.int .i64 a0] rfl (by (try simp only [List.map_toArray, List.map_cons, List.map_nil]); first | done | rfl | (simp only [List.length_drop, List.length_take]; rfl)) ?_; (with_reducible refine (spec_l7Word.calls a0 true _ A7.out).mono ?_); rintro e w' ⟨rfl, ⟨nd, rfl⟩⟩; refine ⟨_, rfl, ?_⟩) | (go_at_call 53; (with_reducible refine (spec_l7Word.calls a1 true _ A9.out).mono ?_); rintro e w' ⟨rfl, ⟨nd, rfl⟩⟩) | (go_at_call 53; (with_reducible refine (spec_l7Word.calls a2 false _ A11.out).mono ?_); rintro e w' ⟨rfl, ⟨nd, rfl⟩⟩))
          go_meet
          case rel => exact ⟨_, (true), (by first | rfl | (simp; done) | (simp [*]; done)), H', ⟨by first | omega | exact Nat.le_refl _⟩, ⟨by repeat (first | (with_reducible first | exact HB.out | apply below_alloc | apply pw_below_drewN | apply below_drew1) | exact HB.out)⟩⟩
      · replace c10 := Bool.eq_false_iff.mpr c10
        subst c10
        have H1 : (spec_ScaleWord.j0 k a0 a1 a2 a3 a4 true) = some r := by rw [if_neg (show ¬ (false = true) by decide)] at H; exact H
        clear H
        have H := H1
        clear H1
        have H' := Aside0.mk H
        clear H
        go_wp2_with (first | ((with_reducible refine gate_callee (f := 53) rfl ?_); refine goesL_ (some 12) rfl rfl Try.func53 (by kernel_rfl) rfl #[.int .i64 a0] rfl (by (try simp only [List.map_toArray, List.map_cons, List.map_nil]); first | done | rfl | (simp only [List.length_drop, List.length_take]; rfl)) ?_; (with_reducible refine (spec_l7Word.calls a0 true _ A7.out).mono ?_); rintro e w' ⟨rfl, ⟨nd, rfl⟩⟩; refine ⟨_, rfl, ?_⟩) | (go_at_call 53; (with_reducible refine (spec_l7Word.calls a1 false _ A9.out).mono ?_); rintro e w' ⟨rfl, ⟨nd, rfl⟩⟩))
        go_meet
        case rel => exact ⟨_, (true), (by first | rfl | (simp; done) | (simp [*]; done)), H', ⟨by first | omega | exact Nat.le_refl _⟩, ⟨by repeat (first | (with_reducible first | exact HB.out | apply below_alloc | apply pw_below_drewN | apply below_drew1) | exact HB.out)⟩⟩
    · replace c8 := Bool.eq_false_iff.mpr c8
      subst c8
      have H1 : (spec_ScaleWord.j0 k a0 a1 a2 a3 a4 true) = some r := by rw [if_neg (show ¬ (false = true) by decide)] at H; exact H
      clear H
      have H := H1
      clear H1
      have H' := Aside0.mk H
      clear H
      go_wp2_with (first | ((with_reducible refine gate_callee (f := 53) rfl ?_); refine goesL_ (some 12) rfl rfl Try.func53 (by kernel_rfl) rfl #[.int .i64 a0] rfl (by (try simp only [List.map_toArray, List.map_cons, List.map_nil]); first | done | rfl | (simp only [List.length_drop, List.length_take]; rfl)) ?_; (with_reducible refine (spec_l7Word.calls a0 false _ A7.out).mono ?_); rintro e w' ⟨rfl, ⟨nd, rfl⟩⟩; refine ⟨_, rfl, ?_⟩))
      go_meet
      case rel => exact ⟨_, (true), (by first | rfl | (simp; done) | (simp [*]; done)), H', ⟨by first | omega | exact Nat.le_refl _⟩, ⟨by repeat (first | (with_reducible first | exact HB.out | apply below_alloc | apply pw_below_drewN | apply below_drew1) | exact HB.out)⟩⟩
  case rest =>
    clear HC6
    try clear c1
    try clear c2
    try clear p2
    try clear c5
    try clear c8
    try clear c10
    try clear c12
    try clear c14
    try clear c16
    obtain ⟨kq, x38_5, rfl, HA, HJ5, HB⟩ := hcut
    cases kq with
    | zero => exact absurd HA.out (by simp [spec_ScaleWord.j0])
    | succ kj5 =>
      have H := HA.out
      clear HA
      simp only [spec_ScaleWord.j0] at H
      by_cases c17 : x38_5 = true
      · subst c17
        have H1 : (some 0) = some r := by rw [if_pos rfl] at H; exact H
        clear H
        have H := H1
        clear H1
        obtain rfl := Option.some.inj H
        go_wp2
        go_ret
        exact ⟨by first | rfl | (simp [errW_none, errW_some] <;> rfl) | (simp [*, errW_none, errW_some] <;> rfl), by repeat (first | (with_reducible first | exact HB.out | apply below_alloc | apply pw_below_drewN | apply below_drew1) | exact HB.out)⟩
      · replace c17 := Bool.eq_false_iff.mpr c17
        subst c17
        have H1 : ((spec_l1Clip.f a0 a1 a2).bind fun t107 => ((spec_l7Floor.f (wrap64 ((wrap64 (t107 - a1)) * (wrap64 (a4 - a3)))) (wrap64 (a2 - a1))).bind fun t108 => (some (wrap64 (a3 + t108))))) = some r := by rw [if_neg (show ¬ (false = true) by decide)] at H; exact H
        clear H
        have H := H1
        clear H1
        replace H := Option.bind_eq_some_iff.mp H
        obtain ⟨t107, A180, H⟩ := H
        replace H : ((spec_l7Floor.f (wrap64 ((wrap64 (t107 - a1)) * (wrap64 (a4 - a3)))) (wrap64 (a2 - a1))).bind fun t108 => (some (wrap64 (a3 + t108)))) = some r := H
        have A18 := Aside0.mk A180
        clear A180
        replace H := Option.bind_eq_some_iff.mp H
        obtain ⟨t108, A190, H⟩ := H
        replace H : (some (wrap64 (a3 + t108))) = some r := H
        have A19 := Aside0.mk A190
        clear A190
        obtain rfl := Option.some.inj H
        go_wp2_with (first | ((with_reducible refine gate_callee (f := 54) rfl ?_); refine goesL_ (some 43) rfl rfl Try.func54 (by kernel_rfl) rfl #[.int .i64 a0, .int .i64 a1, .int .i64 a2] rfl (by (try simp only [List.map_toArray, List.map_cons, List.map_nil]); first | done | rfl | (simp only [List.length_drop, List.length_take]; rfl)) ?_; (with_reducible refine (spec_l1Clip.calls a0 a1 a2 t107 _ A18.out).mono ?_); rintro e w20 ⟨rfl, hb⟩; refine ⟨_, rfl, ?_⟩; have n0_ := Aside0.mk (below_step (by repeat (first | (with_reducible first | exact HB.out | apply below_alloc | apply pw_below_drewN | apply below_drew1) | exact HB.out)) hb); clear HB; have HB := n0_; clear n0_; (try clear hb); (try clear hb2); (try clear hk); (try clear hi)) | ((with_reducible refine gate_callee (f := 61) rfl ?_); refine goesL_ (some 53) rfl rfl Try.func61 (by kernel_rfl) rfl #[.int .i64 (wrap64 ((wrap64 (t107 - a1)) * (wrap64 (a4 - a3)))), .int .i64 (wrap64 (a2 - a1))] rfl (by (try simp only [List.map_toArray, List.map_cons, List.map_nil]); first | done | rfl | (simp only [List.length_drop, List.length_take]; rfl)) ?_; (with_reducible refine (spec_l7Floor.calls (wrap64 ((wrap64 (t107 - a1)) * (wrap64 (a4 - a3)))) (wrap64 (a2 - a1)) t108 _ A19.out).mono ?_); rintro e w' ⟨rfl, ⟨nd, rfl⟩⟩; refine ⟨_, rfl, ?_⟩))
        go_ret
        exact ⟨by first | rfl | (simp [errW_none, errW_some] <;> rfl) | (simp [*, errW_none, errW_some] <;> rfl), by repeat (first | (with_reducible first | exact HB.out | apply below_alloc | apply pw_below_drewN | apply below_drew1) | exact HB.out)⟩

-- NOT PRINTED: function 84 (slices_IndexFunc_int_int)

-- NOT PRINTED: function 78 (slices_ContainsFunc_int_int)

/-! ### impl_in: function 58 -/
def impl_in.f (a0 : Int) (a1 : Int) (a2 : Int) : Option (Bool) := if a0 ≥ a1 then (some (decide (a0 ≤ a2))) else (some false)
set_option maxHeartbeats 8000000 in
set_option maxRecDepth 100000 in
theorem impl_in.calls (a0 : Int) (a1 : Int) (a2 : Int) (r : Bool) (w : World) (h : impl_in.f a0 a1 a2 = some r) :
    Calls Try.prog 58 #[.int .i64 a0, .int .i64 a1, .int .i64 a2] w fun e w' => e = .returned (.bool r) ∧ Drawn0 w w' := by
  have H : (if a0 ≥ a1 then (some (decide (a0 ≤ a2))) else (some false)) = some r := h
  clear h
  by_cases c4 : a0 ≥ a1
  · rw [if_pos c4] at H
    have c4b0 : decide (a1 ≤ a0) = true := decide_eq_true c4
    clear c4
    obtain rfl := Option.some.inj H
    go_enter Try.func58, Try.ntmps58
    go_wp2
    go_ret
    exact ⟨by first | rfl | (simp; done) | (simp [*]; done), by repeat (first | exact Drawn0.refl _ | apply Drawn0.step)⟩
  · rw [if_neg c4] at H
    have c4b0 : decide (a1 ≤ a0) = false := decide_eq_false c4
    clear c4
    obtain rfl := Option.some.inj H
    go_enter Try.func58, Try.ntmps58
    go_wp2
    go_ret
    exact ⟨by first | rfl | (simp; done) | (simp [*]; done), by repeat (first | exact Drawn0.refl _ | apply Drawn0.step)⟩

/-! ### impl_isWord: function 65 -/
def impl_isWord.f (a0 : Int) : Option (Bool) := (impl_in.f a0 (-32768) 32767).bind fun t109 => (some t109)
set_option maxHeartbeats 8000000 in
set_option maxRecDepth 100000 in
theorem impl_isWord.calls (a0 : Int) (r : Bool) (w : World) (h : impl_isWord.f a0 = some r) :
    Calls Try.prog 65 #[.int .i64 a0] w fun e w' => e = .returned (.bool r) ∧ Drawn0 w w' := by
  have H : ((impl_in.f a0 (-32768) 32767).bind fun t109 => (some t109)) = some r := h
  clear h
  replace H := Option.bind_eq_some_iff.mp H
  obtain ⟨t109, A20, H⟩ := H
  replace H : (some t109) = some r := H
  have A2 := Aside0.mk A20
  clear A20
  obtain rfl := Option.some.inj H
  go_enter Try.func65, Try.ntmps65
  go_wp2_with (first | ((with_reducible refine gate_callee (f := 58) rfl ?_); refine goesL_ (some 4) rfl rfl Try.func58 (by kernel_rfl) rfl #[.int .i64 a0, .int .i64 (-32768), .int .i64 32767] rfl (by (try simp only [List.map_toArray, List.map_cons, List.map_nil]); first | done | rfl | (simp only [List.length_drop, List.length_take]; rfl)) ?_; (with_reducible refine (impl_in.calls a0 (-32768) 32767 t109 _ A2.out).mono ?_); rintro e w' ⟨rfl, ⟨nd, rfl⟩⟩; refine ⟨_, rfl, ?_⟩))
  go_ret
  exact ⟨by first | rfl | (simp; done) | (simp [*]; done), by repeat (first | exact Drawn0.refl _ | apply Drawn0.step)⟩

-- NOT PRINTED: function 79 (impl_areWords_1)

/-! ### impl_areWords: function 55 -/
/-- A number that is no word. -/
def impl_areWords.bad (x : Int) : Bool := !(decide (-32768 ≤ x) && decide (x ≤ 32767))
def impl_areWords.idx (l : List Int) (m : Nat) : Int := Lib.idxBy (fun _ y => impl_areWords.bad y) (l.take m) default
theorem impl_areWords.closure (x : Int) (w : World) : Calls Try.prog 79 #[.int .i64 x] w fun e w' => e = .returned (.bool (impl_areWords.bad x)) ∧ ∃ q, w' = w.drewN q := by
  have h : impl_isWord.f x = some (!impl_areWords.bad x) := by
    unfold impl_isWord.f impl_in.f impl_areWords.bad
    by_cases h1 : x ≥ -32768
    · rw [if_pos h1]; simp [show -32768 ≤ x from h1]
    · rw [if_neg h1]; simp [show ¬ -32768 ≤ x from h1]
  generalize impl_areWords.bad x = b at h ⊢
  go_enter Try.func79, Try.ntmps79
  go_wp2_with (go_at_call 65; refine (impl_isWord.calls x (!b) _ h).mono ?_; rintro e w' ⟨rfl, ⟨⟨nd, rfl⟩⟩⟩)
  go_ret
  exact ⟨by simp, nd, rfl⟩
theorem impl_areWords.index0 (A : Option Addr) (c : Nat) (fv : Value) (w : World) :
    Calls Try.prog 84 #[.slice A 0 c, fv] w fun e w' => e = .returned (.int .i64 (-1)) ∧ w' = w := by
  go_enter Try.func84, Try.ntmps84
  go_wp2
  go_loopg [5, 8] 0 (fun _ _ s8 wr => s8 = .int .i64 0 ∧ wr = w)
  case atStart => exact ⟨rfl, rfl⟩
  case round =>
    obtain ⟨rfl, rfl⟩ := hrel
    go_wp2
    go_ret
    exact ⟨rfl, rfl⟩
set_option maxHeartbeats 2000000 in
theorem impl_areWords.index (ad : Addr) (c n : Nat) (l : List Int) (w : World) (hn : l.length = n) (hbig : n ≤ 9223372036854775807) (hc : ∀ j, j < n → w.cell? (ad.add j) = some (.int .i64 l[j]!)) :
    Calls Try.prog 84 #[.slice (some ad) n c, .func (.func 79) #[] #[]] w fun e w' => e = .returned (.int .i64 (impl_areWords.idx l n)) ∧ ∃ q, w' = w.drewN q := by
  have hcall : ∀ (x : Int) (q : Nat), Calls Try.prog 79 #[.int .i64 x] (w.drewN q) fun e w' => e = .returned (.bool (impl_areWords.bad x)) ∧ ∃ q', w' = (w.drewN q).drewN q' := fun x q => impl_areWords.closure x _
  have Hn := Aside0.mk hn
  clear hn
  go_enter Try.func84, Try.ntmps84
  go_wp2
  go_loopg [5, 8] n (fun gg _ s8 wr => ∃ kk q : Nat, kk ≤ n ∧ n - kk ≤ gg ∧ s8 = .int .i64 kk ∧ wr = w.drewN q ∧ Aside0 (∀ j, j < kk → impl_areWords.bad l[j]! = false))
  case atStart => exact ⟨0, 0, Nat.zero_le _, by omega, rfl, rfl, ⟨fun j hj => absurd hj (Nat.not_lt_zero _)⟩⟩
  case round =>
    obtain ⟨kk, q, hkk, hg, rfl, rfl, HA⟩ := hrel
    by_cases hlt : kk < n
    · have hltz : (kk : Int) < (n : Int) := by omega
      have hcell : w.cell? (ad.add kk) = some (.int .i64 l[kk]!) := hc kk (by omega)
      clear hc
      generalize hy : l[kk]! = y at hcell
      have HB := Aside0.mk hy
      clear hy
      have hcall1 := hcall y
      clear hcall
      cases hq : impl_areWords.bad y with
      | true =>
        rw [hq] at hcall1
        have HQ := Aside0.mk hq
        clear hq
        go_wp2_with (go_at_call 79; refine (hcall1 _).mono ?_; rintro e w' ⟨rfl, q', rfl⟩)
        go_ret
        refine ⟨?_, _, rfl⟩
        unfold impl_areWords.idx
        rw [Lib.idxBy_hit (fun _ y => impl_areWords.bad y) l n kk default hlt (Nat.le_of_eq Hn.out.symm) (by show impl_areWords.bad l[kk]! = true; rw [HB.out]; exact HQ.out) HA.out]
        rfl
      | false =>
        rw [hq] at hcall1
        have HQ := Aside0.mk hq
        clear hq
        go_wp2_with (go_at_call 79; refine (hcall1 _).mono ?_; rintro e w' ⟨rfl, q', rfl⟩)
        go_roundg (n - (kk + 1))
        case measure => omega
        case rel =>
          refine ⟨kk + 1, _, by omega, by omega, by go_num, rfl, ⟨fun j hj => ?_⟩⟩
          by_cases e : j = kk
          · subst e
            rw [HB.out]; exact HQ.out
          · exact HA.out j (by omega)
    · have hltz : ¬ (kk : Int) < (n : Int) := by omega
      obtain rfl : kk = n := by omega
      go_wp2
      go_ret
      refine ⟨?_, q, rfl⟩
      unfold impl_areWords.idx
      rw [Lib.idxBy_miss (fun _ y => impl_areWords.bad y) l kk default HA.out]
      rfl
/-- areWords: are all numbers words? -/
def impl_areWords.f (l0 : List Int) : Option Bool := some (!l0.any impl_areWords.bad)
theorem impl_areWords.contains (A : Option Addr) (c : Nat) (l : List Int) (w : World) (hr : Kd.C (Kd.int .i64) w A l.length l) :
    Calls Try.prog 78 #[.slice A l.length c, .func (.func 79) #[] #[]] w fun e w' => e = .returned (.bool (l.any impl_areWords.bad)) ∧ ∃ q, w' = w.drewN q := by
  have hi : Calls Try.prog 84 #[.slice A l.length c, .func (.func 79) #[] #[]] w fun e w' => e = .returned (.int .i64 (Lib.idxBy (fun _ y => impl_areWords.bad y) l default)) ∧ ∃ q, w' = w.drewN q := by
    rcases Nat.eq_zero_or_pos l.length with h0 | h0
    · have : l = [] := List.eq_nil_of_length_eq_zero h0
      subst this
      exact (impl_areWords.index0 A c _ w).mono fun e w' ⟨he, hw⟩ => ⟨he, 0, hw⟩
    · obtain ⟨ad, rfl, hc⟩ := hr.2.2 h0
      have h := impl_areWords.index ad c l.length l w rfl hr.2.1 (fun j hj => by
        obtain ⟨ad', he, hcell⟩ := Kd.at_int hr (j : Int) (by omega) (by omega)
        obtain rfl := Option.some.inj he
        rw [show rd l (j : Int) = l[j]! by simp [rd, List.getElem!_eq_getElem?_getD, List.getD_eq_getElem?_getD]] at hcell
        exact hcell)
      unfold impl_areWords.idx at h
      rw [List.take_length] at h
      exact h
  rw [show l.any impl_areWords.bad = decide (0 ≤ Lib.idxBy (fun _ y => impl_areWords.bad y) l default) from (Lib.idxBy_nonneg_iff (fun _ y => impl_areWords.bad y) l default).symm]
  generalize Lib.idxBy (fun _ y => impl_areWords.bad y) l default = i at hi ⊢
  generalize l.length = n at hi ⊢
  clear hr
  go_enter Try.func78, Try.ntmps78
  go_wp2_with (go_at_call 84; refine hi.mono ?_; rintro e w' ⟨rfl, q, rfl⟩)
  go_ret
  exact ⟨rfl, q, rfl⟩
theorem impl_areWords.calls (A0 : Option Addr) (c0 : Nat) (l0 : List Int) (r : Bool) (w : World) (hr0 : Kd.C (Kd.int .i64) w A0 l0.length l0) (hc0 : l0.length ≤ c0) (h : impl_areWords.f l0 = some r) :
    Calls Try.prog 55 #[.slice A0 l0.length c0] w fun e w' => e = .returned (.bool r) ∧ Drawn0 w w' := by
  obtain rfl := Option.some.inj h
  have hi := impl_areWords.contains A0 c0 l0 w hr0
  generalize l0.any impl_areWords.bad = b at hi ⊢
  generalize l0.length = n at hi ⊢
  clear hr0
  go_enter Try.func55, Try.ntmps55
  go_wp2_with (go_at_call 78; refine hi.mono ?_; rintro e w' ⟨rfl, q, rfl⟩)
  go_ret
  exact ⟨rfl, ⟨⟨q, rfl⟩⟩⟩


/-! ### impl_floor: function 62 -/
def impl_floor.f (a0 : Int) (a1 : Int) : Option (Int) := if a1 = 0 then (none) else (if (Int.tmod a0 a1) < 0 then (some (wrap64 ((wrap64 (Int.tdiv a0 a1)) - 1))) else (some (wrap64 (Int.tdiv a0 a1))))
set_option maxHeartbeats 8000000 in
set_option maxRecDepth 100000 in
theorem impl_floor.calls (a0 : Int) (a1 : Int) (r : Int) (w : World) (h : impl_floor.f a0 a1 = some r) :
    Calls Try.prog 62 #[.int .i64 a0, .int .i64 a1] w fun e w' => e = .returned (.int .i64 r) ∧ Drawn0 w w' := by
  have H : (if a1 = 0 then (none) else (if (Int.tmod a0 a1) < 0 then (some (wrap64 ((wrap64 (Int.tdiv a0 a1)) - 1))) else (some (wrap64 (Int.tdiv a0 a1))))) = some r := h
  clear h
  by_cases c3 : a1 = 0
  · rw [if_pos c3] at H
    exact absurd H (by simp)
  · rw [if_neg c3] at H
    have c3b0 : (a1 == 0) = false := beq_eq_false_iff_ne.mpr c3
    have c3b1 : (a1 != 0) = true := bne_iff_ne.mpr c3
    by_cases c4 : (Int.tmod a0 a1) < 0
    · rw [if_pos c4] at H
      have c4b0 : decide ((Int.tmod a0 a1) < 0) = true := decide_eq_true c4
      clear c4
      obtain rfl := Option.some.inj H
      go_enter Try.func62, Try.ntmps62
      go_wp2
      go_ret
      exact ⟨by first | rfl | (simp; done) | (simp [*]; done), by repeat (first | exact Drawn0.refl _ | apply Drawn0.step)⟩
    · rw [if_neg c4] at H
      have c4b0 : decide ((Int.tmod a0 a1) < 0) = false := decide_eq_false c4
      clear c4
      obtain rfl := Option.some.inj H
      go_enter Try.func62, Try.ntmps62
      go_wp2
      go_ret
      exact ⟨by first | rfl | (simp; done) | (simp [*]; done), by repeat (first | exact Drawn0.refl _ | apply Drawn0.step)⟩

/-! ### impl_ScaleWord: function 27 -/
def impl_ScaleWord.f (a0 : Int) (a1 : Int) (a2 : Int) (a3 : Int) (a4 : Int) : Option (Int) := (impl_areWords.f (([a0, a1, a2, a3, a4] : List Int))).bind fun t113 => (if t113 = true then (if a1 ≥ a2 then (some 0) else ((impl_floor.f (wrap64 ((wrap64 ((mx a1 (mn a2 a0)) - a1)) * (wrap64 (a4 - a3)))) (wrap64 (a2 - a1))).bind fun t114 => (some (wrap64 (a3 + t114))))) else (some 0))
set_option maxHeartbeats 8000000 in
set_option maxRecDepth 100000 in
theorem impl_ScaleWord.calls (a0 : Int) (a1 : Int) (a2 : Int) (a3 : Int) (a4 : Int) (r : Int) (w : World) (h : impl_ScaleWord.f a0 a1 a2 a3 a4 = some r) :
    Calls Try.prog 27 #[.int .i64 a0, .int .i64 a1, .int .i64 a2, .int .i64 a3, .int .i64 a4] w fun e w' => e = .returned (.int .i64 r) ∧ Below w.heap.size w w' := by
  have HB := Aside0.mk (Below.refl w.heap.size w)
  have H : ((impl_areWords.f (([a0, a1, a2, a3, a4] : List Int))).bind fun t113 => (if t113 = true then (if a1 ≥ a2 then (some 0) else ((impl_floor.f (wrap64 ((wrap64 ((mx a1 (mn a2 a0)) - a1)) * (wrap64 (a4 - a3)))) (wrap64 (a2 - a1))).bind fun t114 => (some (wrap64 (a3 + t114))))) else (some 0))) = some r := h
  clear h
  obtain ⟨y110, hy110⟩ : ∃ y_ : List Int, y_ = (([a0, a1, a2, a3, a4] : List Int)) := ⟨_, rfl⟩
  replace H : ((impl_areWords.f y110).bind fun t113 => (if t113 = true then (if a1 ≥ a2 then (some 0) else ((impl_floor.f (wrap64 ((wrap64 ((mx a1 (mn a2 a0)) - a1)) * (wrap64 (a4 - a3)))) (wrap64 (a2 - a1))).bind fun t114 => (some (wrap64 (a3 + t114))))) else (some 0))) = some r := by first | (rw [hy110]; with_reducible exact H) | (have H2_ := (Option.bind_some _ _).symm.trans H; rw [hy110]; with_reducible exact H2_) | (have H2_ := (Option.bind_some _ _).symm.trans H; with_reducible exact H2_) | with_reducible exact H | (rw [hy110]; exact H) | exact H
  have Ny110 := Aside0.mk hy110
  clear hy110
  replace H := Option.bind_eq_some_iff.mp H
  obtain ⟨t113, A60, H⟩ := H
  replace H : (if t113 = true then (if a1 ≥ a2 then (some 0) else ((impl_floor.f (wrap64 ((wrap64 ((mx a1 (mn a2 a0)) - a1)) * (wrap64 (a4 - a3)))) (wrap64 (a2 - a1))).bind fun t114 => (some (wrap64 (a3 + t114))))) else (some 0)) = some r := H
  have A6 := Aside0.mk A60
  clear A60
  by_cases c7 : t113 = true
  · subst c7
    have H1 : (if a1 ≥ a2 then (some 0) else ((impl_floor.f (wrap64 ((wrap64 ((mx a1 (mn a2 a0)) - a1)) * (wrap64 (a4 - a3)))) (wrap64 (a2 - a1))).bind fun t114 => (some (wrap64 (a3 + t114))))) = some r := by rw [if_pos rfl] at H; exact H
    clear H
    have H := H1
    clear H1
    by_cases c8 : a1 ≥ a2
    · rw [if_pos c8] at H
      have c8b0 : decide (a2 ≤ a1) = true := decide_eq_true c8
      clear c8
      obtain rfl := Option.some.inj H
      go_enter Try.func27, Try.ntmps27
      go_wp2_with (first | ((with_reducible refine gate_dst (N := 16) rfl ?_); refine Kd.R_lit (Kd.int .i64) _ 3 ?hg (N := 16) ?hd (xs := ([a0, a1, a2, a3, a4] : List Int)) (inner := [.int .i64 a0, .int .i64 a1, .int .i64 a2, .int .i64 a3, .int .i64 a4]) (ok := fun _ => True) (okp := fun _ => True) ?hr ?hp (fun _ hk => hk) trivial (Below.refl _ _) (Nat.le_refl _) (by simp) ?_; (case hd => rfl); (case hg => rfl); (case hr => first | (go_simp; done) | (go_simp; rfl)); (case hp => exact (Reps.one (show Kd.M (Kd.int .i64) _ _ _ a0 [.int .i64 a0] from rfl) (Reps.one (show Kd.M (Kd.int .i64) _ _ _ a1 [.int .i64 a1] from rfl) (Reps.one (show Kd.M (Kd.int .i64) _ _ _ a2 [.int .i64 a2] from rfl) (Reps.one (show Kd.M (Kd.int .i64) _ _ _ a3 [.int .i64 a3] from rfl) (Reps.one (show Kd.M (Kd.int .i64) _ _ _ a4 [.int .i64 a4] from rfl) (Reps.none _ _))))))); intro v111 w9 ho10 hb hg_ hnew_; clear hg_ hnew_; (first | rw [← Ny110.out] at ho10 | (simp only [Int.reduceToNat] at ho10; rw [← Ny110.out] at ho10)); have n0_ := Aside0.mk (Kd.R_lower ho10 (below_size (by repeat (first | (with_reducible first | exact HB.out | apply below_alloc | apply pw_below_drewN | apply below_drew1) | exact HB.out)))); have n1_ := Aside0.mk (below_step (by repeat (first | (with_reducible first | exact HB.out | apply below_alloc | apply pw_below_drewN | apply below_drew1) | exact HB.out)) hb); clear HB; have HO112 := n0_; have HB := n1_; clear n0_ n1_; clear hb ho10; obtain ⟨Ao11, co11, eo11⟩ := Kd.R_slice HO112.out; subst eo11) | ((with_reducible refine gate_callee (f := 55) rfl ?_); refine goesL_ (some 17) rfl rfl Try.func55 (by kernel_rfl) rfl #[.slice Ao11 y110.length co11] rfl (by (try simp only [List.map_toArray, List.map_cons, List.map_nil]); first | done | rfl | (simp only [List.length_drop, List.length_take]; rfl)) ?_; (with_reducible refine (impl_areWords.calls _ _ y110 true _ ?side1 ?side2 A6.out).mono ?_); (case side1 => repeat (first | exact (Kd.R_reads' HO112.out).2.2 | (with_reducible refine Kd.C_alloc ?_ _) | (with_reducible refine Kd.C_drewN ?_ _) | (with_reducible refine Kd.C_drew ?_))); (case side2 => exact (Kd.R_reads' HO112.out).2.1); rintro e w' ⟨rfl, ⟨nd, rfl⟩⟩; refine ⟨_, rfl, ?_⟩))
      go_ret
      exact ⟨by first | rfl | (simp [errW_none, errW_some] <;> rfl) | (simp [*, errW_none, errW_some] <;> rfl), by repeat (first | (with_reducible first | exact HB.out | apply below_alloc | apply pw_below_drewN | apply below_drew1) | exact HB.out)⟩
    · rw [if_neg c8] at H
      have c8b0 : decide (a2 ≤ a1) = false := decide_eq_false c8
      clear c8
      obtain ⟨ji12, hji12⟩ : ∃ j_ : Int, (mn a2 a0) = j_ := ⟨_, rfl⟩
      replace H : ((impl_floor.f (wrap64 ((wrap64 ((mx a1 (ji12)) - a1)) * (wrap64 (a4 - a3)))) (wrap64 (a2 - a1))).bind fun t114 => (some (wrap64 (a3 + t114)))) = some r := by first | (rw [hji12] at H; exact H) | (simp only [hji12] at H ⊢; exact H)
      (try rw [hji12] at A6)
      have hji12_ : (if a0 < a2 then a0 else a2) = ji12 := hji12
      obtain ⟨ji13, hji13⟩ : ∃ j_ : Int, (mx a1 (ji12)) = j_ := ⟨_, rfl⟩
      replace H : ((impl_floor.f (wrap64 ((wrap64 ((ji13) - a1)) * (wrap64 (a4 - a3)))) (wrap64 (a2 - a1))).bind fun t114 => (some (wrap64 (a3 + t114)))) = some r := by first | (rw [hji13] at H; exact H) | (simp only [hji13] at H ⊢; exact H)
      (try rw [hji13] at A6)
      have hji13_ : (if a1 < (ji12) then (ji12) else a1) = ji13 := hji13
      replace H := Option.bind_eq_some_iff.mp H
      obtain ⟨t114, A140, H⟩ := H
      replace H : (some (wrap64 (a3 + t114))) = some r := H
      have A14 := Aside0.mk A140
      clear A140
      obtain rfl := Option.some.inj H
      go_enter Try.func27, Try.ntmps27
      go_wp2_with (first | ((with_reducible refine gate_dst (N := 16) rfl ?_); refine Kd.R_lit (Kd.int .i64) _ 3 ?hg (N := 16) ?hd (xs := ([a0, a1, a2, a3, a4] : List Int)) (inner := [.int .i64 a0, .int .i64 a1, .int .i64 a2, .int .i64 a3, .int .i64 a4]) (ok := fun _ => True) (okp := fun _ => True) ?hr ?hp (fun _ hk => hk) trivial (Below.refl _ _) (Nat.le_refl _) (by simp) ?_; (case hd => rfl); (case hg => rfl); (case hr => first | (go_simp; done) | (go_simp; rfl)); (case hp => exact (Reps.one (show Kd.M (Kd.int .i64) _ _ _ a0 [.int .i64 a0] from rfl) (Reps.one (show Kd.M (Kd.int .i64) _ _ _ a1 [.int .i64 a1] from rfl) (Reps.one (show Kd.M (Kd.int .i64) _ _ _ a2 [.int .i64 a2] from rfl) (Reps.one (show Kd.M (Kd.int .i64) _ _ _ a3 [.int .i64 a3] from rfl) (Reps.one (show Kd.M (Kd.int .i64) _ _ _ a4 [.int .i64 a4] from rfl) (Reps.none _ _))))))); intro v111 w15 ho16 hb hg_ hnew_; clear hg_ hnew_; (first | rw [← Ny110.out] at ho16 | (simp only [Int.reduceToNat] at ho16; rw [← Ny110.out] at ho16)); have n0_ := Aside0.mk (Kd.R_lower ho16 (below_size (by repeat (first | (with_reducible first | exact HB.out | apply below_alloc | apply pw_below_drewN | apply below_drew1) | exact HB.out)))); have n1_ := Aside0.mk (below_step (by repeat (first | (with_reducible first | exact HB.out | apply below_alloc | apply pw_below_drewN | apply below_drew1) | exact HB.out)) hb); clear HB; have HO112 := n0_; have HB := n1_; clear n0_ n1_; clear hb ho16; obtain ⟨Ao17, co17, eo17⟩ := Kd.R_slice HO112.out; subst eo17) | ((with_reducible refine gate_callee (f := 55) rfl ?_); refine goesL_ (some 17) rfl rfl Try.func55 (by kernel_rfl) rfl #[.slice Ao17 y110.length co17] rfl (by (try simp only [List.map_toArray, List.map_cons, List.map_nil]); first | done | rfl | (simp only [List.length_drop, List.length_take]; rfl)) ?_; (with_reducible refine (impl_areWords.calls _ _ y110 true _ ?side1 ?side2 A6.out).mono ?_); (case side1 => repeat (first | exact (Kd.R_reads' HO112.out).2.2 | (with_reducible refine Kd.C_alloc ?_ _) | (with_reducible refine Kd.C_drewN ?_ _) | (with_reducible refine Kd.C_drew ?_))); (case side2 => exact (Kd.R_reads' HO112.out).2.1); rintro e w' ⟨rfl, ⟨nd, rfl⟩⟩; refine ⟨_, rfl, ?_⟩) | ((with_reducible refine gate_callee (f := 62) rfl ?_); refine goesL_ (some 40) rfl rfl Try.func62 (by kernel_rfl) rfl #[.int .i64 (wrap64 ((wrap64 ((ji13) - a1)) * (wrap64 (a4 - a3)))), .int .i64 (wrap64 (a2 - a1))] rfl (by (try simp only [List.map_toArray, List.map_cons, List.map_nil]); first | done | (simp only [hji13]; rfl) | rfl | (simp only [List.length_drop, List.length_take]; rfl)) ?_; (with_reducible refine (impl_floor.calls (wrap64 ((wrap64 ((ji13) - a1)) * (wrap64 (a4 - a3)))) (wrap64 (a2 - a1)) t114 _ A14.out).mono ?_); rintro e w' ⟨rfl, ⟨nd, rfl⟩⟩; refine ⟨_, rfl, ?_⟩))
      go_ret
      exact ⟨by first | rfl | (simp [errW_none, errW_some] <;> rfl) | (simp only [← hji12, ← hji13]; first | rfl | (simp [errW_none, errW_some] <;> rfl)) | (simp [*, errW_none, errW_some] <;> rfl), by repeat (first | (with_reducible first | exact HB.out | apply below_alloc | apply pw_below_drewN | apply below_drew1) | exact HB.out)⟩
  · replace c7 := Bool.eq_false_iff.mpr c7
    subst c7
    have H1 : (some 0) = some r := by rw [if_neg (show ¬ (false = true) by decide)] at H; exact H
    clear H
    have H := H1
    clear H1
    obtain rfl := Option.some.inj H
    go_enter Try.func27, Try.ntmps27
    go_wp2_with (first | ((with_reducible refine gate_dst (N := 16) rfl ?_); refine Kd.R_lit (Kd.int .i64) _ 3 ?hg (N := 16) ?hd (xs := ([a0, a1, a2, a3, a4] : List Int)) (inner := [.int .i64 a0, .int .i64 a1, .int .i64 a2, .int .i64 a3, .int .i64 a4]) (ok := fun _ => True) (okp := fun _ => True) ?hr ?hp (fun _ hk => hk) trivial (Below.refl _ _) (Nat.le_refl _) (by simp) ?_; (case hd => rfl); (case hg => rfl); (case hr => first | (go_simp; done) | (go_simp; rfl)); (case hp => exact (Reps.one (show Kd.M (Kd.int .i64) _ _ _ a0 [.int .i64 a0] from rfl) (Reps.one (show Kd.M (Kd.int .i64) _ _ _ a1 [.int .i64 a1] from rfl) (Reps.one (show Kd.M (Kd.int .i64) _ _ _ a2 [.int .i64 a2] from rfl) (Reps.one (show Kd.M (Kd.int .i64) _ _ _ a3 [.int .i64 a3] from rfl) (Reps.one (show Kd.M (Kd.int .i64) _ _ _ a4 [.int .i64 a4] from rfl) (Reps.none _ _))))))); intro v111 w18 ho19 hb hg_ hnew_; clear hg_ hnew_; (first | rw [← Ny110.out] at ho19 | (simp only [Int.reduceToNat] at ho19; rw [← Ny110.out] at ho19)); have n0_ := Aside0.mk (Kd.R_lower ho19 (below_size (by repeat (first | (with_reducible first | exact HB.out | apply below_alloc | apply pw_below_drewN | apply below_drew1) | exact HB.out)))); have n1_ := Aside0.mk (below_step (by repeat (first | (with_reducible first | exact HB.out | apply below_alloc | apply pw_below_drewN | apply below_drew1) | exact HB.out)) hb); clear HB; have HO112 := n0_; have HB := n1_; clear n0_ n1_; clear hb ho19; obtain ⟨Ao20, co20, eo20⟩ := Kd.R_slice HO112.out; subst eo20) | ((with_reducible refine gate_callee (f := 55) rfl ?_); refine goesL_ (some 17) rfl rfl Try.func55 (by kernel_rfl) rfl #[.slice Ao20 y110.length co20] rfl (by (try simp only [List.map_toArray, List.map_cons, List.map_nil]); first | done | rfl | (simp only [List.length_drop, List.length_take]; rfl)) ?_; (with_reducible refine (impl_areWords.calls _ _ y110 false _ ?side1 ?side2 A6.out).mono ?_); (case side1 => repeat (first | exact (Kd.R_reads' HO112.out).2.2 | (with_reducible refine Kd.C_alloc ?_ _) | (with_reducible refine Kd.C_drewN ?_ _) | (with_reducible refine Kd.C_drew ?_))); (case side2 => exact (Kd.R_reads' HO112.out).2.1); rintro e w' ⟨rfl, ⟨nd, rfl⟩⟩; refine ⟨_, rfl, ?_⟩))
    go_ret
    exact ⟨by first | rfl | (simp [errW_none, errW_some] <;> rfl) | (simp [*, errW_none, errW_some] <;> rfl), by repeat (first | (with_reducible first | exact HB.out | apply below_alloc | apply pw_below_drewN | apply below_drew1) | exact HB.out)⟩

/-! ### laws_FnExactScaleWord: function 7 -/
def laws_FnExactScaleWord.f (k : Nat) (a0 : Int) (a1 : Int) (a2 : Int) (a3 : Int) (a4 : Int) : Option (Bool) := (spec_ScaleWord.f k a0 a1 a2 a3 a4).bind fun t115 => ((impl_ScaleWord.f a0 a1 a2 a3 a4).bind fun t116 => (if t116 = t115 then (some true) else (some false)))
theorem laws_FnExactScaleWord.mono : ∀ a0 a1 a2 a3 a4 k, LeO (laws_FnExactScaleWord.f k a0 a1 a2 a3 a4) (laws_FnExactScaleWord.f (k + 1) a0 a1 a2 a3 a4) := by
  intro a0 a1 a2 a3 a4 k
  unfold laws_FnExactScaleWord.f
  repeat' first
      | (with_reducible exact spec_ScaleWord.mono _ _ _ _ _ _)
      | (with_reducible exact LeO.refl _)
      | (with_reducible exact LeO.none _)
      | (with_reducible refine LeO.ite ?_ ?_)
      | (with_reducible refine LeO.bind ?_ (fun _ => ?_))
      | exact spec_ScaleWord.mono _ _ _ _ _ _
      | exact LeO.none _
      | refine LeO.ite ?_ ?_
      | refine LeO.bind ?_ (fun _ => ?_)
set_option maxHeartbeats 8000000 in
set_option maxRecDepth 100000 in
theorem laws_FnExactScaleWord.calls (k : Nat) (a0 : Int) (a1 : Int) (a2 : Int) (a3 : Int) (a4 : Int) (r : Bool) (w : World) (h : laws_FnExactScaleWord.f k a0 a1 a2 a3 a4 = some r) :
    Calls Try.prog 7 #[.int .i64 a0, .int .i64 a1, .int .i64 a2, .int .i64 a3, .int .i64 a4] w fun e w' => e = .returned (.bool r) ∧ Below w.heap.size w w' := by
  have HB := Aside0.mk (Below.refl w.heap.size w)
  have H : ((spec_ScaleWord.f k a0 a1 a2 a3 a4).bind fun t115 => ((impl_ScaleWord.f a0 a1 a2 a3 a4).bind fun t116 => (if t116 = t115 then (some true) else (some false)))) = some r := h
  clear h
  replace H := Option.bind_eq_some_iff.mp H
  obtain ⟨t115, A60, H⟩ := H
  replace H : ((impl_ScaleWord.f a0 a1 a2 a3 a4).bind fun t116 => (if t116 = t115 then (some true) else (some false))) = some r := H
  have A6 := Aside0.mk A60
  clear A60
  replace H := Option.bind_eq_some_iff.mp H
  obtain ⟨t116, A70, H⟩ := H
  replace H : (if t116 = t115 then (some true) else (some false)) = some r := H
  have A7 := Aside0.mk A70
  clear A70
  by_cases c8 : t116 = t115
  · rw [if_pos c8] at H
    have c8b0 : (t116 == t115) = true := beq_iff_eq.mpr c8
    have c8b1 : (t116 != t115) = false := bne_eq_false_iff_eq.mpr c8
    clear c8
    obtain rfl := Option.some.inj H
    go_enter Try.func7, Try.ntmps7
    go_wp2_with (first | ((with_reducible refine gate_callee (f := 26) rfl ?_); refine goesL_ (some 18) rfl rfl Try.func26 (by kernel_rfl) rfl #[.int .i64 a0, .int .i64 a1, .int .i64 a2, .int .i64 a3, .int .i64 a4] rfl (by (try simp only [List.map_toArray, List.map_cons, List.map_nil]); first | done | rfl | (simp only [List.length_drop, List.length_take]; rfl)) ?_; (with_reducible refine (spec_ScaleWord.calls k a0 a1 a2 a3 a4 t115 _ A6.out).mono ?_); rintro e w9 ⟨rfl, hb⟩; refine ⟨_, rfl, ?_⟩; have n0_ := Aside0.mk (below_step (by repeat (first | (with_reducible first | exact HB.out | apply below_alloc | apply pw_below_drewN | apply below_drew1) | exact HB.out)) hb); clear HB; have HB := n0_; clear n0_; (try clear hb); (try clear hb2); (try clear hk); (try clear hi)) | ((with_reducible refine gate_callee (f := 27) rfl ?_); refine goesL_ (some 24) rfl rfl Try.func27 (by kernel_rfl) rfl #[.int .i64 a0, .int .i64 a1, .int .i64 a2, .int .i64 a3, .int .i64 a4] rfl (by (try simp only [List.map_toArray, List.map_cons, List.map_nil]); first | done | rfl | (simp only [List.length_drop, List.length_take]; rfl)) ?_; (with_reducible refine (impl_ScaleWord.calls a0 a1 a2 a3 a4 t116 _ A7.out).mono ?_); rintro e w10 ⟨rfl, hb⟩; refine ⟨_, rfl, ?_⟩; have n0_ := Aside0.mk (below_step (by repeat (first | (with_reducible first | exact HB.out | apply below_alloc | apply pw_below_drewN | apply below_drew1) | exact HB.out)) hb); clear HB; have HB := n0_; clear n0_; (try clear hb); (try clear hb2); (try clear hk); (try clear hi)))
    go_ret
    exact ⟨by first | rfl | (simp [errW_none, errW_some] <;> rfl) | (simp [*, errW_none, errW_some] <;> rfl), by repeat (first | (with_reducible first | exact HB.out | apply below_alloc | apply pw_below_drewN | apply below_drew1) | exact HB.out)⟩
  · rw [if_neg c8] at H
    have c8b0 : (t116 == t115) = false := beq_eq_false_iff_ne.mpr c8
    have c8b1 : (t116 != t115) = true := bne_iff_ne.mpr c8
    obtain rfl := Option.some.inj H
    go_enter Try.func7, Try.ntmps7
    go_wp2_with (first | ((with_reducible refine gate_callee (f := 26) rfl ?_); refine goesL_ (some 18) rfl rfl Try.func26 (by kernel_rfl) rfl #[.int .i64 a0, .int .i64 a1, .int .i64 a2, .int .i64 a3, .int .i64 a4] rfl (by (try simp only [List.map_toArray, List.map_cons, List.map_nil]); first | done | rfl | (simp only [List.length_drop, List.length_take]; rfl)) ?_; (with_reducible refine (spec_ScaleWord.calls k a0 a1 a2 a3 a4 t115 _ A6.out).mono ?_); rintro e w11 ⟨rfl, hb⟩; refine ⟨_, rfl, ?_⟩; have n0_ := Aside0.mk (below_step (by repeat (first | (with_reducible first | exact HB.out | apply below_alloc | apply pw_below_drewN | apply below_drew1) | exact HB.out)) hb); clear HB; have HB := n0_; clear n0_; (try clear hb); (try clear hb2); (try clear hk); (try clear hi)) | ((with_reducible refine gate_callee (f := 27) rfl ?_); refine goesL_ (some 24) rfl rfl Try.func27 (by kernel_rfl) rfl #[.int .i64 a0, .int .i64 a1, .int .i64 a2, .int .i64 a3, .int .i64 a4] rfl (by (try simp only [List.map_toArray, List.map_cons, List.map_nil]); first | done | rfl | (simp only [List.length_drop, List.length_take]; rfl)) ?_; (with_reducible refine (impl_ScaleWord.calls a0 a1 a2 a3 a4 t116 _ A7.out).mono ?_); rintro e w12 ⟨rfl, hb⟩; refine ⟨_, rfl, ?_⟩; have n0_ := Aside0.mk (below_step (by repeat (first | (with_reducible first | exact HB.out | apply below_alloc | apply pw_below_drewN | apply below_drew1) | exact HB.out)) hb); clear HB; have HB := n0_; clear n0_; (try clear hb); (try clear hb2); (try clear hk); (try clear hi)))
    go_ret
    exact ⟨by first | rfl | (simp [errW_none, errW_some] <;> rfl) | (simp [*, errW_none, errW_some] <;> rfl), by repeat (first | (with_reducible first | exact HB.out | apply below_alloc | apply pw_below_drewN | apply below_drew1) | exact HB.out)⟩

/-- THE ONE PURE STATEMENT of laws_FnExactScaleWord: yours. -/
def laws_FnExactScaleWord.Pure : Prop := ∀ (a0 : Int) (a1 : Int) (a2 : Int) (a3 : Int) (a4 : Int), (Lit.int .i64 a0).wf = true → (Lit.int .i64 a1).wf = true → (Lit.int .i64 a2).wf = true → (Lit.int .i64 a3).wf = true → (Lit.int .i64 a4).wf = true → ∃ k, laws_FnExactScaleWord.f k a0 a1 a2 a3 a4 = some true
theorem laws_FnExactScaleWord.walk (P : laws_FnExactScaleWord.Pure) (a0 : Int) (a1 : Int) (a2 : Int) (a3 : Int) (a4 : Int) (w : World) (w0 : (Lit.int .i64 a0).wf = true) (w1 : (Lit.int .i64 a1).wf = true) (w2 : (Lit.int .i64 a2).wf = true) (w3 : (Lit.int .i64 a3).wf = true) (w4 : (Lit.int .i64 a4).wf = true) :
    Calls Try.prog 7 #[.int .i64 a0, .int .i64 a1, .int .i64 a2, .int .i64 a3, .int .i64 a4] w fun e w' => e = .returned (.bool true) ∧ Below w.heap.size w w' := by
  obtain ⟨k, h⟩ := P a0 a1 a2 a3 a4 w0 w1 w2 w3 w4
  refine (laws_FnExactScaleWord.calls k a0 a1 a2 a3 a4 true w h).mono ?_
  rintro e w' ⟨rfl, hd⟩
  exact ⟨rfl, hd⟩

end Go.Proofs.Ytimmlippglpmnaa.GFnExactScaleWord

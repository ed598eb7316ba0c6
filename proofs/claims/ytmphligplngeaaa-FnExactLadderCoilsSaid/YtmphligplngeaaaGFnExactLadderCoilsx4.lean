/- Functions of the program as Lean functions, with proofs that the machine comes to their answers; written by this session's program mkprint.py; no condition beyond each theorem's own. -/
import Derived.Test.YtmphligplngeaaaGFnExactLadderCoilsx0
import Derived.Test.YtmphligplngeaaaGFnExactLadderCoilsx1
import Derived.Test.YtmphligplngeaaaGFnExactLadderCoilsx2
import Derived.Test.YtmphligplngeaaaGFnExactLadderCoilsx3
namespace Go.Proofs.Ytmphligplngeaaa.GFnExactLadderCoils
open Go.RowKit Go.Proofs.YtmphligplngeaaaV.PrintWords Go.Proofs.YtmphligplngeaaaV.PrintLast Go.Proofs.YtmphligplngeaaaV.PrintMore
attribute [local go_sem] max2_int min2_int max_two min_two max_three min_three max_four min_four   -- for this text's walks alone
set_option linter.unusedVariables false
set_option linter.unusedSimpArgs false

/-! ### laws_FnExactLadderCoils: function 4 -/
def laws_FnExactLadderCoils.j0 : Nat → List (S58) → List Int → List Int → Bool → Option (Bool)
  | 0, _, _, _, _ => none
  | k + 1, x0, x4, x6, x42 => if x42 = true then (none) else ((laws_markIntS.f k x6 1).bind fun bt178 => ((laws_heldIntS.f k bt178.2 1).bind fun t180 => (if t180 < 0 then (none) else (if t180 = bt178.1 then ((laws_toRungS.f k x0).bind fun t181 => ((impl_LadderCoils.f t181).bind fun t184 => ((laws_eqIntS.f k t184 x4).bind fun t187 => (if t187 = true then ((laws_heldIntS.f k bt178.2 1).bind fun t188 => (if t188 < 0 then (none) else (if t188 = bt178.1 then (some true) else (none)))) else (none))))) else (none)))))
def laws_FnExactLadderCoils.f (k : Nat) (l0 : List (S58)) : Option (Bool) := (laws_szRungS.f k l0 1048576).bind fun t158 => (if t158 < 0 then (some true) else ((laws_toRungS.f k l0).bind fun t159 => ((spec_LadderCoils.f k t159).bind fun t162 => ((laws_toRungS.f k l0).bind fun t165 => ((impl_LadderCoils.f t165).bind fun t168 => ((laws_eqIntS.f k t168 t162).bind fun t171 => (if t171 = true then ((laws_toRungS.f k l0).bind fun t172 => ((laws_eqRungS.f k t165 t172).bind fun t175 => (if t175 = true then ((laws_markRungS.f k t165 1).bind fun t176 => (if t176 < 0 then (laws_FnExactLadderCoils.j0 k l0 t162 t168 true) else ((laws_eqIntS.f k t168 t162).bind fun t177 => (laws_FnExactLadderCoils.j0 k l0 t162 t168 (!t177))))) else (none)))) else (none))))))))
theorem laws_FnExactLadderCoils.mono_l : ∀ k, (∀ y0 y1 y2 y3, LeO (laws_FnExactLadderCoils.j0 k y0 y1 y2 y3) (laws_FnExactLadderCoils.j0 (k + 1) y0 y1 y2 y3))
  | 0 => fun _ _ _ _ r h => by simp [laws_FnExactLadderCoils.j0] at h
  | k + 1 => by
    have ih0 := laws_FnExactLadderCoils.mono_l k
    · intro y0 y1 y2 y3
      unfold laws_FnExactLadderCoils.j0
      repeat' first
      | (with_reducible exact ih0 _ _ _ _)
      | (with_reducible exact laws_eqIntS.mono _ _ _)
      | (with_reducible exact laws_eqRungS.mono _ _ _)
      | (with_reducible exact laws_heldIntS.mono _ _ _)
      | (with_reducible exact laws_markIntS.mono _ _ _)
      | (with_reducible exact laws_markRungS.mono _ _ _)
      | (with_reducible exact laws_szRungS.mono _ _ _)
      | (with_reducible exact laws_toRungS.mono _ _)
      | (with_reducible exact spec_LadderCoils.mono _ _)
      | (with_reducible exact LeO.refl _)
      | (with_reducible exact LeO.none _)
      | (with_reducible refine LeO.ite ?_ ?_)
      | (with_reducible refine LeO.bind ?_ (fun _ => ?_))
      | exact ih0 _ _ _ _
      | exact laws_eqIntS.mono _ _ _
      | exact laws_eqRungS.mono _ _ _
      | exact laws_heldIntS.mono _ _ _
      | exact laws_markIntS.mono _ _ _
      | exact laws_markRungS.mono _ _ _
      | exact laws_szRungS.mono _ _ _
      | exact laws_toRungS.mono _ _
      | exact spec_LadderCoils.mono _ _
      | exact LeO.none _
      | refine LeO.ite ?_ ?_
      | refine LeO.bind ?_ (fun _ => ?_)
theorem laws_FnExactLadderCoils.mono : ∀ a0 k, LeO (laws_FnExactLadderCoils.f k a0) (laws_FnExactLadderCoils.f (k + 1) a0) := by
  intro a0 k
  have ih0 := laws_FnExactLadderCoils.mono_l k
  unfold laws_FnExactLadderCoils.f
  repeat' first
      | (with_reducible exact ih0 _ _ _ _)
      | (with_reducible exact laws_eqIntS.mono _ _ _)
      | (with_reducible exact laws_eqRungS.mono _ _ _)
      | (with_reducible exact laws_heldIntS.mono _ _ _)
      | (with_reducible exact laws_markIntS.mono _ _ _)
      | (with_reducible exact laws_markRungS.mono _ _ _)
      | (with_reducible exact laws_szRungS.mono _ _ _)
      | (with_reducible exact laws_toRungS.mono _ _)
      | (with_reducible exact spec_LadderCoils.mono _ _)
      | (with_reducible exact LeO.refl _)
      | (with_reducible exact LeO.none _)
      | (with_reducible refine LeO.ite ?_ ?_)
      | (with_reducible refine LeO.bind ?_ (fun _ => ?_))
      | exact ih0 _ _ _ _
      | exact laws_eqIntS.mono _ _ _
      | exact laws_eqRungS.mono _ _ _
      | exact laws_heldIntS.mono _ _ _
      | exact laws_markIntS.mono _ _ _
      | exact laws_markRungS.mono _ _ _
      | exact laws_szRungS.mono _ _ _
      | exact laws_toRungS.mono _ _
      | exact spec_LadderCoils.mono _ _
      | exact LeO.none _
      | refine LeO.ite ?_ ?_
      | refine LeO.bind ?_ (fun _ => ?_)
set_option maxHeartbeats 8000000 in
set_option maxRecDepth 100000 in
theorem laws_FnExactLadderCoils.calls (k : Nat) (A0 : Option Addr) (c0 : Nat) (l0 : List (S58)) (r : Bool) (w : World) (hr0 : Kd.C k58 w A0 l0.length l0) (hc0 : l0.length ≤ c0) (h : laws_FnExactLadderCoils.f k l0 = some r) :
    Calls Try.prog 4 #[.slice A0 l0.length c0] w fun e w' => e = .returned (.bool r) ∧ Below w.heap.size w w' := by
  have HR0 := Aside0.mk hr0
  have HC0 := Aside0.mk hc0
  clear hr0 hc0
  have HB := Aside0.mk (Below.refl w.heap.size w)
  have H : ((laws_szRungS.f k l0 1048576).bind fun t158 => (if t158 < 0 then (some true) else ((laws_toRungS.f k l0).bind fun t159 => ((spec_LadderCoils.f k t159).bind fun t162 => ((laws_toRungS.f k l0).bind fun t165 => ((impl_LadderCoils.f t165).bind fun t168 => ((laws_eqIntS.f k t168 t162).bind fun t171 => (if t171 = true then ((laws_toRungS.f k l0).bind fun t172 => ((laws_eqRungS.f k t165 t172).bind fun t175 => (if t175 = true then ((laws_markRungS.f k t165 1).bind fun t176 => (if t176 < 0 then (laws_FnExactLadderCoils.j0 k l0 t162 t168 true) else ((laws_eqIntS.f k t168 t162).bind fun t177 => (laws_FnExactLadderCoils.j0 k l0 t162 t168 (!t177))))) else (none)))) else (none))))))))) = some r := h
  clear h
  replace H := Option.bind_eq_some_iff.mp H
  obtain ⟨t158, A20, H⟩ := H
  replace H : (if t158 < 0 then (some true) else ((laws_toRungS.f k l0).bind fun t159 => ((spec_LadderCoils.f k t159).bind fun t162 => ((laws_toRungS.f k l0).bind fun t165 => ((impl_LadderCoils.f t165).bind fun t168 => ((laws_eqIntS.f k t168 t162).bind fun t171 => (if t171 = true then ((laws_toRungS.f k l0).bind fun t172 => ((laws_eqRungS.f k t165 t172).bind fun t175 => (if t175 = true then ((laws_markRungS.f k t165 1).bind fun t176 => (if t176 < 0 then (laws_FnExactLadderCoils.j0 k l0 t162 t168 true) else ((laws_eqIntS.f k t168 t162).bind fun t177 => (laws_FnExactLadderCoils.j0 k l0 t162 t168 (!t177))))) else (none)))) else (none)))))))) = some r := H
  have A2 := Aside0.mk A20
  clear A20
  by_cases c3 : t158 < 0
  · rw [if_pos c3] at H
    have c3b0 : decide (t158 < 0) = true := decide_eq_true c3
    clear c3
    obtain rfl := Option.some.inj H
    go_enter Try.func4, Try.ntmps4
    go_wp2_with (first | ((with_reducible refine gate_callee (f := 9) rfl ?_); refine goesL_ (some 13) rfl rfl Try.func9 (by kernel_rfl) rfl #[.slice A0 l0.length c0, .int .i64 1048576] rfl (by (try simp only [List.map_toArray, List.map_cons, List.map_nil]); first | done | rfl | (simp only [List.length_drop, List.length_take]; rfl)) ?_; (with_reducible refine (laws_szRungS.calls k _ _ l0 1048576 t158 _ ?side1 ?side2 A2.out).mono ?_); (case side1 => repeat (first | exact HR0.out | (with_reducible refine Kd.C_alloc ?_ _) | (with_reducible refine Kd.C_drewN ?_ _) | (with_reducible refine Kd.C_drew ?_))); (case side2 => exact HC0.out); rintro e w4 ⟨rfl, hb⟩; refine ⟨_, rfl, ?_⟩; have n0_ := Aside0.mk (below_step (by repeat (first | (with_reducible first | exact HB.out | apply below_alloc | apply pw_below_drewN | apply below_drew1) | exact HB.out)) hb); clear HB; have HB := n0_; clear n0_; (try clear hb); (try clear hb2); (try clear hk); (try clear hi)))
    go_ret
    exact ⟨by first | rfl | (simp [errW_none, errW_some] <;> rfl) | (simp [*, errW_none, errW_some] <;> rfl), by repeat (first | (with_reducible first | exact HB.out | apply below_alloc | apply pw_below_drewN | apply below_drew1) | exact HB.out)⟩
  · rw [if_neg c3] at H
    have c3b0 : decide (t158 < 0) = false := decide_eq_false c3
    clear c3
    replace H := Option.bind_eq_some_iff.mp H
    obtain ⟨t159, A50, H⟩ := H
    replace H : ((spec_LadderCoils.f k t159).bind fun t162 => ((laws_toRungS.f k l0).bind fun t165 => ((impl_LadderCoils.f t165).bind fun t168 => ((laws_eqIntS.f k t168 t162).bind fun t171 => (if t171 = true then ((laws_toRungS.f k l0).bind fun t172 => ((laws_eqRungS.f k t165 t172).bind fun t175 => (if t175 = true then ((laws_markRungS.f k t165 1).bind fun t176 => (if t176 < 0 then (laws_FnExactLadderCoils.j0 k l0 t162 t168 true) else ((laws_eqIntS.f k t168 t162).bind fun t177 => (laws_FnExactLadderCoils.j0 k l0 t162 t168 (!t177))))) else (none)))) else (none)))))) = some r := H
    have A5 := Aside0.mk A50
    clear A50
    replace H := Option.bind_eq_some_iff.mp H
    obtain ⟨t162, A60, H⟩ := H
    replace H : ((laws_toRungS.f k l0).bind fun t165 => ((impl_LadderCoils.f t165).bind fun t168 => ((laws_eqIntS.f k t168 t162).bind fun t171 => (if t171 = true then ((laws_toRungS.f k l0).bind fun t172 => ((laws_eqRungS.f k t165 t172).bind fun t175 => (if t175 = true then ((laws_markRungS.f k t165 1).bind fun t176 => (if t176 < 0 then (laws_FnExactLadderCoils.j0 k l0 t162 t168 true) else ((laws_eqIntS.f k t168 t162).bind fun t177 => (laws_FnExactLadderCoils.j0 k l0 t162 t168 (!t177))))) else (none)))) else (none))))) = some r := H
    have A6 := Aside0.mk A60
    clear A60
    replace H := Option.bind_eq_some_iff.mp H
    obtain ⟨t165, A70, H⟩ := H
    replace H : ((impl_LadderCoils.f t165).bind fun t168 => ((laws_eqIntS.f k t168 t162).bind fun t171 => (if t171 = true then ((laws_toRungS.f k l0).bind fun t172 => ((laws_eqRungS.f k t165 t172).bind fun t175 => (if t175 = true then ((laws_markRungS.f k t165 1).bind fun t176 => (if t176 < 0 then (laws_FnExactLadderCoils.j0 k l0 t162 t168 true) else ((laws_eqIntS.f k t168 t162).bind fun t177 => (laws_FnExactLadderCoils.j0 k l0 t162 t168 (!t177))))) else (none)))) else (none)))) = some r := H
    have A7 := Aside0.mk A70
    clear A70
    replace H := Option.bind_eq_some_iff.mp H
    obtain ⟨t168, A80, H⟩ := H
    replace H : ((laws_eqIntS.f k t168 t162).bind fun t171 => (if t171 = true then ((laws_toRungS.f k l0).bind fun t172 => ((laws_eqRungS.f k t165 t172).bind fun t175 => (if t175 = true then ((laws_markRungS.f k t165 1).bind fun t176 => (if t176 < 0 then (laws_FnExactLadderCoils.j0 k l0 t162 t168 true) else ((laws_eqIntS.f k t168 t162).bind fun t177 => (laws_FnExactLadderCoils.j0 k l0 t162 t168 (!t177))))) else (none)))) else (none))) = some r := H
    have A8 := Aside0.mk A80
    clear A80
    replace H := Option.bind_eq_some_iff.mp H
    obtain ⟨t171, A90, H⟩ := H
    replace H : (if t171 = true then ((laws_toRungS.f k l0).bind fun t172 => ((laws_eqRungS.f k t165 t172).bind fun t175 => (if t175 = true then ((laws_markRungS.f k t165 1).bind fun t176 => (if t176 < 0 then (laws_FnExactLadderCoils.j0 k l0 t162 t168 true) else ((laws_eqIntS.f k t168 t162).bind fun t177 => (laws_FnExactLadderCoils.j0 k l0 t162 t168 (!t177))))) else (none)))) else (none)) = some r := H
    have A9 := Aside0.mk A90
    clear A90
    by_cases c10 : t171 = true
    · subst c10
      have H1 : ((laws_toRungS.f k l0).bind fun t172 => ((laws_eqRungS.f k t165 t172).bind fun t175 => (if t175 = true then ((laws_markRungS.f k t165 1).bind fun t176 => (if t176 < 0 then (laws_FnExactLadderCoils.j0 k l0 t162 t168 true) else ((laws_eqIntS.f k t168 t162).bind fun t177 => (laws_FnExactLadderCoils.j0 k l0 t162 t168 (!t177))))) else (none)))) = some r := by rw [if_pos rfl] at H; exact H
      clear H
      have H := H1
      clear H1
      replace H := Option.bind_eq_some_iff.mp H
      obtain ⟨t172, A110, H⟩ := H
      replace H : ((laws_eqRungS.f k t165 t172).bind fun t175 => (if t175 = true then ((laws_markRungS.f k t165 1).bind fun t176 => (if t176 < 0 then (laws_FnExactLadderCoils.j0 k l0 t162 t168 true) else ((laws_eqIntS.f k t168 t162).bind fun t177 => (laws_FnExactLadderCoils.j0 k l0 t162 t168 (!t177))))) else (none))) = some r := H
      have A11 := Aside0.mk A110
      clear A110
      replace H := Option.bind_eq_some_iff.mp H
      obtain ⟨t175, A120, H⟩ := H
      replace H : (if t175 = true then ((laws_markRungS.f k t165 1).bind fun t176 => (if t176 < 0 then (laws_FnExactLadderCoils.j0 k l0 t162 t168 true) else ((laws_eqIntS.f k t168 t162).bind fun t177 => (laws_FnExactLadderCoils.j0 k l0 t162 t168 (!t177))))) else (none)) = some r := H
      have A12 := Aside0.mk A120
      clear A120
      by_cases c13 : t175 = true
      · subst c13
        have H1 : ((laws_markRungS.f k t165 1).bind fun t176 => (if t176 < 0 then (laws_FnExactLadderCoils.j0 k l0 t162 t168 true) else ((laws_eqIntS.f k t168 t162).bind fun t177 => (laws_FnExactLadderCoils.j0 k l0 t162 t168 (!t177))))) = some r := by rw [if_pos rfl] at H; exact H
        clear H
        have H := H1
        clear H1
        replace H := Option.bind_eq_some_iff.mp H
        obtain ⟨t176, A140, H⟩ := H
        replace H : (if t176 < 0 then (laws_FnExactLadderCoils.j0 k l0 t162 t168 true) else ((laws_eqIntS.f k t168 t162).bind fun t177 => (laws_FnExactLadderCoils.j0 k l0 t162 t168 (!t177)))) = some r := H
        have A14 := Aside0.mk A140
        clear A140
        have HC15 := Aside0.mk H
        clear H
        go_enter Try.func4, Try.ntmps4
        go_upto_region 14 with (first | ((with_reducible refine gate_callee (f := 9) rfl ?_); refine goesL_ (some 13) rfl rfl Try.func9 (by kernel_rfl) rfl #[.slice A0 l0.length c0, .int .i64 1048576] rfl (by (try simp only [List.map_toArray, List.map_cons, List.map_nil]); first | done | rfl | (simp only [List.length_drop, List.length_take]; rfl)) ?_; (with_reducible refine (laws_szRungS.calls k _ _ l0 1048576 t158 _ ?side1 ?side2 A2.out).mono ?_); (case side1 => repeat (first | exact HR0.out | (with_reducible refine Kd.C_alloc ?_ _) | (with_reducible refine Kd.C_drewN ?_ _) | (with_reducible refine Kd.C_drew ?_))); (case side2 => exact HC0.out); rintro e w16 ⟨rfl, hb⟩; refine ⟨_, rfl, ?_⟩; have n0_ := Aside0.mk (below_step (by repeat (first | (with_reducible first | exact HB.out | apply below_alloc | apply pw_below_drewN | apply below_drew1) | exact HB.out)) hb); clear HB; have HB := n0_; clear n0_; (try clear hb); (try clear hb2); (try clear hk); (try clear hi)) | ((with_reducible refine gate_callee (f := 11) rfl ?_); refine goesL_ (some 17) rfl rfl Try.func11 (by kernel_rfl) rfl #[.slice A0 l0.length c0] rfl (by (try simp only [List.map_toArray, List.map_cons, List.map_nil]); first | done | rfl | (simp only [List.length_drop, List.length_take]; rfl)) ?_; (with_reducible refine (laws_toRungS.calls k _ _ l0 t159 _ ?side1 ?side2 A5.out).mono ?_); (case side1 => repeat (first | exact (Kd.C_below HR0.out HB.out) | (with_reducible refine Kd.C_alloc ?_ _) | (with_reducible refine Kd.C_drewN ?_ _) | (with_reducible refine Kd.C_drew ?_))); (case side2 => exact HC0.out); rintro e w17 ⟨v160, rfl, ho0, hb⟩; refine ⟨_, rfl, ?_⟩; have n0_ := Aside0.mk (Kd.S_lower ho0 (below_size (by repeat (first | (with_reducible first | exact HB.out | apply below_alloc | apply pw_below_drewN | apply below_drew1) | exact HB.out)))); have n1_ := Aside0.mk (below_step (by repeat (first | (with_reducible first | exact HB.out | apply below_alloc | apply pw_below_drewN | apply below_drew1) | exact HB.out)) hb); clear HB; have HO161 := n0_; have HB := n1_; clear n0_ n1_; (try clear hb); (try clear hb2); (try clear hk); (try clear hi); (try clear ho0); obtain ⟨Ao18, co18, eo18⟩ := Kd.S_slice HO161.out; subst eo18) | ((with_reducible refine gate_callee (f := 18) rfl ?_); refine goesL_ (some 18) rfl rfl Try.func18 (by kernel_rfl) rfl #[.slice Ao18 t159.length co18] rfl (by (try simp only [List.map_toArray, List.map_cons, List.map_nil]); first | done | rfl | (simp only [List.length_drop, List.length_take]; rfl)) ?_; (with_reducible refine (spec_LadderCoils.calls k _ _ t159 t162 _ ?side1 ?side2 A6.out).mono ?_); (case side1 => repeat (first | exact (Kd.S_reads' HO161.out).2.2 | (with_reducible refine Kd.C_alloc ?_ _) | (with_reducible refine Kd.C_drewN ?_ _) | (with_reducible refine Kd.C_drew ?_))); (case side2 => exact (Kd.S_reads' HO161.out).2.1); rintro e w19 ⟨v163, rfl, ho0, hb⟩; refine ⟨_, rfl, ?_⟩; have n0_ := Aside0.mk (Kd.S_below (by (with_reducible repeat (first | apply Kd.S_alloc | apply Kd.S_drewN | apply Kd.S_drew)); exact HO161.out) hb); have n1_ := Aside0.mk (Kd.R_lower ho0 (below_size (by repeat (first | (with_reducible first | exact HB.out | apply below_alloc | apply pw_below_drewN | apply below_drew1) | exact HB.out)))); have n2_ := Aside0.mk (below_step (by repeat (first | (with_reducible first | exact HB.out | apply below_alloc | apply pw_below_drewN | apply below_drew1) | exact HB.out)) hb); clear HO161; clear HB; have HO161 := n0_; have HO164 := n1_; have HB := n2_; clear n0_ n1_ n2_; (try clear hb); (try clear hb2); (try clear hk); (try clear hi); (try clear ho0)) | ((with_reducible refine gate_callee (f := 11) rfl ?_); refine goesL_ (some 20) rfl rfl Try.func11 (by kernel_rfl) rfl #[.slice A0 l0.length c0] rfl (by (try simp only [List.map_toArray, List.map_cons, List.map_nil]); first | done | rfl | (simp only [List.length_drop, List.length_take]; rfl)) ?_; (with_reducible refine (laws_toRungS.calls k _ _ l0 t165 _ ?side1 ?side2 A7.out).mono ?_); (case side1 => repeat (first | exact (Kd.C_below HR0.out HB.out) | (with_reducible refine Kd.C_alloc ?_ _) | (with_reducible refine Kd.C_drewN ?_ _) | (with_reducible refine Kd.C_drew ?_))); (case side2 => exact HC0.out); rintro e w20 ⟨v166, rfl, ho0, hb⟩; refine ⟨_, rfl, ?_⟩; have n0_ := Aside0.mk (Kd.S_elder' (by (with_reducible repeat (first | apply Kd.S_alloc | apply Kd.S_drewN | apply Kd.S_drew)); exact HO161.out) (Kd.S_base ho0) hb); have n1_ := Aside0.mk (Kd.R_below (by (with_reducible repeat (first | apply Kd.R_alloc | apply Kd.R_drewN | apply Kd.R_drew)); exact HO164.out) hb); have n2_ := Aside0.mk (Kd.S_lower (Kd.S_new' ho0 (Kd.S_lt (by (with_reducible repeat (first | apply Kd.S_alloc | apply Kd.S_drewN | apply Kd.S_drew)); exact HO161.out))) (below_size (by repeat (first | (with_reducible first | exact HB.out | apply below_alloc | apply pw_below_drewN | apply below_drew1) | exact HB.out)))); have n3_ := Aside0.mk (below_step (by repeat (first | (with_reducible first | exact HB.out | apply below_alloc | apply pw_below_drewN | apply below_drew1) | exact HB.out)) hb); clear HO161; clear HO164; clear HB; have HO161 := n0_; have HO164 := n1_; have HO167 := n2_; have HB := n3_; clear n0_ n1_ n2_ n3_; (try clear hb); (try clear hb2); (try clear hk); (try clear hi); (try clear ho0); obtain ⟨Ao21, co21, eo21⟩ := Kd.S_slice HO167.out; subst eo21) | ((with_reducible refine gate_callee (f := 19) rfl ?_); refine goesL_ (some 22) rfl rfl Try.func19 (by kernel_rfl) rfl #[.slice Ao21 t165.length co21] rfl (by (try simp only [List.map_toArray, List.map_cons, List.map_nil]); first | done | rfl | (simp only [List.length_drop, List.length_take]; rfl)) ?_; (with_reducible refine (impl_LadderCoils.calls _ _ t165 t168 _ ?side1 ?side2 A8.out).mono ?_); (case side1 => repeat (first | exact (Kd.S_reads' HO167.out).2.2 | (with_reducible refine Kd.C_alloc ?_ _) | (with_reducible refine Kd.C_drewN ?_ _) | (with_reducible refine Kd.C_drew ?_))); (case side2 => exact (Kd.S_reads' HO167.out).2.1); rintro e w22 ⟨v169, rfl, ho0, hb⟩; refine ⟨_, rfl, ?_⟩; have n0_ := Aside0.mk (Kd.S_below (by (with_reducible repeat (first | apply Kd.S_alloc | apply Kd.S_drewN | apply Kd.S_drew)); exact HO161.out) hb); have n1_ := Aside0.mk (Kd.R_elder' (by (with_reducible repeat (first | apply Kd.R_alloc | apply Kd.R_drewN | apply Kd.R_drew)); exact HO164.out) (Kd.Q_base ho0) hb); have n2_ := Aside0.mk (Kd.S_below (by (with_reducible repeat (first | apply Kd.S_alloc | apply Kd.S_drewN | apply Kd.S_drew)); exact HO167.out) hb); have n3_ := Aside0.mk (Kd.Q_lower (Kd.Q_new' ho0 (Kd.R_lt (by (with_reducible repeat (first | apply Kd.R_alloc | apply Kd.R_drewN | apply Kd.R_drew)); exact HO164.out))) (below_size (by repeat (first | (with_reducible first | exact HB.out | apply below_alloc | apply pw_below_drewN | apply below_drew1) | exact HB.out)))); have n4_ := Aside0.mk (below_step (by repeat (first | (with_reducible first | exact HB.out | apply below_alloc | apply pw_below_drewN | apply below_drew1) | exact HB.out)) hb); clear HO161; clear HO164; clear HO167; clear HB; have HO161 := n0_; have HO164 := n1_; have HO167 := n2_; have HO170 := n3_; have HB := n4_; clear n0_ n1_ n2_ n3_ n4_; (try clear hb); (try clear hb2); (try clear hk); (try clear hi); (try clear ho0); obtain ⟨Ao23, co23, eo23, _⟩ := Kd.Q_slice HO170.out; subst eo23; obtain ⟨Ao24, co24, eo24⟩ := Kd.R_slice HO164.out; subst eo24) | ((with_reducible refine gate_callee (f := 13) rfl ?_); refine goesL_ (some 25) rfl rfl Try.func13 (by kernel_rfl) rfl #[.slice Ao23 t168.length co23, .slice Ao24 t162.length co24] rfl (by (try simp only [List.map_toArray, List.map_cons, List.map_nil]); first | done | rfl | (simp only [List.length_drop, List.length_take]; rfl)) ?_; (with_reducible refine (laws_eqIntS.calls k _ _ t168 _ _ t162 true _ ?side1 ?side2 ?side3 ?side4 A9.out).mono ?_); (case side1 => repeat (first | exact (Kd.Q_reads' HO170.out).2.2 | (with_reducible refine Kd.C_alloc ?_ _) | (with_reducible refine Kd.C_drewN ?_ _) | (with_reducible refine Kd.C_drew ?_))); (case side2 => exact (Kd.Q_reads' HO170.out).2.1); (case side3 => repeat (first | exact (Kd.R_reads' HO164.out).2.2 | (with_reducible refine Kd.C_alloc ?_ _) | (with_reducible refine Kd.C_drewN ?_ _) | (with_reducible refine Kd.C_drew ?_))); (case side4 => exact (Kd.R_reads' HO164.out).2.1); rintro e w' ⟨rfl, ⟨nd, rfl⟩⟩; refine ⟨_, rfl, ?_⟩) | ((with_reducible refine gate_callee (f := 11) rfl ?_); refine goesL_ (some 29) rfl rfl Try.func11 (by kernel_rfl) rfl #[.slice A0 l0.length c0] rfl (by (try simp only [List.map_toArray, List.map_cons, List.map_nil]); first | done | rfl | (simp only [List.length_drop, List.length_take]; rfl)) ?_; (with_reducible refine (laws_toRungS.calls k _ _ l0 t172 _ ?side1 ?side2 A11.out).mono ?_); (case side1 => repeat (first | exact (Kd.C_below HR0.out (by repeat (first | (with_reducible first | exact HB.out | apply below_alloc | apply pw_below_drewN | apply below_drew1) | exact HB.out))) | (with_reducible refine Kd.C_alloc ?_ _) | (with_reducible refine Kd.C_drewN ?_ _) | (with_reducible refine Kd.C_drew ?_))); (case side2 => exact HC0.out); rintro e w25 ⟨v173, rfl, ho0, hb⟩; refine ⟨_, rfl, ?_⟩; have n0_ := Aside0.mk (Kd.S_elder' (by (with_reducible repeat (first | apply Kd.S_alloc | apply Kd.S_drewN | apply Kd.S_drew)); exact HO161.out) (Kd.S_base ho0) hb); have n1_ := Aside0.mk (Kd.R_below (by (with_reducible repeat (first | apply Kd.R_alloc | apply Kd.R_drewN | apply Kd.R_drew)); exact HO164.out) hb); have n2_ := Aside0.mk (Kd.S_elder' (by (with_reducible repeat (first | apply Kd.S_alloc | apply Kd.S_drewN | apply Kd.S_drew)); exact HO167.out) (Kd.S_base ho0) hb); have n3_ := Aside0.mk (Kd.Q_below (by (with_reducible repeat (first | apply Kd.Q_alloc | apply Kd.Q_drewN | apply Kd.Q_drew)); exact HO170.out) hb); have n4_ := Aside0.mk (Kd.S_lower (Kd.S_new' (Kd.S_new' ho0 (Kd.S_lt (by (with_reducible repeat (first | apply Kd.S_alloc | apply Kd.S_drewN | apply Kd.S_drew)); exact HO161.out))) (Kd.S_lt (by (with_reducible repeat (first | apply Kd.S_alloc | apply Kd.S_drewN | apply Kd.S_drew)); exact HO167.out))) (below_size (by repeat (first | (with_reducible first | exact HB.out | apply below_alloc | apply pw_below_drewN | apply below_drew1) | exact HB.out)))); have n5_ := Aside0.mk (below_step (by repeat (first | (with_reducible first | exact HB.out | apply below_alloc | apply pw_below_drewN | apply below_drew1) | exact HB.out)) hb); clear HO161; clear HO164; clear HO167; clear HO170; clear HB; have HO161 := n0_; have HO164 := n1_; have HO167 := n2_; have HO170 := n3_; have HO174 := n4_; have HB := n5_; clear n0_ n1_ n2_ n3_ n4_ n5_; (try clear hb); (try clear hb2); (try clear hk); (try clear hi); (try clear ho0); obtain ⟨Ao26, co26, eo26⟩ := Kd.S_slice HO174.out; subst eo26) | ((with_reducible refine gate_callee (f := 14) rfl ?_); refine goesL_ (some 30) rfl rfl Try.func14 (by kernel_rfl) rfl #[.slice Ao21 t165.length co21, .slice Ao26 t172.length co26] rfl (by (try simp only [List.map_toArray, List.map_cons, List.map_nil]); first | done | rfl | (simp only [List.length_drop, List.length_take]; rfl)) ?_; (with_reducible refine (laws_eqRungS.calls k _ _ t165 _ _ t172 true _ ?side1 ?side2 ?side3 ?side4 A12.out).mono ?_); (case side1 => repeat (first | exact (Kd.S_reads' HO167.out).2.2 | (with_reducible refine Kd.C_alloc ?_ _) | (with_reducible refine Kd.C_drewN ?_ _) | (with_reducible refine Kd.C_drew ?_))); (case side2 => exact (Kd.S_reads' HO167.out).2.1); (case side3 => repeat (first | exact (Kd.S_reads' HO174.out).2.2 | (with_reducible refine Kd.C_alloc ?_ _) | (with_reducible refine Kd.C_drewN ?_ _) | (with_reducible refine Kd.C_drew ?_))); (case side4 => exact (Kd.S_reads' HO174.out).2.1); rintro e w27 ⟨rfl, hb⟩; refine ⟨_, rfl, ?_⟩; have n0_ := Aside0.mk (Kd.S_below (by (with_reducible repeat (first | apply Kd.S_alloc | apply Kd.S_drewN | apply Kd.S_drew)); exact HO161.out) hb); have n1_ := Aside0.mk (Kd.R_below (by (with_reducible repeat (first | apply Kd.R_alloc | apply Kd.R_drewN | apply Kd.R_drew)); exact HO164.out) hb); have n2_ := Aside0.mk (Kd.S_below (by (with_reducible repeat (first | apply Kd.S_alloc | apply Kd.S_drewN | apply Kd.S_drew)); exact HO167.out) hb); have n3_ := Aside0.mk (Kd.Q_below (by (with_reducible repeat (first | apply Kd.Q_alloc | apply Kd.Q_drewN | apply Kd.Q_drew)); exact HO170.out) hb); have n4_ := Aside0.mk (Kd.S_below (by (with_reducible repeat (first | apply Kd.S_alloc | apply Kd.S_drewN | apply Kd.S_drew)); exact HO174.out) hb); have n5_ := Aside0.mk (below_step (by repeat (first | (with_reducible first | exact HB.out | apply below_alloc | apply pw_below_drewN | apply below_drew1) | exact HB.out)) hb); clear HO161; clear HO164; clear HO167; clear HO170; clear HO174; clear HB; have HO161 := n0_; have HO164 := n1_; have HO167 := n2_; have HO170 := n3_; have HO174 := n4_; have HB := n5_; clear n0_ n1_ n2_ n3_ n4_ n5_; (try clear hb); (try clear hb2); (try clear hk); (try clear hi)) | ((with_reducible refine gate_callee (f := 15) rfl ?_); refine goesL_ (some 34) rfl rfl Try.func15 (by kernel_rfl) rfl #[.slice Ao21 t165.length co21, .int .i64 1] rfl (by (try simp only [List.map_toArray, List.map_cons, List.map_nil]); first | done | rfl | (simp only [List.length_drop, List.length_take]; rfl)) ?_; (with_reducible refine (laws_markRungS.calls k (.slice Ao21 t165.length co21) t165 1 t176 w _ ?side1 ?side2 A14.out).mono ?_); (case side1 => repeat (first | (with_reducible first | exact HB.out | apply below_alloc | apply pw_below_drewN | apply below_drew1) | exact HB.out)); (case side2 => exact Kd.S_mono HO167.out (fun _ _ => trivial)); rintro e w28 ⟨rfl, hb, hkp⟩; refine ⟨_, rfl, ?_⟩; have n1_ := Aside0.mk (Kd.R_mono (ok' := fun k_ => some k_ ≠ (.slice Ao23 t168.length co23 : Value).ownBlock) (Kd.R_keptB ((laws_markRungS.apartR HO164.out (by decide))) hkp (fun k_ hk_ hs_ => (hk_.2) hs_)) (fun k_ hk_ => hk_.1.1.2)); have n2_ := Aside0.mk (Kd.Q_mono (ok' := fun k_ => some k_ ≠ (.slice Ao24 t162.length co24 : Value).ownBlock) (Kd.Q_keptB ((laws_markRungS.apartQ HO170.out (by decide))) hkp (fun k_ hk_ hs_ => (hk_.2) hs_)) (fun k_ hk_ => hk_.1.1.2)); have n4_ := Aside0.mk (hb); clear HO161; clear HO164; clear HO170; clear HO174; clear HB; clear HO167; have HO164 := n1_; have HO170 := n2_; have HB := n4_; clear n1_ n2_ n4_; (try clear hb); (try clear hkp)))
        (try simp only [Act.put, List.setIfInBounds_toArray, List.set_cons_zero, List.set_cons_succ])
        go_cut [42] (fun v42 wc => ∃ (kq : Nat) (x42_14 : Bool), v42 = .bool x42_14 ∧ Aside0 (laws_FnExactLadderCoils.j0 kq l0 t162 t168 x42_14 = some r) ∧ Aside0 (kq ≤ k) ∧ Aside0 (Kd.R (Kd.int .i64) 3 wc w.heap.size (fun k_ => some k_ ≠ ((.slice Ao23 t168.length co23) : Value).ownBlock) (.slice Ao24 t162.length co24) t162) ∧ Aside0 (Kd.Q (Kd.int .i64) 3 wc w.heap.size (fun k_ => some k_ ≠ ((.slice Ao24 t162.length co24) : Value).ownBlock) (.slice Ao23 t168.length co23) t168) ∧ Aside0 (Below w.heap.size w wc))
        case first =>
          have H := HC15.out
          clear HC15
          by_cases c29 : t176 < 0
          · rw [if_pos c29] at H
            have c29b0 : decide (t176 < 0) = true := decide_eq_true c29
            clear c29
            (first | rw [c29b0] | (simp only [i64_w, i32_w]; rw [c29b0]) | skip)
            have H' := Aside0.mk H
            clear H
            go_wp2
            go_meet
            case rel => exact ⟨_, (true), (by first | rfl | (simp; done) | (simp [*]; done)), H', ⟨by first | omega | exact Nat.le_refl _⟩, ⟨by (with_reducible repeat (first | apply Kd.R_alloc | apply Kd.R_drewN | apply Kd.R_drew)); exact HO164.out⟩, ⟨by (with_reducible repeat (first | apply Kd.Q_alloc | apply Kd.Q_drewN | apply Kd.Q_drew)); exact HO170.out⟩, ⟨by repeat (first | (with_reducible first | exact HB.out | apply below_alloc | apply pw_below_drewN | apply below_drew1) | exact HB.out)⟩⟩
          · rw [if_neg c29] at H
            have c29b0 : decide (t176 < 0) = false := decide_eq_false c29
            clear c29
            (first | rw [c29b0] | (simp only [i64_w, i32_w]; rw [c29b0]) | skip)
            replace H := Option.bind_eq_some_iff.mp H
            obtain ⟨t177, A300, H⟩ := H
            replace H : (laws_FnExactLadderCoils.j0 k l0 t162 t168 (!t177)) = some r := H
            have A30 := Aside0.mk A300
            clear A300
            have H' := Aside0.mk H
            clear H
            go_wp2_with (first | (go_at_call 13; (with_reducible refine (laws_eqIntS.calls k _ _ t168 _ _ t162 t177 _ ?side1 ?side2 ?side3 ?side4 A30.out).mono ?_); (case side1 => repeat (first | exact (Kd.Q_reads' HO170.out).2.2 | (with_reducible refine Kd.C_alloc ?_ _) | (with_reducible refine Kd.C_drewN ?_ _) | (with_reducible refine Kd.C_drew ?_))); (case side2 => exact (Kd.Q_reads' HO170.out).2.1); (case side3 => repeat (first | exact (Kd.R_reads' HO164.out).2.2 | (with_reducible refine Kd.C_alloc ?_ _) | (with_reducible refine Kd.C_drewN ?_ _) | (with_reducible refine Kd.C_drew ?_))); (case side4 => exact (Kd.R_reads' HO164.out).2.1); rintro e w' ⟨rfl, ⟨nd, rfl⟩⟩))
            go_meet
            case rel => exact ⟨_, (!t177), (by first | rfl | (simp; done) | (simp [*]; done)), H', ⟨by first | omega | exact Nat.le_refl _⟩, ⟨by (with_reducible repeat (first | apply Kd.R_alloc | apply Kd.R_drewN | apply Kd.R_drew)); exact HO164.out⟩, ⟨by (with_reducible repeat (first | apply Kd.Q_alloc | apply Kd.Q_drewN | apply Kd.Q_drew)); exact HO170.out⟩, ⟨by repeat (first | (with_reducible first | exact HB.out | apply below_alloc | apply pw_below_drewN | apply below_drew1) | exact HB.out)⟩⟩
        case rest =>
          clear HC15
          try clear c1
          try clear c2
          try clear p2
          try clear c3
          try clear c3b0
          try clear c4
          try clear c9
          try clear c10
          try clear c11
          try clear c13
          try clear c14
          try clear c15
          try clear c18
          try clear c19
          try clear c29
          try clear c29b0
          obtain ⟨kq, x42_14, rfl, HA, HJ14, HO_4, HO_6, HB⟩ := hcut
          cases kq with
          | zero => exact absurd HA.out (by simp [laws_FnExactLadderCoils.j0])
          | succ kj14 =>
            have H := HA.out
            clear HA
            simp only [laws_FnExactLadderCoils.j0] at H
            by_cases c31 : x42_14 = true
            · subst c31
              have H1 : (none) = some r := by rw [if_pos rfl] at H; exact H
              clear H
              have H := H1
              clear H1
              exact absurd H (by simp)
            · replace c31 := Bool.eq_false_iff.mpr c31
              subst c31
              have H1 : ((laws_markIntS.f kj14 t168 1).bind fun bt178 => ((laws_heldIntS.f kj14 bt178.2 1).bind fun t180 => (if t180 < 0 then (none) else (if t180 = bt178.1 then ((laws_toRungS.f kj14 l0).bind fun t181 => ((impl_LadderCoils.f t181).bind fun t184 => ((laws_eqIntS.f kj14 t184 t162).bind fun t187 => (if t187 = true then ((laws_heldIntS.f kj14 bt178.2 1).bind fun t188 => (if t188 < 0 then (none) else (if t188 = bt178.1 then (some true) else (none)))) else (none))))) else (none))))) = some r := by rw [if_neg (show ¬ (false = true) by decide)] at H; exact H
              clear H
              have H := H1
              clear H1
              replace H := Option.bind_eq_some_iff.mp H
              obtain ⟨⟨t178, t179⟩, A320, H⟩ := H
              replace H : ((laws_heldIntS.f kj14 t179 1).bind fun t180 => (if t180 < 0 then (none) else (if t180 = t178 then ((laws_toRungS.f kj14 l0).bind fun t181 => ((impl_LadderCoils.f t181).bind fun t184 => ((laws_eqIntS.f kj14 t184 t162).bind fun t187 => (if t187 = true then ((laws_heldIntS.f kj14 t179 1).bind fun t188 => (if t188 < 0 then (none) else (if t188 = t178 then (some true) else (none)))) else (none))))) else (none)))) = some r := H
              have A32 := Aside0.mk A320
              clear A320
              replace H := Option.bind_eq_some_iff.mp H
              obtain ⟨t180, A330, H⟩ := H
              replace H : (if t180 < 0 then (none) else (if t180 = t178 then ((laws_toRungS.f kj14 l0).bind fun t181 => ((impl_LadderCoils.f t181).bind fun t184 => ((laws_eqIntS.f kj14 t184 t162).bind fun t187 => (if t187 = true then ((laws_heldIntS.f kj14 t179 1).bind fun t188 => (if t188 < 0 then (none) else (if t188 = t178 then (some true) else (none)))) else (none))))) else (none))) = some r := H
              have A33 := Aside0.mk A330
              clear A330
              by_cases c34 : t180 < 0
              · rw [if_pos c34] at H
                exact absurd H (by simp)
              · rw [if_neg c34] at H
                have c34b0 : decide (t180 < 0) = false := decide_eq_false c34
                clear c34
                by_cases c35 : t180 = t178
                · rw [if_pos c35] at H
                  have c35b0 : (t180 == t178) = true := beq_iff_eq.mpr c35
                  have c35b1 : (t180 != t178) = false := bne_eq_false_iff_eq.mpr c35
                  clear c35
                  replace H := Option.bind_eq_some_iff.mp H
                  obtain ⟨t181, A360, H⟩ := H
                  replace H : ((impl_LadderCoils.f t181).bind fun t184 => ((laws_eqIntS.f kj14 t184 t162).bind fun t187 => (if t187 = true then ((laws_heldIntS.f kj14 t179 1).bind fun t188 => (if t188 < 0 then (none) else (if t188 = t178 then (some true) else (none)))) else (none)))) = some r := H
                  have A36 := Aside0.mk A360
                  clear A360
                  replace H := Option.bind_eq_some_iff.mp H
                  obtain ⟨t184, A370, H⟩ := H
                  replace H : ((laws_eqIntS.f kj14 t184 t162).bind fun t187 => (if t187 = true then ((laws_heldIntS.f kj14 t179 1).bind fun t188 => (if t188 < 0 then (none) else (if t188 = t178 then (some true) else (none)))) else (none))) = some r := H
                  have A37 := Aside0.mk A370
                  clear A370
                  replace H := Option.bind_eq_some_iff.mp H
                  obtain ⟨t187, A380, H⟩ := H
                  replace H : (if t187 = true then ((laws_heldIntS.f kj14 t179 1).bind fun t188 => (if t188 < 0 then (none) else (if t188 = t178 then (some true) else (none)))) else (none)) = some r := H
                  have A38 := Aside0.mk A380
                  clear A380
                  by_cases c39 : t187 = true
                  · subst c39
                    have H1 : ((laws_heldIntS.f kj14 t179 1).bind fun t188 => (if t188 < 0 then (none) else (if t188 = t178 then (some true) else (none)))) = some r := by rw [if_pos rfl] at H; exact H
                    clear H
                    have H := H1
                    clear H1
                    replace H := Option.bind_eq_some_iff.mp H
                    obtain ⟨t188, A400, H⟩ := H
                    replace H : (if t188 < 0 then (none) else (if t188 = t178 then (some true) else (none))) = some r := H
                    have A40 := Aside0.mk A400
                    clear A400
                    by_cases c41 : t188 < 0
                    · rw [if_pos c41] at H
                      exact absurd H (by simp)
                    · rw [if_neg c41] at H
                      have c41b0 : decide (t188 < 0) = false := decide_eq_false c41
                      clear c41
                      by_cases c42 : t188 = t178
                      · rw [if_pos c42] at H
                        have c42b0 : (t188 == t178) = true := beq_iff_eq.mpr c42
                        have c42b1 : (t188 != t178) = false := bne_eq_false_iff_eq.mpr c42
                        clear c42
                        obtain rfl := Option.some.inj H
                        go_wp2_with (first | ((with_reducible refine gate_callee (f := 16) rfl ?_); refine goesL_ (some 45) rfl rfl Try.func16 (by kernel_rfl) rfl #[.slice Ao23 t168.length co23, .int .i64 1] rfl (by (try simp only [List.map_toArray, List.map_cons, List.map_nil]); first | done | rfl | (simp only [List.length_drop, List.length_take]; rfl)) ?_; (with_reducible refine (laws_markIntS.calls kj14 (fun k_ => some k_ = (.slice Ao23 t168.length co23 : Value).ownBlock) (.slice Ao23 t168.length co23) t168 1 t178 t179 w _ ?side1 ?side2 A32.out).mono ?_); (case side1 => repeat (first | (with_reducible first | exact HB.out | apply below_alloc | apply pw_below_drewN | apply below_drew1) | exact HB.out)); (case side2 => exact Kd.Q_tight rfl HO_6.out); rintro e w43 ⟨rfl, hy0, hb, hkp⟩; refine ⟨_, rfl, ?_⟩; have n0_ := Aside0.mk (Kd.R_mono (ok' := fun k_ => some k_ ≠ (.slice Ao23 t168.length co23 : Value).ownBlock) (Kd.R_keptB (HO_4.out) hkp (fun k_ hk_ hs_ => (hk_) hs_)) (fun k_ hk_ => hk_.1)); have n1_ := Aside0.mk (Kd.Q_reok rfl hy0 (fun k_ e_ => HO_6.out.1 k_ e_)); have n2_ := Aside0.mk (hb); clear HO_4; clear HO_6; clear HB; have HO_4 := n0_; have HO_6 := n1_; have HB := n2_; clear n0_ n1_ n2_; (try clear hb); (try clear hkp); (try clear hy0)) | ((with_reducible refine gate_callee (f := 17) rfl ?_); refine goesL_ (some 48) rfl rfl Try.func17 (by kernel_rfl) rfl #[.slice Ao23 t179.length co23, .int .i64 1] rfl (by (try simp only [List.map_toArray, List.map_cons, List.map_nil]); first | done | (rw [show t179.length = t168.length from (Kd.Q_reads' HO_6.out).1.symm] <;> rfl) | rfl | (simp only [List.length_drop, List.length_take]; rfl)) ?_; (with_reducible refine (laws_heldIntS.calls kj14 _ _ t179 1 t180 _ ?side1 ?side2 A33.out).mono ?_); (case side1 => repeat (first | exact (Kd.Q_reads' HO_6.out).2.2 | (with_reducible refine Kd.C_alloc ?_ _) | (with_reducible refine Kd.C_drewN ?_ _) | (with_reducible refine Kd.C_drew ?_))); (case side2 => rw [show t179.length = t168.length from (Kd.Q_reads' HO_6.out).1.symm]; exact (Kd.Q_reads' HO_6.out).2.1); rintro e w' ⟨rfl, ⟨nd, rfl⟩⟩; refine ⟨_, rfl, ?_⟩) | ((with_reducible refine gate_callee (f := 11) rfl ?_); refine goesL_ (some 55) rfl rfl Try.func11 (by kernel_rfl) rfl #[.slice A0 l0.length c0] rfl (by (try simp only [List.map_toArray, List.map_cons, List.map_nil]); first | done | rfl | (simp only [List.length_drop, List.length_take]; rfl)) ?_; (with_reducible refine (laws_toRungS.calls kj14 _ _ l0 t181 _ ?side1 ?side2 A36.out).mono ?_); (case side1 => repeat (first | exact (Kd.C_below HR0.out (by repeat (first | (with_reducible first | exact HB.out | apply below_alloc | apply pw_below_drewN | apply below_drew1) | exact HB.out))) | (with_reducible refine Kd.C_alloc ?_ _) | (with_reducible refine Kd.C_drewN ?_ _) | (with_reducible refine Kd.C_drew ?_))); (case side2 => exact HC0.out); rintro e w44 ⟨v182, rfl, ho0, hb⟩; refine ⟨_, rfl, ?_⟩; have n0_ := Aside0.mk (Kd.R_below (by (with_reducible repeat (first | apply Kd.R_alloc | apply Kd.R_drewN | apply Kd.R_drew)); exact HO_4.out) hb); have n1_ := Aside0.mk (Kd.Q_below (by (with_reducible repeat (first | apply Kd.Q_alloc | apply Kd.Q_drewN | apply Kd.Q_drew)); exact HO_6.out) hb); have n2_ := Aside0.mk (Kd.S_lower ho0 (below_size (by repeat (first | (with_reducible first | exact HB.out | apply below_alloc | apply pw_below_drewN | apply below_drew1) | exact HB.out)))); have n3_ := Aside0.mk (below_step (by repeat (first | (with_reducible first | exact HB.out | apply below_alloc | apply pw_below_drewN | apply below_drew1) | exact HB.out)) hb); clear HO_4; clear HO_6; clear HB; have HO_4 := n0_; have HO_6 := n1_; have HO183 := n2_; have HB := n3_; clear n0_ n1_ n2_ n3_; (try clear hb); (try clear hb2); (try clear hk); (try clear hi); (try clear ho0); obtain ⟨Ao45, co45, eo45⟩ := Kd.S_slice HO183.out; subst eo45) | ((with_reducible refine gate_callee (f := 19) rfl ?_); refine goesL_ (some 56) rfl rfl Try.func19 (by kernel_rfl) rfl #[.slice Ao45 t181.length co45] rfl (by (try simp only [List.map_toArray, List.map_cons, List.map_nil]); first | done | rfl | (simp only [List.length_drop, List.length_take]; rfl)) ?_; (with_reducible refine (impl_LadderCoils.calls _ _ t181 t184 _ ?side1 ?side2 A37.out).mono ?_); (case side1 => repeat (first | exact (Kd.S_reads' HO183.out).2.2 | (with_reducible refine Kd.C_alloc ?_ _) | (with_reducible refine Kd.C_drewN ?_ _) | (with_reducible refine Kd.C_drew ?_))); (case side2 => exact (Kd.S_reads' HO183.out).2.1); rintro e w46 ⟨v185, rfl, ho0, hb⟩; refine ⟨_, rfl, ?_⟩; have n0_ := Aside0.mk (Kd.R_elder' (by (with_reducible repeat (first | apply Kd.R_alloc | apply Kd.R_drewN | apply Kd.R_drew)); exact HO_4.out) (Kd.Q_base ho0) hb); have n1_ := Aside0.mk (Kd.Q_elder' (by (with_reducible repeat (first | apply Kd.Q_alloc | apply Kd.Q_drewN | apply Kd.Q_drew)); exact HO_6.out) (Kd.Q_base ho0) hb); have n2_ := Aside0.mk (Kd.S_below (by (with_reducible repeat (first | apply Kd.S_alloc | apply Kd.S_drewN | apply Kd.S_drew)); exact HO183.out) hb); have n3_ := Aside0.mk (Kd.Q_lower (Kd.Q_new' (Kd.Q_new' ho0 (Kd.R_lt (by (with_reducible repeat (first | apply Kd.R_alloc | apply Kd.R_drewN | apply Kd.R_drew)); exact HO_4.out))) (Kd.Q_lt (by (with_reducible repeat (first | apply Kd.Q_alloc | apply Kd.Q_drewN | apply Kd.Q_drew)); exact HO_6.out))) (below_size (by repeat (first | (with_reducible first | exact HB.out | apply below_alloc | apply pw_below_drewN | apply below_drew1) | exact HB.out)))); have n4_ := Aside0.mk (below_step (by repeat (first | (with_reducible first | exact HB.out | apply below_alloc | apply pw_below_drewN | apply below_drew1) | exact HB.out)) hb); clear HO_4; clear HO_6; clear HO183; clear HB; have HO_4 := n0_; have HO_6 := n1_; have HO183 := n2_; have HO186 := n3_; have HB := n4_; clear n0_ n1_ n2_ n3_ n4_; (try clear hb); (try clear hb2); (try clear hk); (try clear hi); (try clear ho0); obtain ⟨Ao47, co47, eo47, _⟩ := Kd.Q_slice HO186.out; subst eo47) | ((with_reducible refine gate_callee (f := 13) rfl ?_); refine goesL_ (some 59) rfl rfl Try.func13 (by kernel_rfl) rfl #[.slice Ao47 t184.length co47, .slice Ao24 t162.length co24] rfl (by (try simp only [List.map_toArray, List.map_cons, List.map_nil]); first | done | rfl | (simp only [List.length_drop, List.length_take]; rfl)) ?_; (with_reducible refine (laws_eqIntS.calls kj14 _ _ t184 _ _ t162 true _ ?side1 ?side2 ?side3 ?side4 A38.out).mono ?_); (case side1 => repeat (first | exact (Kd.Q_reads' HO186.out).2.2 | (with_reducible refine Kd.C_alloc ?_ _) | (with_reducible refine Kd.C_drewN ?_ _) | (with_reducible refine Kd.C_drew ?_))); (case side2 => exact (Kd.Q_reads' HO186.out).2.1); (case side3 => repeat (first | exact (Kd.R_reads' HO_4.out).2.2 | (with_reducible refine Kd.C_alloc ?_ _) | (with_reducible refine Kd.C_drewN ?_ _) | (with_reducible refine Kd.C_drew ?_))); (case side4 => exact (Kd.R_reads' HO_4.out).2.1); rintro e w' ⟨rfl, ⟨nd, rfl⟩⟩; refine ⟨_, rfl, ?_⟩) | ((with_reducible refine gate_callee (f := 17) rfl ?_); refine goesL_ (some 63) rfl rfl Try.func17 (by kernel_rfl) rfl #[.slice Ao23 t179.length co23, .int .i64 1] rfl (by (try simp only [List.map_toArray, List.map_cons, List.map_nil]); first | done | (rw [show t179.length = t168.length from (Kd.Q_reads' HO_6.out).1.symm] <;> rfl) | rfl | (simp only [List.length_drop, List.length_take]; rfl)) ?_; (with_reducible refine (laws_heldIntS.calls kj14 _ _ t179 1 t188 _ ?side1 ?side2 A40.out).mono ?_); (case side1 => repeat (first | exact (Kd.Q_reads' HO_6.out).2.2 | (with_reducible refine Kd.C_alloc ?_ _) | (with_reducible refine Kd.C_drewN ?_ _) | (with_reducible refine Kd.C_drew ?_))); (case side2 => rw [show t179.length = t168.length from (Kd.Q_reads' HO_6.out).1.symm]; exact (Kd.Q_reads' HO_6.out).2.1); rintro e w' ⟨rfl, ⟨nd, rfl⟩⟩; refine ⟨_, rfl, ?_⟩))
                        go_ret
                        exact ⟨by first | rfl | (simp [errW_none, errW_some] <;> rfl) | (simp [*, errW_none, errW_some] <;> rfl), by repeat (first | (with_reducible first | exact HB.out | apply below_alloc | apply pw_below_drewN | apply below_drew1) | exact HB.out)⟩
                      · rw [if_neg c42] at H
                        exact absurd H (by simp)
                  · replace c39 := Bool.eq_false_iff.mpr c39
                    subst c39
                    have H1 : (none) = some r := by rw [if_neg (show ¬ (false = true) by decide)] at H; exact H
                    clear H
                    have H := H1
                    clear H1
                    exact absurd H (by simp)
                · rw [if_neg c35] at H
                  exact absurd H (by simp)
      · replace c13 := Bool.eq_false_iff.mpr c13
        subst c13
        have H1 : (none) = some r := by rw [if_neg (show ¬ (false = true) by decide)] at H; exact H
        clear H
        have H := H1
        clear H1
        exact absurd H (by simp)
    · replace c10 := Bool.eq_false_iff.mpr c10
      subst c10
      have H1 : (none) = some r := by rw [if_neg (show ¬ (false = true) by decide)] at H; exact H
      clear H
      have H := H1
      clear H1
      exact absurd H (by simp)

end Go.Proofs.Ytmphligplngeaaa.GFnExactLadderCoils

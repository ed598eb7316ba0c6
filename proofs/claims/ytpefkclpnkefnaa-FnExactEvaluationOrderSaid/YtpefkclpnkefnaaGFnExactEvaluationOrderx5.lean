/- Functions of the program as Lean functions, with proofs that the machine comes to their answers; written by this session's program mkprint.py; no condition beyond each theorem's own. -/
import Derived.Test.YtpefkclpnkefnaaGFnExactEvaluationOrderx0
import Derived.Test.YtpefkclpnkefnaaGFnExactEvaluationOrderx1
import Derived.Test.YtpefkclpnkefnaaGFnExactEvaluationOrderx2
import Derived.Test.YtpefkclpnkefnaaGFnExactEvaluationOrderx3
import Derived.Test.YtpefkclpnkefnaaGFnExactEvaluationOrderx4
namespace Go.Proofs.Ytpefkclpnkefnaa.GFnExactEvaluationOrder
open Go.RowKit Go.Proofs.YtpefkclpnkefnaaV.PrintWords Go.Proofs.YtpefkclpnkefnaaV.PrintLast Go.Proofs.YtpefkclpnkefnaaV.PrintMore
attribute [local go_sem] max2_int min2_int max_two min_two max_three min_three max_four min_four   -- for this text's walks alone
set_option linter.unusedVariables false
set_option linter.unusedSimpArgs false

/-! ### laws_FnExactEvaluationOrder: function 6 -/
mutual
def laws_FnExactEvaluationOrder.j0 : Nat → List (S56) → Int → List Int → Bool → List (S52) → List Int → Bool → Bool → Option (Bool)
  | 0, _, _, _, _, _, _, _, _ => none
  | k + 1, x0, x1, x6, x7, x8, x9, x10, x44 => if x44 = true then (none) else ((laws_toBlockS.f k x0).bind fun t192 => ((laws_eqBlockS.f k x8 t192).bind fun t195 => (if t195 = true then ((laws_markBlockS.f k x8 1).bind fun bt196 => (if bt196.1 < 0 then (laws_FnExactEvaluationOrder.j1 k x0 x1 x6 x7 x9 true) else ((laws_eqIntS.f k x9 x6).bind fun t198 => (if t198 = true then (laws_FnExactEvaluationOrder.j1 k x0 x1 x6 x7 x9 (x10 != x7)) else (laws_FnExactEvaluationOrder.j1 k x0 x1 x6 x7 x9 true))))) else (none))))
def laws_FnExactEvaluationOrder.j1 : Nat → List (S56) → Int → List Int → Bool → List Int → Bool → Option (Bool)
  | 0, _, _, _, _, _, _ => none
  | k + 1, x0, x1, x6, x7, x9, x65 => if x65 = true then (none) else ((laws_markIntS.f k x9 1).bind fun bt199 => ((laws_heldIntS.f k bt199.2 1).bind fun t201 => (if t201 < 0 then (none) else (if t201 = bt199.1 then ((laws_toBlockS.f k x0).bind fun t202 => ((impl_EvaluationOrder.f t202 x1).bind fun bt205 => ((laws_eqIntS.f k bt205.1 x6).bind fun t209 => (if t209 = true then (laws_FnExactEvaluationOrder.j2 k bt199.2 bt199.1 (bt205.2 != x7)) else (laws_FnExactEvaluationOrder.j2 k bt199.2 bt199.1 true))))) else (none)))))
def laws_FnExactEvaluationOrder.j2 : Nat → List Int → Int → Bool → Option (Bool)
  | 0, _, _, _ => none
  | k + 1, x9, x12, x92 => if x92 = true then (none) else ((laws_heldIntS.f k x9 1).bind fun t210 => (if t210 < 0 then (none) else (if t210 = x12 then (some true) else (none))))
end
def laws_FnExactEvaluationOrder.f (k : Nat) (l0 : List (S56)) (a1 : Int) : Option (Bool) := (laws_szBlockS.f l0 1048576).bind fun t176 => (if t176 < 0 then (some true) else ((laws_toBlockS.f k l0).bind fun t177 => ((spec_EvaluationOrder.f k t177 a1).bind fun bt180 => ((laws_toBlockS.f k l0).bind fun t184 => ((impl_EvaluationOrder.f t184 a1).bind fun bt187 => ((laws_eqIntS.f k bt187.1 bt180.1).bind fun t191 => (if t191 = true then (laws_FnExactEvaluationOrder.j0 k l0 a1 bt180.1 bt180.2 t184 bt187.1 bt187.2 (bt187.2 != bt180.2)) else (laws_FnExactEvaluationOrder.j0 k l0 a1 bt180.1 bt180.2 t184 bt187.1 bt187.2 true))))))))
theorem laws_FnExactEvaluationOrder.mono_l : ∀ k, (∀ y0 y1 y2 y3 y4 y5 y6 y7, LeO (laws_FnExactEvaluationOrder.j0 k y0 y1 y2 y3 y4 y5 y6 y7) (laws_FnExactEvaluationOrder.j0 (k + 1) y0 y1 y2 y3 y4 y5 y6 y7)) ∧ (∀ y0 y1 y2 y3 y4 y5, LeO (laws_FnExactEvaluationOrder.j1 k y0 y1 y2 y3 y4 y5) (laws_FnExactEvaluationOrder.j1 (k + 1) y0 y1 y2 y3 y4 y5)) ∧ (∀ y0 y1 y2, LeO (laws_FnExactEvaluationOrder.j2 k y0 y1 y2) (laws_FnExactEvaluationOrder.j2 (k + 1) y0 y1 y2))
  | 0 => ⟨fun _ _ _ _ _ _ _ _ r h => by simp [laws_FnExactEvaluationOrder.j0] at h, fun _ _ _ _ _ _ r h => by simp [laws_FnExactEvaluationOrder.j1] at h, fun _ _ _ r h => by simp [laws_FnExactEvaluationOrder.j2] at h⟩
  | k + 1 => by
    obtain ⟨ih0, ih1, ih2⟩ := laws_FnExactEvaluationOrder.mono_l k
    refine ⟨?_, ?_, ?_⟩
    · intro y0 y1 y2 y3 y4 y5 y6 y7
      unfold laws_FnExactEvaluationOrder.j0
      repeat' first
      | (with_reducible exact ih0 _ _ _ _ _ _ _ _)
      | (with_reducible exact ih1 _ _ _ _ _ _)
      | (with_reducible exact ih2 _ _ _)
      | (with_reducible exact laws_eqBlockS.mono _ _ _)
      | (with_reducible exact laws_eqIntS.mono _ _ _)
      | (with_reducible exact laws_heldIntS.mono _ _ _)
      | (with_reducible exact laws_markBlockS.mono _ _ _)
      | (with_reducible exact laws_markIntS.mono _ _ _)
      | (with_reducible exact laws_toBlockS.mono _ _)
      | (with_reducible exact spec_EvaluationOrder.mono _ _ _)
      | (with_reducible exact LeO.refl _)
      | (with_reducible exact LeO.none _)
      | (with_reducible refine LeO.ite ?_ ?_)
      | (with_reducible refine LeO.bind ?_ (fun _ => ?_))
      | exact ih0 _ _ _ _ _ _ _ _
      | exact ih1 _ _ _ _ _ _
      | exact ih2 _ _ _
      | exact laws_eqBlockS.mono _ _ _
      | exact laws_eqIntS.mono _ _ _
      | exact laws_heldIntS.mono _ _ _
      | exact laws_markBlockS.mono _ _ _
      | exact laws_markIntS.mono _ _ _
      | exact laws_toBlockS.mono _ _
      | exact spec_EvaluationOrder.mono _ _ _
      | exact LeO.none _
      | refine LeO.ite ?_ ?_
      | refine LeO.bind ?_ (fun _ => ?_)
    · intro y0 y1 y2 y3 y4 y5
      unfold laws_FnExactEvaluationOrder.j1
      repeat' first
      | (with_reducible exact ih0 _ _ _ _ _ _ _ _)
      | (with_reducible exact ih1 _ _ _ _ _ _)
      | (with_reducible exact ih2 _ _ _)
      | (with_reducible exact laws_eqBlockS.mono _ _ _)
      | (with_reducible exact laws_eqIntS.mono _ _ _)
      | (with_reducible exact laws_heldIntS.mono _ _ _)
      | (with_reducible exact laws_markBlockS.mono _ _ _)
      | (with_reducible exact laws_markIntS.mono _ _ _)
      | (with_reducible exact laws_toBlockS.mono _ _)
      | (with_reducible exact spec_EvaluationOrder.mono _ _ _)
      | (with_reducible exact LeO.refl _)
      | (with_reducible exact LeO.none _)
      | (with_reducible refine LeO.ite ?_ ?_)
      | (with_reducible refine LeO.bind ?_ (fun _ => ?_))
      | exact ih0 _ _ _ _ _ _ _ _
      | exact ih1 _ _ _ _ _ _
      | exact ih2 _ _ _
      | exact laws_eqBlockS.mono _ _ _
      | exact laws_eqIntS.mono _ _ _
      | exact laws_heldIntS.mono _ _ _
      | exact laws_markBlockS.mono _ _ _
      | exact laws_markIntS.mono _ _ _
      | exact laws_toBlockS.mono _ _
      | exact spec_EvaluationOrder.mono _ _ _
      | exact LeO.none _
      | refine LeO.ite ?_ ?_
      | refine LeO.bind ?_ (fun _ => ?_)
    · intro y0 y1 y2
      unfold laws_FnExactEvaluationOrder.j2
      repeat' first
      | (with_reducible exact ih0 _ _ _ _ _ _ _ _)
      | (with_reducible exact ih1 _ _ _ _ _ _)
      | (with_reducible exact ih2 _ _ _)
      | (with_reducible exact laws_eqBlockS.mono _ _ _)
      | (with_reducible exact laws_eqIntS.mono _ _ _)
      | (with_reducible exact laws_heldIntS.mono _ _ _)
      | (with_reducible exact laws_markBlockS.mono _ _ _)
      | (with_reducible exact laws_markIntS.mono _ _ _)
      | (with_reducible exact laws_toBlockS.mono _ _)
      | (with_reducible exact spec_EvaluationOrder.mono _ _ _)
      | (with_reducible exact LeO.refl _)
      | (with_reducible exact LeO.none _)
      | (with_reducible refine LeO.ite ?_ ?_)
      | (with_reducible refine LeO.bind ?_ (fun _ => ?_))
      | exact ih0 _ _ _ _ _ _ _ _
      | exact ih1 _ _ _ _ _ _
      | exact ih2 _ _ _
      | exact laws_eqBlockS.mono _ _ _
      | exact laws_eqIntS.mono _ _ _
      | exact laws_heldIntS.mono _ _ _
      | exact laws_markBlockS.mono _ _ _
      | exact laws_markIntS.mono _ _ _
      | exact laws_toBlockS.mono _ _
      | exact spec_EvaluationOrder.mono _ _ _
      | exact LeO.none _
      | refine LeO.ite ?_ ?_
      | refine LeO.bind ?_ (fun _ => ?_)
theorem laws_FnExactEvaluationOrder.mono : ∀ a0 a1 k, LeO (laws_FnExactEvaluationOrder.f k a0 a1) (laws_FnExactEvaluationOrder.f (k + 1) a0 a1) := by
  intro a0 a1 k
  obtain ⟨ih0, ih1, ih2⟩ := laws_FnExactEvaluationOrder.mono_l k
  unfold laws_FnExactEvaluationOrder.f
  repeat' first
      | (with_reducible exact ih0 _ _ _ _ _ _ _ _)
      | (with_reducible exact ih1 _ _ _ _ _ _)
      | (with_reducible exact ih2 _ _ _)
      | (with_reducible exact laws_eqBlockS.mono _ _ _)
      | (with_reducible exact laws_eqIntS.mono _ _ _)
      | (with_reducible exact laws_heldIntS.mono _ _ _)
      | (with_reducible exact laws_markBlockS.mono _ _ _)
      | (with_reducible exact laws_markIntS.mono _ _ _)
      | (with_reducible exact laws_toBlockS.mono _ _)
      | (with_reducible exact spec_EvaluationOrder.mono _ _ _)
      | (with_reducible exact LeO.refl _)
      | (with_reducible exact LeO.none _)
      | (with_reducible refine LeO.ite ?_ ?_)
      | (with_reducible refine LeO.bind ?_ (fun _ => ?_))
      | exact ih0 _ _ _ _ _ _ _ _
      | exact ih1 _ _ _ _ _ _
      | exact ih2 _ _ _
      | exact laws_eqBlockS.mono _ _ _
      | exact laws_eqIntS.mono _ _ _
      | exact laws_heldIntS.mono _ _ _
      | exact laws_markBlockS.mono _ _ _
      | exact laws_markIntS.mono _ _ _
      | exact laws_toBlockS.mono _ _
      | exact spec_EvaluationOrder.mono _ _ _
      | exact LeO.none _
      | refine LeO.ite ?_ ?_
      | refine LeO.bind ?_ (fun _ => ?_)
set_option maxHeartbeats 8000000 in
set_option maxRecDepth 100000 in
theorem laws_FnExactEvaluationOrder.calls (k : Nat) (A0 : Option Addr) (c0 : Nat) (l0 : List (S56)) (a1 : Int) (r : Bool) (w : World) (hr0 : Kd.C k56 w A0 l0.length l0) (hc0 : l0.length ≤ c0) (h : laws_FnExactEvaluationOrder.f k l0 a1 = some r) :
    Calls Try.prog 6 #[.slice A0 l0.length c0, .int .i64 a1] w fun e w' => e = .returned (.bool r) ∧ Below w.heap.size w w' := by
  have HR0 := Aside0.mk hr0
  have HC0 := Aside0.mk hc0
  clear hr0 hc0
  have HB := Aside0.mk (Below.refl w.heap.size w)
  have H : ((laws_szBlockS.f l0 1048576).bind fun t176 => (if t176 < 0 then (some true) else ((laws_toBlockS.f k l0).bind fun t177 => ((spec_EvaluationOrder.f k t177 a1).bind fun bt180 => ((laws_toBlockS.f k l0).bind fun t184 => ((impl_EvaluationOrder.f t184 a1).bind fun bt187 => ((laws_eqIntS.f k bt187.1 bt180.1).bind fun t191 => (if t191 = true then (laws_FnExactEvaluationOrder.j0 k l0 a1 bt180.1 bt180.2 t184 bt187.1 bt187.2 (bt187.2 != bt180.2)) else (laws_FnExactEvaluationOrder.j0 k l0 a1 bt180.1 bt180.2 t184 bt187.1 bt187.2 true))))))))) = some r := h
  clear h
  replace H := Option.bind_eq_some_iff.mp H
  obtain ⟨t176, A30, H⟩ := H
  replace H : (if t176 < 0 then (some true) else ((laws_toBlockS.f k l0).bind fun t177 => ((spec_EvaluationOrder.f k t177 a1).bind fun bt180 => ((laws_toBlockS.f k l0).bind fun t184 => ((impl_EvaluationOrder.f t184 a1).bind fun bt187 => ((laws_eqIntS.f k bt187.1 bt180.1).bind fun t191 => (if t191 = true then (laws_FnExactEvaluationOrder.j0 k l0 a1 bt180.1 bt180.2 t184 bt187.1 bt187.2 (bt187.2 != bt180.2)) else (laws_FnExactEvaluationOrder.j0 k l0 a1 bt180.1 bt180.2 t184 bt187.1 bt187.2 true)))))))) = some r := H
  have A3 := Aside0.mk A30
  clear A30
  by_cases c4 : t176 < 0
  · rw [if_pos c4] at H
    have c4b0 : decide (t176 < 0) = true := decide_eq_true c4
    clear c4
    obtain rfl := Option.some.inj H
    go_enter Try.func6, Try.ntmps6
    go_wp2_with (first | ((with_reducible refine gate_callee (f := 11) rfl ?_); refine goesL_ (some 18) rfl rfl Try.func11 (by kernel_rfl) rfl #[.slice A0 l0.length c0, .int .i64 1048576] rfl (by (try simp only [List.map_toArray, List.map_cons, List.map_nil]); first | done | rfl | (simp only [List.length_drop, List.length_take]; rfl)) ?_; (with_reducible refine (laws_szBlockS.calls _ _ l0 1048576 t176 _ ?side1 ?side2 A3.out).mono ?_); (case side1 => repeat (first | exact HR0.out | (with_reducible refine Kd.C_alloc ?_ _) | (with_reducible refine Kd.C_drewN ?_ _) | (with_reducible refine Kd.C_drew ?_))); (case side2 => exact HC0.out); rintro e w' ⟨rfl, ⟨nd, rfl⟩⟩; refine ⟨_, rfl, ?_⟩))
    go_ret
    exact ⟨by first | rfl | (simp [errW_none, errW_some] <;> rfl) | (simp [*, errW_none, errW_some] <;> rfl), by repeat (first | (with_reducible first | exact HB.out | apply below_alloc | apply pw_below_drewN | apply below_drew1) | exact HB.out)⟩
  · rw [if_neg c4] at H
    have c4b0 : decide (t176 < 0) = false := decide_eq_false c4
    clear c4
    replace H := Option.bind_eq_some_iff.mp H
    obtain ⟨t177, A50, H⟩ := H
    replace H : ((spec_EvaluationOrder.f k t177 a1).bind fun bt180 => ((laws_toBlockS.f k l0).bind fun t184 => ((impl_EvaluationOrder.f t184 a1).bind fun bt187 => ((laws_eqIntS.f k bt187.1 bt180.1).bind fun t191 => (if t191 = true then (laws_FnExactEvaluationOrder.j0 k l0 a1 bt180.1 bt180.2 t184 bt187.1 bt187.2 (bt187.2 != bt180.2)) else (laws_FnExactEvaluationOrder.j0 k l0 a1 bt180.1 bt180.2 t184 bt187.1 bt187.2 true)))))) = some r := H
    have A5 := Aside0.mk A50
    clear A50
    replace H := Option.bind_eq_some_iff.mp H
    obtain ⟨⟨t180, t181⟩, A60, H⟩ := H
    replace H : ((laws_toBlockS.f k l0).bind fun t184 => ((impl_EvaluationOrder.f t184 a1).bind fun bt187 => ((laws_eqIntS.f k bt187.1 t180).bind fun t191 => (if t191 = true then (laws_FnExactEvaluationOrder.j0 k l0 a1 t180 t181 t184 bt187.1 bt187.2 (bt187.2 != t181)) else (laws_FnExactEvaluationOrder.j0 k l0 a1 t180 t181 t184 bt187.1 bt187.2 true))))) = some r := H
    have A6 := Aside0.mk A60
    clear A60
    replace H := Option.bind_eq_some_iff.mp H
    obtain ⟨t184, A70, H⟩ := H
    replace H : ((impl_EvaluationOrder.f t184 a1).bind fun bt187 => ((laws_eqIntS.f k bt187.1 t180).bind fun t191 => (if t191 = true then (laws_FnExactEvaluationOrder.j0 k l0 a1 t180 t181 t184 bt187.1 bt187.2 (bt187.2 != t181)) else (laws_FnExactEvaluationOrder.j0 k l0 a1 t180 t181 t184 bt187.1 bt187.2 true)))) = some r := H
    have A7 := Aside0.mk A70
    clear A70
    replace H := Option.bind_eq_some_iff.mp H
    obtain ⟨⟨t187, t188⟩, A80, H⟩ := H
    replace H : ((laws_eqIntS.f k t187 t180).bind fun t191 => (if t191 = true then (laws_FnExactEvaluationOrder.j0 k l0 a1 t180 t181 t184 t187 t188 (t188 != t181)) else (laws_FnExactEvaluationOrder.j0 k l0 a1 t180 t181 t184 t187 t188 true))) = some r := H
    have A8 := Aside0.mk A80
    clear A80
    have HC9 := Aside0.mk H
    clear H
    go_enter Try.func6, Try.ntmps6
    go_upto_region 8 with (first | ((with_reducible refine gate_callee (f := 11) rfl ?_); refine goesL_ (some 18) rfl rfl Try.func11 (by kernel_rfl) rfl #[.slice A0 l0.length c0, .int .i64 1048576] rfl (by (try simp only [List.map_toArray, List.map_cons, List.map_nil]); first | done | rfl | (simp only [List.length_drop, List.length_take]; rfl)) ?_; (with_reducible refine (laws_szBlockS.calls _ _ l0 1048576 t176 _ ?side1 ?side2 A3.out).mono ?_); (case side1 => repeat (first | exact HR0.out | (with_reducible refine Kd.C_alloc ?_ _) | (with_reducible refine Kd.C_drewN ?_ _) | (with_reducible refine Kd.C_drew ?_))); (case side2 => exact HC0.out); rintro e w' ⟨rfl, ⟨nd, rfl⟩⟩; refine ⟨_, rfl, ?_⟩) | ((with_reducible refine gate_callee (f := 13) rfl ?_); refine goesL_ (some 23) rfl rfl Try.func13 (by kernel_rfl) rfl #[.slice A0 l0.length c0] rfl (by (try simp only [List.map_toArray, List.map_cons, List.map_nil]); first | done | rfl | (simp only [List.length_drop, List.length_take]; rfl)) ?_; (with_reducible refine (laws_toBlockS.calls k _ _ l0 t177 _ ?side1 ?side2 A5.out).mono ?_); (case side1 => repeat (first | exact HR0.out | (with_reducible refine Kd.C_alloc ?_ _) | (with_reducible refine Kd.C_drewN ?_ _) | (with_reducible refine Kd.C_drew ?_))); (case side2 => exact HC0.out); rintro e w10 ⟨v178, rfl, ho0, hb⟩; refine ⟨_, rfl, ?_⟩; have n0_ := Aside0.mk (Kd.R_lower ho0 (below_size (by repeat (first | (with_reducible first | exact HB.out | apply below_alloc | apply pw_below_drewN | apply below_drew1) | exact HB.out)))); have n1_ := Aside0.mk (below_step (by repeat (first | (with_reducible first | exact HB.out | apply below_alloc | apply pw_below_drewN | apply below_drew1) | exact HB.out)) hb); clear HB; have HO179 := n0_; have HB := n1_; clear n0_ n1_; (try clear hb); (try clear hb2); (try clear hk); (try clear hi); (try clear ho0); obtain ⟨Ao11, co11, eo11⟩ := Kd.R_slice HO179.out; subst eo11) | ((with_reducible refine gate_callee (f := 25) rfl ?_); refine goesL_ (some 25) rfl rfl Try.func25 (by kernel_rfl) rfl #[.slice Ao11 t177.length co11, .int .i64 a1] rfl (by (try simp only [List.map_toArray, List.map_cons, List.map_nil]); first | done | rfl | (simp only [List.length_drop, List.length_take]; rfl)) ?_; (with_reducible refine (spec_EvaluationOrder.calls k _ _ t177 a1 t180 t181 _ ?side1 ?side2 A6.out).mono ?_); (case side1 => repeat (first | exact (Kd.R_reads' HO179.out).2.2 | (with_reducible refine Kd.C_alloc ?_ _) | (with_reducible refine Kd.C_drewN ?_ _) | (with_reducible refine Kd.C_drew ?_))); (case side2 => exact (Kd.R_reads' HO179.out).2.1); rintro e w12 ⟨v182, rfl, ho0, hb⟩; refine ⟨_, rfl, ?_⟩; have n0_ := Aside0.mk (Kd.R_below (by (with_reducible repeat (first | apply Kd.R_alloc | apply Kd.R_drewN | apply Kd.R_drew)); exact HO179.out) hb); have n1_ := Aside0.mk (Kd.R_lower ho0 (below_size (by repeat (first | (with_reducible first | exact HB.out | apply below_alloc | apply pw_below_drewN | apply below_drew1) | exact HB.out)))); have n2_ := Aside0.mk (below_step (by repeat (first | (with_reducible first | exact HB.out | apply below_alloc | apply pw_below_drewN | apply below_drew1) | exact HB.out)) hb); clear HO179; clear HB; have HO179 := n0_; have HO183 := n1_; have HB := n2_; clear n0_ n1_ n2_; (try clear hb); (try clear hb2); (try clear hk); (try clear hi); (try clear ho0)) | ((with_reducible refine gate_callee (f := 13) rfl ?_); refine goesL_ (some 29) rfl rfl Try.func13 (by kernel_rfl) rfl #[.slice A0 l0.length c0] rfl (by (try simp only [List.map_toArray, List.map_cons, List.map_nil]); first | done | rfl | (simp only [List.length_drop, List.length_take]; rfl)) ?_; (with_reducible refine (laws_toBlockS.calls k _ _ l0 t184 _ ?side1 ?side2 A7.out).mono ?_); (case side1 => repeat (first | exact (Kd.C_below HR0.out HB.out) | (with_reducible refine Kd.C_alloc ?_ _) | (with_reducible refine Kd.C_drewN ?_ _) | (with_reducible refine Kd.C_drew ?_))); (case side2 => exact HC0.out); rintro e w13 ⟨v185, rfl, ho0, hb⟩; refine ⟨_, rfl, ?_⟩; have n0_ := Aside0.mk (Kd.R_elder' (by (with_reducible repeat (first | apply Kd.R_alloc | apply Kd.R_drewN | apply Kd.R_drew)); exact HO179.out) (Kd.R_base ho0) hb); have n1_ := Aside0.mk (Kd.R_below (by (with_reducible repeat (first | apply Kd.R_alloc | apply Kd.R_drewN | apply Kd.R_drew)); exact HO183.out) hb); have n2_ := Aside0.mk (Kd.R_lower (Kd.R_new' ho0 (Kd.R_lt (by (with_reducible repeat (first | apply Kd.R_alloc | apply Kd.R_drewN | apply Kd.R_drew)); exact HO179.out))) (below_size (by repeat (first | (with_reducible first | exact HB.out | apply below_alloc | apply pw_below_drewN | apply below_drew1) | exact HB.out)))); have n3_ := Aside0.mk (below_step (by repeat (first | (with_reducible first | exact HB.out | apply below_alloc | apply pw_below_drewN | apply below_drew1) | exact HB.out)) hb); clear HO179; clear HO183; clear HB; have HO179 := n0_; have HO183 := n1_; have HO186 := n2_; have HB := n3_; clear n0_ n1_ n2_ n3_; (try clear hb); (try clear hb2); (try clear hk); (try clear hi); (try clear ho0); obtain ⟨Ao14, co14, eo14⟩ := Kd.R_slice HO186.out; subst eo14) | ((with_reducible refine gate_callee (f := 26) rfl ?_); refine goesL_ (some 33) rfl rfl Try.func26 (by kernel_rfl) rfl #[.slice Ao14 t184.length co14, .int .i64 a1] rfl (by (try simp only [List.map_toArray, List.map_cons, List.map_nil]); first | done | rfl | (simp only [List.length_drop, List.length_take]; rfl)) ?_; (with_reducible refine (impl_EvaluationOrder.calls _ _ t184 a1 t187 t188 _ ?side1 ?side2 A8.out).mono ?_); (case side1 => repeat (first | exact (Kd.R_reads' HO186.out).2.2 | (with_reducible refine Kd.C_alloc ?_ _) | (with_reducible refine Kd.C_drewN ?_ _) | (with_reducible refine Kd.C_drew ?_))); (case side2 => exact (Kd.R_reads' HO186.out).2.1); rintro e w15 ⟨v189, rfl, ho0, hb⟩; refine ⟨_, rfl, ?_⟩; have n0_ := Aside0.mk (Kd.R_below (by (with_reducible repeat (first | apply Kd.R_alloc | apply Kd.R_drewN | apply Kd.R_drew)); exact HO179.out) hb); have n1_ := Aside0.mk (Kd.R_elder' (by (with_reducible repeat (first | apply Kd.R_alloc | apply Kd.R_drewN | apply Kd.R_drew)); exact HO183.out) (Kd.Q_base ho0) hb); have n2_ := Aside0.mk (Kd.R_below (by (with_reducible repeat (first | apply Kd.R_alloc | apply Kd.R_drewN | apply Kd.R_drew)); exact HO186.out) hb); have n3_ := Aside0.mk (Kd.Q_lower (Kd.Q_new' ho0 (Kd.R_lt (by (with_reducible repeat (first | apply Kd.R_alloc | apply Kd.R_drewN | apply Kd.R_drew)); exact HO183.out))) (below_size (by repeat (first | (with_reducible first | exact HB.out | apply below_alloc | apply pw_below_drewN | apply below_drew1) | exact HB.out)))); have n4_ := Aside0.mk (below_step (by repeat (first | (with_reducible first | exact HB.out | apply below_alloc | apply pw_below_drewN | apply below_drew1) | exact HB.out)) hb); clear HO179; clear HO183; clear HO186; clear HB; have HO179 := n0_; have HO183 := n1_; have HO186 := n2_; have HO190 := n3_; have HB := n4_; clear n0_ n1_ n2_ n3_ n4_; (try clear hb); (try clear hb2); (try clear hk); (try clear hi); (try clear ho0)))
    (try simp only [Act.put, List.setIfInBounds_toArray, List.set_cons_zero, List.set_cons_succ])
    go_cut [44] (fun v44 wc => ∃ (kq : Nat) (x44_8 : Bool), v44 = .bool x44_8 ∧ Aside0 (laws_FnExactEvaluationOrder.j0 kq l0 a1 t180 t181 t184 t187 t188 x44_8 = some r) ∧ Aside0 (kq ≤ k) ∧ Aside0 (Kd.R (Kd.int .i64) 3 wc w.heap.size (fun k_ => some k_ ≠ (v189 : Value).ownBlock) v182 t180) ∧ Aside0 (Kd.R k52 52 wc w.heap.size (fun _ => True) (.slice Ao14 t184.length co14) t184) ∧ Aside0 (Kd.Q (Kd.int .i64) 3 wc w.heap.size (fun k_ => some k_ ≠ (v182 : Value).ownBlock) v189 t187) ∧ Aside0 (Below w.heap.size w wc))
    case first =>
      have H := HC9.out
      clear HC9
      replace H := Option.bind_eq_some_iff.mp H
      obtain ⟨t191, A160, H⟩ := H
      replace H : (if t191 = true then (laws_FnExactEvaluationOrder.j0 k l0 a1 t180 t181 t184 t187 t188 (t188 != t181)) else (laws_FnExactEvaluationOrder.j0 k l0 a1 t180 t181 t184 t187 t188 true)) = some r := H
      have A16 := Aside0.mk A160
      clear A160
      by_cases c17 : t191 = true
      · subst c17
        have H1 : (laws_FnExactEvaluationOrder.j0 k l0 a1 t180 t181 t184 t187 t188 (t188 != t181)) = some r := by rw [if_pos rfl] at H; exact H
        clear H
        have H := H1
        clear H1
        have H' := Aside0.mk H
        clear H
        obtain ⟨Ao18, co18, eo18, _⟩ := Kd.Q_slice HO190.out
        subst eo18
        obtain ⟨Ao19, co19, eo19⟩ := Kd.R_slice HO183.out
        subst eo19
        go_wp2_with (first | ((with_reducible refine gate_callee (f := 10) rfl ?_); refine goesL_ (some 38) rfl rfl Try.func10 (by kernel_rfl) rfl #[.slice Ao18 t187.length co18, .slice Ao19 t180.length co19] rfl (by (try simp only [List.map_toArray, List.map_cons, List.map_nil]); first | done | rfl | (simp only [List.length_drop, List.length_take]; rfl)) ?_; (with_reducible refine (laws_eqIntS.calls k _ _ t187 _ _ t180 true _ ?side1 ?side2 ?side3 ?side4 A16.out).mono ?_); (case side1 => repeat (first | exact (Kd.Q_reads' HO190.out).2.2 | (with_reducible refine Kd.C_alloc ?_ _) | (with_reducible refine Kd.C_drewN ?_ _) | (with_reducible refine Kd.C_drew ?_))); (case side2 => exact (Kd.Q_reads' HO190.out).2.1); (case side3 => repeat (first | exact (Kd.R_reads' HO183.out).2.2 | (with_reducible refine Kd.C_alloc ?_ _) | (with_reducible refine Kd.C_drewN ?_ _) | (with_reducible refine Kd.C_drew ?_))); (case side4 => exact (Kd.R_reads' HO183.out).2.1); rintro e w' ⟨rfl, ⟨nd, rfl⟩⟩; refine ⟨_, rfl, ?_⟩))
        go_meet
        case rel => exact ⟨_, ((t188 != t181)), (by first | rfl | (simp; done) | (simp [*]; done)), H', ⟨by first | omega | exact Nat.le_refl _⟩, ⟨by (with_reducible repeat (first | apply Kd.R_alloc | apply Kd.R_drewN | apply Kd.R_drew)); exact Kd.R_mono HO183.out (fun _ hk => hk.2)⟩, ⟨by (with_reducible repeat (first | apply Kd.R_alloc | apply Kd.R_drewN | apply Kd.R_drew)); exact Kd.R_mono HO186.out (fun _ hk => trivial)⟩, ⟨by (with_reducible repeat (first | apply Kd.Q_alloc | apply Kd.Q_drewN | apply Kd.Q_drew)); exact Kd.Q_mono HO190.out (fun _ hk => hk.2)⟩, ⟨by repeat (first | (with_reducible first | exact HB.out | apply below_alloc | apply pw_below_drewN | apply below_drew1) | exact HB.out)⟩⟩
      · replace c17 := Bool.eq_false_iff.mpr c17
        subst c17
        have H1 : (laws_FnExactEvaluationOrder.j0 k l0 a1 t180 t181 t184 t187 t188 true) = some r := by rw [if_neg (show ¬ (false = true) by decide)] at H; exact H
        clear H
        have H := H1
        clear H1
        have H' := Aside0.mk H
        clear H
        obtain ⟨Ao20, co20, eo20, _⟩ := Kd.Q_slice HO190.out
        subst eo20
        obtain ⟨Ao21, co21, eo21⟩ := Kd.R_slice HO183.out
        subst eo21
        go_wp2_with (first | ((with_reducible refine gate_callee (f := 10) rfl ?_); refine goesL_ (some 38) rfl rfl Try.func10 (by kernel_rfl) rfl #[.slice Ao20 t187.length co20, .slice Ao21 t180.length co21] rfl (by (try simp only [List.map_toArray, List.map_cons, List.map_nil]); first | done | rfl | (simp only [List.length_drop, List.length_take]; rfl)) ?_; (with_reducible refine (laws_eqIntS.calls k _ _ t187 _ _ t180 false _ ?side1 ?side2 ?side3 ?side4 A16.out).mono ?_); (case side1 => repeat (first | exact (Kd.Q_reads' HO190.out).2.2 | (with_reducible refine Kd.C_alloc ?_ _) | (with_reducible refine Kd.C_drewN ?_ _) | (with_reducible refine Kd.C_drew ?_))); (case side2 => exact (Kd.Q_reads' HO190.out).2.1); (case side3 => repeat (first | exact (Kd.R_reads' HO183.out).2.2 | (with_reducible refine Kd.C_alloc ?_ _) | (with_reducible refine Kd.C_drewN ?_ _) | (with_reducible refine Kd.C_drew ?_))); (case side4 => exact (Kd.R_reads' HO183.out).2.1); rintro e w' ⟨rfl, ⟨nd, rfl⟩⟩; refine ⟨_, rfl, ?_⟩))
        go_meet
        case rel => exact ⟨_, (true), (by first | rfl | (simp; done) | (simp [*]; done)), H', ⟨by first | omega | exact Nat.le_refl _⟩, ⟨by (with_reducible repeat (first | apply Kd.R_alloc | apply Kd.R_drewN | apply Kd.R_drew)); exact Kd.R_mono HO183.out (fun _ hk => hk.2)⟩, ⟨by (with_reducible repeat (first | apply Kd.R_alloc | apply Kd.R_drewN | apply Kd.R_drew)); exact Kd.R_mono HO186.out (fun _ hk => trivial)⟩, ⟨by (with_reducible repeat (first | apply Kd.Q_alloc | apply Kd.Q_drewN | apply Kd.Q_drew)); exact Kd.Q_mono HO190.out (fun _ hk => hk.2)⟩, ⟨by repeat (first | (with_reducible first | exact HB.out | apply below_alloc | apply pw_below_drewN | apply below_drew1) | exact HB.out)⟩⟩
    case rest =>
      clear HC9
      try clear c1
      try clear c2
      try clear p2
      try clear c4
      try clear c4b0
      try clear c6
      try clear c10
      try clear c11
      try clear c13
      try clear c17
      obtain ⟨kq, x44_8, rfl, HA, HJ8, HO_6, HO_8, HO_9, HB⟩ := hcut
      cases kq with
      | zero => exact absurd HA.out (by simp [laws_FnExactEvaluationOrder.j0])
      | succ kj8 =>
        have H := HA.out
        clear HA
        simp only [laws_FnExactEvaluationOrder.j0] at H
        by_cases c22 : x44_8 = true
        · subst c22
          have H1 : (none) = some r := by rw [if_pos rfl] at H; exact H
          clear H
          have H := H1
          clear H1
          exact absurd H (by simp)
        · replace c22 := Bool.eq_false_iff.mpr c22
          subst c22
          have H1 : ((laws_toBlockS.f kj8 l0).bind fun t192 => ((laws_eqBlockS.f kj8 t184 t192).bind fun t195 => (if t195 = true then ((laws_markBlockS.f kj8 t184 1).bind fun bt196 => (if bt196.1 < 0 then (laws_FnExactEvaluationOrder.j1 kj8 l0 a1 t180 t181 t187 true) else ((laws_eqIntS.f kj8 t187 t180).bind fun t198 => (if t198 = true then (laws_FnExactEvaluationOrder.j1 kj8 l0 a1 t180 t181 t187 (t188 != t181)) else (laws_FnExactEvaluationOrder.j1 kj8 l0 a1 t180 t181 t187 true))))) else (none)))) = some r := by rw [if_neg (show ¬ (false = true) by decide)] at H; exact H
          clear H
          have H := H1
          clear H1
          replace H := Option.bind_eq_some_iff.mp H
          obtain ⟨t192, A230, H⟩ := H
          replace H : ((laws_eqBlockS.f kj8 t184 t192).bind fun t195 => (if t195 = true then ((laws_markBlockS.f kj8 t184 1).bind fun bt196 => (if bt196.1 < 0 then (laws_FnExactEvaluationOrder.j1 kj8 l0 a1 t180 t181 t187 true) else ((laws_eqIntS.f kj8 t187 t180).bind fun t198 => (if t198 = true then (laws_FnExactEvaluationOrder.j1 kj8 l0 a1 t180 t181 t187 (t188 != t181)) else (laws_FnExactEvaluationOrder.j1 kj8 l0 a1 t180 t181 t187 true))))) else (none))) = some r := H
          have A23 := Aside0.mk A230
          clear A230
          replace H := Option.bind_eq_some_iff.mp H
          obtain ⟨t195, A240, H⟩ := H
          replace H : (if t195 = true then ((laws_markBlockS.f kj8 t184 1).bind fun bt196 => (if bt196.1 < 0 then (laws_FnExactEvaluationOrder.j1 kj8 l0 a1 t180 t181 t187 true) else ((laws_eqIntS.f kj8 t187 t180).bind fun t198 => (if t198 = true then (laws_FnExactEvaluationOrder.j1 kj8 l0 a1 t180 t181 t187 (t188 != t181)) else (laws_FnExactEvaluationOrder.j1 kj8 l0 a1 t180 t181 t187 true))))) else (none)) = some r := H
          have A24 := Aside0.mk A240
          clear A240
          by_cases c25 : t195 = true
          · subst c25
            have H1 : ((laws_markBlockS.f kj8 t184 1).bind fun bt196 => (if bt196.1 < 0 then (laws_FnExactEvaluationOrder.j1 kj8 l0 a1 t180 t181 t187 true) else ((laws_eqIntS.f kj8 t187 t180).bind fun t198 => (if t198 = true then (laws_FnExactEvaluationOrder.j1 kj8 l0 a1 t180 t181 t187 (t188 != t181)) else (laws_FnExactEvaluationOrder.j1 kj8 l0 a1 t180 t181 t187 true))))) = some r := by rw [if_pos rfl] at H; exact H
            clear H
            have H := H1
            clear H1
            replace H := Option.bind_eq_some_iff.mp H
            obtain ⟨⟨t196, t197⟩, A260, H⟩ := H
            replace H : (if t196 < 0 then (laws_FnExactEvaluationOrder.j1 kj8 l0 a1 t180 t181 t187 true) else ((laws_eqIntS.f kj8 t187 t180).bind fun t198 => (if t198 = true then (laws_FnExactEvaluationOrder.j1 kj8 l0 a1 t180 t181 t187 (t188 != t181)) else (laws_FnExactEvaluationOrder.j1 kj8 l0 a1 t180 t181 t187 true)))) = some r := H
            have A26 := Aside0.mk A260
            clear A260
            have HC27 := Aside0.mk H
            clear H
            go_upto_region 14 with (first | ((with_reducible refine gate_callee (f := 13) rfl ?_); refine goesL_ (some 47) rfl rfl Try.func13 (by kernel_rfl) rfl #[.slice A0 l0.length c0] rfl (by (try simp only [List.map_toArray, List.map_cons, List.map_nil]); first | done | rfl | (simp only [List.length_drop, List.length_take]; rfl)) ?_; (with_reducible refine (laws_toBlockS.calls kj8 _ _ l0 t192 _ ?side1 ?side2 A23.out).mono ?_); (case side1 => repeat (first | exact (Kd.C_below HR0.out HB.out) | (with_reducible refine Kd.C_alloc ?_ _) | (with_reducible refine Kd.C_drewN ?_ _) | (with_reducible refine Kd.C_drew ?_))); (case side2 => exact HC0.out); rintro e w28 ⟨v193, rfl, ho0, hb⟩; refine ⟨_, rfl, ?_⟩; have n0_ := Aside0.mk (Kd.R_below (by (with_reducible repeat (first | apply Kd.R_alloc | apply Kd.R_drewN | apply Kd.R_drew)); exact HO_6.out) hb); have n1_ := Aside0.mk (Kd.R_elder' (by (with_reducible repeat (first | apply Kd.R_alloc | apply Kd.R_drewN | apply Kd.R_drew)); exact HO_8.out) (Kd.R_base ho0) hb); have n2_ := Aside0.mk (Kd.Q_below (by (with_reducible repeat (first | apply Kd.Q_alloc | apply Kd.Q_drewN | apply Kd.Q_drew)); exact HO_9.out) hb); have n3_ := Aside0.mk (Kd.R_lower (Kd.R_new' ho0 (Kd.R_lt (by (with_reducible repeat (first | apply Kd.R_alloc | apply Kd.R_drewN | apply Kd.R_drew)); exact HO_8.out))) (below_size (by repeat (first | (with_reducible first | exact HB.out | apply below_alloc | apply pw_below_drewN | apply below_drew1) | exact HB.out)))); have n4_ := Aside0.mk (below_step (by repeat (first | (with_reducible first | exact HB.out | apply below_alloc | apply pw_below_drewN | apply below_drew1) | exact HB.out)) hb); clear HO_6; clear HO_8; clear HO_9; clear HB; have HO_6 := n0_; have HO_8 := n1_; have HO_9 := n2_; have HO194 := n3_; have HB := n4_; clear n0_ n1_ n2_ n3_ n4_; (try clear hb); (try clear hb2); (try clear hk); (try clear hi); (try clear ho0); obtain ⟨Ao29, co29, eo29⟩ := Kd.R_slice HO194.out; subst eo29) | ((with_reducible refine gate_callee (f := 15) rfl ?_); refine goesL_ (some 48) rfl rfl Try.func15 (by kernel_rfl) rfl #[.slice Ao14 t184.length co14, .slice Ao29 t192.length co29] rfl (by (try simp only [List.map_toArray, List.map_cons, List.map_nil]); first | done | rfl | (simp only [List.length_drop, List.length_take]; rfl)) ?_; (with_reducible refine (laws_eqBlockS.calls kj8 _ _ t184 _ _ t192 true _ ?side1 ?side2 ?side3 ?side4 A24.out).mono ?_); (case side1 => repeat (first | exact (Kd.R_reads' HO_8.out).2.2 | (with_reducible refine Kd.C_alloc ?_ _) | (with_reducible refine Kd.C_drewN ?_ _) | (with_reducible refine Kd.C_drew ?_))); (case side2 => exact (Kd.R_reads' HO_8.out).2.1); (case side3 => repeat (first | exact (Kd.R_reads' HO194.out).2.2 | (with_reducible refine Kd.C_alloc ?_ _) | (with_reducible refine Kd.C_drewN ?_ _) | (with_reducible refine Kd.C_drew ?_))); (case side4 => exact (Kd.R_reads' HO194.out).2.1); rintro e w30 ⟨rfl, hb⟩; refine ⟨_, rfl, ?_⟩; have n0_ := Aside0.mk (Kd.R_below (by (with_reducible repeat (first | apply Kd.R_alloc | apply Kd.R_drewN | apply Kd.R_drew)); exact HO_6.out) hb); have n1_ := Aside0.mk (Kd.R_below (by (with_reducible repeat (first | apply Kd.R_alloc | apply Kd.R_drewN | apply Kd.R_drew)); exact HO_8.out) hb); have n2_ := Aside0.mk (Kd.Q_below (by (with_reducible repeat (first | apply Kd.Q_alloc | apply Kd.Q_drewN | apply Kd.Q_drew)); exact HO_9.out) hb); have n3_ := Aside0.mk (Kd.R_below (by (with_reducible repeat (first | apply Kd.R_alloc | apply Kd.R_drewN | apply Kd.R_drew)); exact HO194.out) hb); have n4_ := Aside0.mk (below_step (by repeat (first | (with_reducible first | exact HB.out | apply below_alloc | apply pw_below_drewN | apply below_drew1) | exact HB.out)) hb); clear HO_6; clear HO_8; clear HO_9; clear HO194; clear HB; have HO_6 := n0_; have HO_8 := n1_; have HO_9 := n2_; have HO194 := n3_; have HB := n4_; clear n0_ n1_ n2_ n3_ n4_; (try clear hb); (try clear hb2); (try clear hk); (try clear hi)) | ((with_reducible refine gate_callee (f := 16) rfl ?_); refine goesL_ (some 52) rfl rfl Try.func16 (by kernel_rfl) rfl #[.slice Ao14 t184.length co14, .int .i64 1] rfl (by (try simp only [List.map_toArray, List.map_cons, List.map_nil]); first | done | rfl | (simp only [List.length_drop, List.length_take]; rfl)) ?_; (with_reducible refine (laws_markBlockS.calls kj8 (fun k_ => some k_ = (.slice Ao14 t184.length co14 : Value).ownBlock) (.slice Ao14 t184.length co14) t184 1 t196 t197 w _ ?side1 ?side2 A26.out).mono ?_); (case side1 => repeat (first | (with_reducible first | exact HB.out | apply below_alloc | apply pw_below_drewN | apply below_drew1) | exact HB.out)); (case side2 => exact Kd.Q_tight rfl (Kd.Q_of_R (HO_8.out))); rintro e w31 ⟨rfl, hy0, hb, hkp⟩; refine ⟨_, rfl, ?_⟩; have n0_ := Aside0.mk (Kd.R_mono (ok' := fun k_ => some k_ ≠ (v189 : Value).ownBlock) (Kd.R_keptB ((Kd.R_apart' HO_6.out (Kd.R_typed HO_8.out) (by decide))) hkp (fun k_ hk_ hs_ => (hk_.2) hs_)) (fun k_ hk_ => hk_.1.1)); have n1_ := Aside0.mk (Kd.Q_reok rfl hy0 (fun k_ e_ => HO_8.out.1 k_ e_)); have n2_ := Aside0.mk (Kd.Q_mono (ok' := fun k_ => some k_ ≠ (v182 : Value).ownBlock) (Kd.Q_keptB ((Kd.Q_apart' HO_9.out (Kd.R_typed HO_8.out) (by decide))) hkp (fun k_ hk_ hs_ => (hk_.2) hs_)) (fun k_ hk_ => hk_.1.1)); have n3_ := Aside0.mk (Kd.R_mono (ok' := fun k_ => some k_ ≠ (.slice Ao14 t184.length co14 : Value).ownBlock) (Kd.R_keptB (HO194.out) hkp (fun k_ hk_ hs_ => (hk_.2) hs_)) (fun k_ hk_ => hk_.1.2)); have n4_ := Aside0.mk (hb); clear HO_6; clear HO_8; clear HO_9; clear HO194; clear HB; have HO_6 := n0_; have HO_8 := n1_; have HO_9 := n2_; have HO194 := n3_; have HB := n4_; clear n0_ n1_ n2_ n3_ n4_; (try clear hb); (try clear hkp); (try clear hy0)))
            (try simp only [Act.put, List.setIfInBounds_toArray, List.set_cons_zero, List.set_cons_succ])
            go_cut [65] (fun v65 wc => ∃ (kq : Nat) (x65_26 : Bool), v65 = .bool x65_26 ∧ Aside0 (laws_FnExactEvaluationOrder.j1 kq l0 a1 t180 t181 t187 x65_26 = some r) ∧ Aside0 (kq ≤ kj8) ∧ Aside0 (Kd.R (Kd.int .i64) 3 wc w.heap.size (fun k_ => some k_ ≠ (v189 : Value).ownBlock) v182 t180) ∧ Aside0 (Kd.Q (Kd.int .i64) 3 wc w.heap.size (fun k_ => some k_ ≠ (v182 : Value).ownBlock) v189 t187) ∧ Aside0 (Below w.heap.size w wc))
            case first =>
              have H := HC27.out
              clear HC27
              by_cases c32 : t196 < 0
              · rw [if_pos c32] at H
                have c32b0 : decide (t196 < 0) = true := decide_eq_true c32
                clear c32
                (first | rw [c32b0] | (simp only [i64_w, i32_w]; rw [c32b0]) | skip)
                have H' := Aside0.mk H
                clear H
                go_wp2
                go_meet
                case rel => exact ⟨_, (true), (by first | rfl | (simp; done) | (simp [*]; done)), H', ⟨by have := HJ8.out; first | omega | exact Nat.le_refl _⟩, ⟨by (with_reducible repeat (first | apply Kd.R_alloc | apply Kd.R_drewN | apply Kd.R_drew)); exact HO_6.out⟩, ⟨by (with_reducible repeat (first | apply Kd.Q_alloc | apply Kd.Q_drewN | apply Kd.Q_drew)); exact HO_9.out⟩, ⟨by repeat (first | (with_reducible first | exact HB.out | apply below_alloc | apply pw_below_drewN | apply below_drew1) | exact HB.out)⟩⟩
              · rw [if_neg c32] at H
                have c32b0 : decide (t196 < 0) = false := decide_eq_false c32
                clear c32
                (first | rw [c32b0] | (simp only [i64_w, i32_w]; rw [c32b0]) | skip)
                replace H := Option.bind_eq_some_iff.mp H
                obtain ⟨t198, A330, H⟩ := H
                replace H : (if t198 = true then (laws_FnExactEvaluationOrder.j1 kj8 l0 a1 t180 t181 t187 (t188 != t181)) else (laws_FnExactEvaluationOrder.j1 kj8 l0 a1 t180 t181 t187 true)) = some r := H
                have A33 := Aside0.mk A330
                clear A330
                by_cases c34 : t198 = true
                · subst c34
                  have H1 : (laws_FnExactEvaluationOrder.j1 kj8 l0 a1 t180 t181 t187 (t188 != t181)) = some r := by rw [if_pos rfl] at H; exact H
                  clear H
                  have H := H1
                  clear H1
                  have H' := Aside0.mk H
                  clear H
                  obtain ⟨Ao35, co35, eo35, _⟩ := Kd.Q_slice HO_9.out
                  subst eo35
                  obtain ⟨Ao36, co36, eo36⟩ := Kd.R_slice HO_6.out
                  subst eo36
                  go_wp2_with (first | (go_at_call 10; (with_reducible refine (laws_eqIntS.calls kj8 _ _ t187 _ _ t180 true _ ?side1 ?side2 ?side3 ?side4 A33.out).mono ?_); (case side1 => repeat (first | exact (Kd.Q_reads' HO_9.out).2.2 | (with_reducible refine Kd.C_alloc ?_ _) | (with_reducible refine Kd.C_drewN ?_ _) | (with_reducible refine Kd.C_drew ?_))); (case side2 => exact (Kd.Q_reads' HO_9.out).2.1); (case side3 => repeat (first | exact (Kd.R_reads' HO_6.out).2.2 | (with_reducible refine Kd.C_alloc ?_ _) | (with_reducible refine Kd.C_drewN ?_ _) | (with_reducible refine Kd.C_drew ?_))); (case side4 => exact (Kd.R_reads' HO_6.out).2.1); rintro e w' ⟨rfl, ⟨nd, rfl⟩⟩))
                  go_meet
                  case rel => exact ⟨_, ((t188 != t181)), (by first | rfl | (simp; done) | (simp [*]; done)), H', ⟨by have := HJ8.out; first | omega | exact Nat.le_refl _⟩, ⟨by (with_reducible repeat (first | apply Kd.R_alloc | apply Kd.R_drewN | apply Kd.R_drew)); exact HO_6.out⟩, ⟨by (with_reducible repeat (first | apply Kd.Q_alloc | apply Kd.Q_drewN | apply Kd.Q_drew)); exact HO_9.out⟩, ⟨by repeat (first | (with_reducible first | exact HB.out | apply below_alloc | apply pw_below_drewN | apply below_drew1) | exact HB.out)⟩⟩
                · replace c34 := Bool.eq_false_iff.mpr c34
                  subst c34
                  have H1 : (laws_FnExactEvaluationOrder.j1 kj8 l0 a1 t180 t181 t187 true) = some r := by rw [if_neg (show ¬ (false = true) by decide)] at H; exact H
                  clear H
                  have H := H1
                  clear H1
                  have H' := Aside0.mk H
                  clear H
                  obtain ⟨Ao37, co37, eo37, _⟩ := Kd.Q_slice HO_9.out
                  subst eo37
                  obtain ⟨Ao38, co38, eo38⟩ := Kd.R_slice HO_6.out
                  subst eo38
                  go_wp2_with (first | (go_at_call 10; (with_reducible refine (laws_eqIntS.calls kj8 _ _ t187 _ _ t180 false _ ?side1 ?side2 ?side3 ?side4 A33.out).mono ?_); (case side1 => repeat (first | exact (Kd.Q_reads' HO_9.out).2.2 | (with_reducible refine Kd.C_alloc ?_ _) | (with_reducible refine Kd.C_drewN ?_ _) | (with_reducible refine Kd.C_drew ?_))); (case side2 => exact (Kd.Q_reads' HO_9.out).2.1); (case side3 => repeat (first | exact (Kd.R_reads' HO_6.out).2.2 | (with_reducible refine Kd.C_alloc ?_ _) | (with_reducible refine Kd.C_drewN ?_ _) | (with_reducible refine Kd.C_drew ?_))); (case side4 => exact (Kd.R_reads' HO_6.out).2.1); rintro e w' ⟨rfl, ⟨nd, rfl⟩⟩))
                  go_meet
                  case rel => exact ⟨_, (true), (by first | rfl | (simp; done) | (simp [*]; done)), H', ⟨by have := HJ8.out; first | omega | exact Nat.le_refl _⟩, ⟨by (with_reducible repeat (first | apply Kd.R_alloc | apply Kd.R_drewN | apply Kd.R_drew)); exact HO_6.out⟩, ⟨by (with_reducible repeat (first | apply Kd.Q_alloc | apply Kd.Q_drewN | apply Kd.Q_drew)); exact HO_9.out⟩, ⟨by repeat (first | (with_reducible first | exact HB.out | apply below_alloc | apply pw_below_drewN | apply below_drew1) | exact HB.out)⟩⟩
            case rest =>
              clear HC27
              try clear c1
              try clear c2
              try clear p2
              try clear c3
              try clear c4
              try clear c4b0
              try clear c6
              try clear c10
              try clear c11
              try clear c13
              try clear c15
              try clear c16
              try clear c17
              try clear c22
              try clear c25
              try clear c26
              try clear c32
              try clear c32b0
              try clear c34
              try clear p2
              obtain ⟨kq, x65_26, rfl, HA, HJ26, HO_6, HO_9, HB⟩ := hcut
              cases kq with
              | zero => exact absurd HA.out (by simp [laws_FnExactEvaluationOrder.j1])
              | succ kj26 =>
                have H := HA.out
                clear HA
                simp only [laws_FnExactEvaluationOrder.j1] at H
                by_cases c39 : x65_26 = true
                · subst c39
                  have H1 : (none) = some r := by rw [if_pos rfl] at H; exact H
                  clear H
                  have H := H1
                  clear H1
                  exact absurd H (by simp)
                · replace c39 := Bool.eq_false_iff.mpr c39
                  subst c39
                  have H1 : ((laws_markIntS.f kj26 t187 1).bind fun bt199 => ((laws_heldIntS.f kj26 bt199.2 1).bind fun t201 => (if t201 < 0 then (none) else (if t201 = bt199.1 then ((laws_toBlockS.f kj26 l0).bind fun t202 => ((impl_EvaluationOrder.f t202 a1).bind fun bt205 => ((laws_eqIntS.f kj26 bt205.1 t180).bind fun t209 => (if t209 = true then (laws_FnExactEvaluationOrder.j2 kj26 bt199.2 bt199.1 (bt205.2 != t181)) else (laws_FnExactEvaluationOrder.j2 kj26 bt199.2 bt199.1 true))))) else (none))))) = some r := by rw [if_neg (show ¬ (false = true) by decide)] at H; exact H
                  clear H
                  have H := H1
                  clear H1
                  replace H := Option.bind_eq_some_iff.mp H
                  obtain ⟨⟨t199, t200⟩, A400, H⟩ := H
                  replace H : ((laws_heldIntS.f kj26 t200 1).bind fun t201 => (if t201 < 0 then (none) else (if t201 = t199 then ((laws_toBlockS.f kj26 l0).bind fun t202 => ((impl_EvaluationOrder.f t202 a1).bind fun bt205 => ((laws_eqIntS.f kj26 bt205.1 t180).bind fun t209 => (if t209 = true then (laws_FnExactEvaluationOrder.j2 kj26 t200 t199 (bt205.2 != t181)) else (laws_FnExactEvaluationOrder.j2 kj26 t200 t199 true))))) else (none)))) = some r := H
                  have A40 := Aside0.mk A400
                  clear A400
                  replace H := Option.bind_eq_some_iff.mp H
                  obtain ⟨t201, A410, H⟩ := H
                  replace H : (if t201 < 0 then (none) else (if t201 = t199 then ((laws_toBlockS.f kj26 l0).bind fun t202 => ((impl_EvaluationOrder.f t202 a1).bind fun bt205 => ((laws_eqIntS.f kj26 bt205.1 t180).bind fun t209 => (if t209 = true then (laws_FnExactEvaluationOrder.j2 kj26 t200 t199 (bt205.2 != t181)) else (laws_FnExactEvaluationOrder.j2 kj26 t200 t199 true))))) else (none))) = some r := H
                  have A41 := Aside0.mk A410
                  clear A410
                  by_cases c42 : t201 < 0
                  · rw [if_pos c42] at H
                    exact absurd H (by simp)
                  · rw [if_neg c42] at H
                    have c42b0 : decide (t201 < 0) = false := decide_eq_false c42
                    clear c42
                    by_cases c43 : t201 = t199
                    · rw [if_pos c43] at H
                      have c43b0 : (t201 == t199) = true := beq_iff_eq.mpr c43
                      have c43b1 : (t201 != t199) = false := bne_eq_false_iff_eq.mpr c43
                      clear c43
                      replace H := Option.bind_eq_some_iff.mp H
                      obtain ⟨t202, A440, H⟩ := H
                      replace H : ((impl_EvaluationOrder.f t202 a1).bind fun bt205 => ((laws_eqIntS.f kj26 bt205.1 t180).bind fun t209 => (if t209 = true then (laws_FnExactEvaluationOrder.j2 kj26 t200 t199 (bt205.2 != t181)) else (laws_FnExactEvaluationOrder.j2 kj26 t200 t199 true)))) = some r := H
                      have A44 := Aside0.mk A440
                      clear A440
                      replace H := Option.bind_eq_some_iff.mp H
                      obtain ⟨⟨t205, t206⟩, A450, H⟩ := H
                      replace H : ((laws_eqIntS.f kj26 t205 t180).bind fun t209 => (if t209 = true then (laws_FnExactEvaluationOrder.j2 kj26 t200 t199 (t206 != t181)) else (laws_FnExactEvaluationOrder.j2 kj26 t200 t199 true))) = some r := H
                      have A45 := Aside0.mk A450
                      clear A450
                      have HC46 := Aside0.mk H
                      clear H
                      obtain ⟨Ao47, co47, eo47, _⟩ := Kd.Q_slice HO_9.out
                      subst eo47
                      go_upto_region 25 with (first | ((with_reducible refine gate_callee (f := 17) rfl ?_); refine goesL_ (some 68) rfl rfl Try.func17 (by kernel_rfl) rfl #[.slice Ao47 t187.length co47, .int .i64 1] rfl (by (try simp only [List.map_toArray, List.map_cons, List.map_nil]); first | done | rfl | (simp only [List.length_drop, List.length_take]; rfl)) ?_; (with_reducible refine (laws_markIntS.calls kj26 (fun k_ => some k_ = (.slice Ao47 t187.length co47 : Value).ownBlock) (.slice Ao47 t187.length co47) t187 1 t199 t200 w _ ?side1 ?side2 A40.out).mono ?_); (case side1 => repeat (first | (with_reducible first | exact HB.out | apply below_alloc | apply pw_below_drewN | apply below_drew1) | exact HB.out)); (case side2 => exact Kd.Q_tight rfl HO_9.out); rintro e w48 ⟨rfl, hy0, hb, hkp⟩; refine ⟨_, rfl, ?_⟩; have n0_ := Aside0.mk (Kd.R_mono (ok' := fun k_ => some k_ ≠ (.slice Ao47 t187.length co47 : Value).ownBlock) (Kd.R_keptB (HO_6.out) hkp (fun k_ hk_ hs_ => (hk_) hs_)) (fun k_ hk_ => hk_.1)); have n1_ := Aside0.mk (Kd.Q_reok rfl hy0 (fun k_ e_ => HO_9.out.1 k_ e_)); have n2_ := Aside0.mk (hb); clear HO_6; clear HO_9; clear HB; have HO_6 := n0_; have HO_9 := n1_; have HB := n2_; clear n0_ n1_ n2_; (try clear hb); (try clear hkp); (try clear hy0)) | ((with_reducible refine gate_callee (f := 18) rfl ?_); refine goesL_ (some 71) rfl rfl Try.func18 (by kernel_rfl) rfl #[.slice Ao47 t200.length co47, .int .i64 1] rfl (by (try simp only [List.map_toArray, List.map_cons, List.map_nil]); first | done | (rw [show t200.length = t187.length from (Kd.Q_reads' HO_9.out).1.symm] <;> rfl) | rfl | (simp only [List.length_drop, List.length_take]; rfl)) ?_; (with_reducible refine (laws_heldIntS.calls kj26 _ _ t200 1 t201 _ ?side1 ?side2 A41.out).mono ?_); (case side1 => repeat (first | exact (Kd.Q_reads' HO_9.out).2.2 | (with_reducible refine Kd.C_alloc ?_ _) | (with_reducible refine Kd.C_drewN ?_ _) | (with_reducible refine Kd.C_drew ?_))); (case side2 => rw [show t200.length = t187.length from (Kd.Q_reads' HO_9.out).1.symm]; exact (Kd.Q_reads' HO_9.out).2.1); rintro e w' ⟨rfl, ⟨nd, rfl⟩⟩; refine ⟨_, rfl, ?_⟩) | ((with_reducible refine gate_callee (f := 13) rfl ?_); refine goesL_ (some 79) rfl rfl Try.func13 (by kernel_rfl) rfl #[.slice A0 l0.length c0] rfl (by (try simp only [List.map_toArray, List.map_cons, List.map_nil]); first | done | rfl | (simp only [List.length_drop, List.length_take]; rfl)) ?_; (with_reducible refine (laws_toBlockS.calls kj26 _ _ l0 t202 _ ?side1 ?side2 A44.out).mono ?_); (case side1 => repeat (first | exact (Kd.C_below HR0.out (by repeat (first | (with_reducible first | exact HB.out | apply below_alloc | apply pw_below_drewN | apply below_drew1) | exact HB.out))) | (with_reducible refine Kd.C_alloc ?_ _) | (with_reducible refine Kd.C_drewN ?_ _) | (with_reducible refine Kd.C_drew ?_))); (case side2 => exact HC0.out); rintro e w49 ⟨v203, rfl, ho0, hb⟩; refine ⟨_, rfl, ?_⟩; have n0_ := Aside0.mk (Kd.R_below (by (with_reducible repeat (first | apply Kd.R_alloc | apply Kd.R_drewN | apply Kd.R_drew)); exact HO_6.out) hb); have n1_ := Aside0.mk (Kd.Q_below (by (with_reducible repeat (first | apply Kd.Q_alloc | apply Kd.Q_drewN | apply Kd.Q_drew)); exact HO_9.out) hb); have n2_ := Aside0.mk (Kd.R_lower ho0 (below_size (by repeat (first | (with_reducible first | exact HB.out | apply below_alloc | apply pw_below_drewN | apply below_drew1) | exact HB.out)))); have n3_ := Aside0.mk (below_step (by repeat (first | (with_reducible first | exact HB.out | apply below_alloc | apply pw_below_drewN | apply below_drew1) | exact HB.out)) hb); clear HO_6; clear HO_9; clear HB; have HO_6 := n0_; have HO_9 := n1_; have HO204 := n2_; have HB := n3_; clear n0_ n1_ n2_ n3_; (try clear hb); (try clear hb2); (try clear hk); (try clear hi); (try clear ho0); obtain ⟨Ao50, co50, eo50⟩ := Kd.R_slice HO204.out; subst eo50) | ((with_reducible refine gate_callee (f := 26) rfl ?_); refine goesL_ (some 81) rfl rfl Try.func26 (by kernel_rfl) rfl #[.slice Ao50 t202.length co50, .int .i64 a1] rfl (by (try simp only [List.map_toArray, List.map_cons, List.map_nil]); first | done | rfl | (simp only [List.length_drop, List.length_take]; rfl)) ?_; (with_reducible refine (impl_EvaluationOrder.calls _ _ t202 a1 t205 t206 _ ?side1 ?side2 A45.out).mono ?_); (case side1 => repeat (first | exact (Kd.R_reads' HO204.out).2.2 | (with_reducible refine Kd.C_alloc ?_ _) | (with_reducible refine Kd.C_drewN ?_ _) | (with_reducible refine Kd.C_drew ?_))); (case side2 => exact (Kd.R_reads' HO204.out).2.1); rintro e w51 ⟨v207, rfl, ho0, hb⟩; refine ⟨_, rfl, ?_⟩; have n0_ := Aside0.mk (Kd.R_elder' (by (with_reducible repeat (first | apply Kd.R_alloc | apply Kd.R_drewN | apply Kd.R_drew)); exact HO_6.out) (Kd.Q_base ho0) hb); have n1_ := Aside0.mk (Kd.Q_elder' (by (with_reducible repeat (first | apply Kd.Q_alloc | apply Kd.Q_drewN | apply Kd.Q_drew)); exact HO_9.out) (Kd.Q_base ho0) hb); have n2_ := Aside0.mk (Kd.R_below (by (with_reducible repeat (first | apply Kd.R_alloc | apply Kd.R_drewN | apply Kd.R_drew)); exact HO204.out) hb); have n3_ := Aside0.mk (Kd.Q_lower (Kd.Q_new' (Kd.Q_new' ho0 (Kd.R_lt (by (with_reducible repeat (first | apply Kd.R_alloc | apply Kd.R_drewN | apply Kd.R_drew)); exact HO_6.out))) (Kd.Q_lt (by (with_reducible repeat (first | apply Kd.Q_alloc | apply Kd.Q_drewN | apply Kd.Q_drew)); exact HO_9.out))) (below_size (by repeat (first | (with_reducible first | exact HB.out | apply below_alloc | apply pw_below_drewN | apply below_drew1) | exact HB.out)))); have n4_ := Aside0.mk (below_step (by repeat (first | (with_reducible first | exact HB.out | apply below_alloc | apply pw_below_drewN | apply below_drew1) | exact HB.out)) hb); clear HO_6; clear HO_9; clear HO204; clear HB; have HO_6 := n0_; have HO_9 := n1_; have HO204 := n2_; have HO208 := n3_; have HB := n4_; clear n0_ n1_ n2_ n3_ n4_; (try clear hb); (try clear hb2); (try clear hk); (try clear hi); (try clear ho0)))
                      (try simp only [Act.put, List.setIfInBounds_toArray, List.set_cons_zero, List.set_cons_succ])
                      go_cut [92] (fun v92 wc => ∃ (kq : Nat) (x92_45 : Bool), v92 = .bool x92_45 ∧ Aside0 (laws_FnExactEvaluationOrder.j2 kq t200 t199 x92_45 = some r) ∧ Aside0 (kq ≤ kj26) ∧ Aside0 (Kd.Q (Kd.int .i64) 3 wc w.heap.size (fun _ => True) (.slice Ao47 t187.length co47) t200) ∧ Aside0 (Below w.heap.size w wc))
                      case first =>
                        have H := HC46.out
                        clear HC46
                        replace H := Option.bind_eq_some_iff.mp H
                        obtain ⟨t209, A520, H⟩ := H
                        replace H : (if t209 = true then (laws_FnExactEvaluationOrder.j2 kj26 t200 t199 (t206 != t181)) else (laws_FnExactEvaluationOrder.j2 kj26 t200 t199 true)) = some r := H
                        have A52 := Aside0.mk A520
                        clear A520
                        by_cases c53 : t209 = true
                        · subst c53
                          have H1 : (laws_FnExactEvaluationOrder.j2 kj26 t200 t199 (t206 != t181)) = some r := by rw [if_pos rfl] at H; exact H
                          clear H
                          have H := H1
                          clear H1
                          have H' := Aside0.mk H
                          clear H
                          obtain ⟨Ao54, co54, eo54, _⟩ := Kd.Q_slice HO208.out
                          subst eo54
                          obtain ⟨Ao55, co55, eo55⟩ := Kd.R_slice HO_6.out
                          subst eo55
                          go_wp2_with (first | ((with_reducible refine gate_callee (f := 10) rfl ?_); refine goesL_ (some 86) rfl rfl Try.func10 (by kernel_rfl) rfl #[.slice Ao54 t205.length co54, .slice Ao55 t180.length co55] rfl (by (try simp only [List.map_toArray, List.map_cons, List.map_nil]); first | done | rfl | (simp only [List.length_drop, List.length_take]; rfl)) ?_; (with_reducible refine (laws_eqIntS.calls kj26 _ _ t205 _ _ t180 true _ ?side1 ?side2 ?side3 ?side4 A52.out).mono ?_); (case side1 => repeat (first | exact (Kd.Q_reads' HO208.out).2.2 | (with_reducible refine Kd.C_alloc ?_ _) | (with_reducible refine Kd.C_drewN ?_ _) | (with_reducible refine Kd.C_drew ?_))); (case side2 => exact (Kd.Q_reads' HO208.out).2.1); (case side3 => repeat (first | exact (Kd.R_reads' HO_6.out).2.2 | (with_reducible refine Kd.C_alloc ?_ _) | (with_reducible refine Kd.C_drewN ?_ _) | (with_reducible refine Kd.C_drew ?_))); (case side4 => exact (Kd.R_reads' HO_6.out).2.1); rintro e w' ⟨rfl, ⟨nd, rfl⟩⟩; refine ⟨_, rfl, ?_⟩))
                          go_meet
                          case rel => exact ⟨_, ((t206 != t181)), (by first | rfl | (simp; done) | (simp [*]; done)), H', ⟨by have := HJ8.out; have := HJ26.out; first | omega | exact Nat.le_refl _⟩, ⟨by (with_reducible repeat (first | apply Kd.Q_alloc | apply Kd.Q_drewN | apply Kd.Q_drew)); exact Kd.Q_mono HO_9.out (fun _ hk => trivial)⟩, ⟨by repeat (first | (with_reducible first | exact HB.out | apply below_alloc | apply pw_below_drewN | apply below_drew1) | exact HB.out)⟩⟩
                        · replace c53 := Bool.eq_false_iff.mpr c53
                          subst c53
                          have H1 : (laws_FnExactEvaluationOrder.j2 kj26 t200 t199 true) = some r := by rw [if_neg (show ¬ (false = true) by decide)] at H; exact H
                          clear H
                          have H := H1
                          clear H1
                          have H' := Aside0.mk H
                          clear H
                          obtain ⟨Ao56, co56, eo56, _⟩ := Kd.Q_slice HO208.out
                          subst eo56
                          obtain ⟨Ao57, co57, eo57⟩ := Kd.R_slice HO_6.out
                          subst eo57
                          go_wp2_with (first | ((with_reducible refine gate_callee (f := 10) rfl ?_); refine goesL_ (some 86) rfl rfl Try.func10 (by kernel_rfl) rfl #[.slice Ao56 t205.length co56, .slice Ao57 t180.length co57] rfl (by (try simp only [List.map_toArray, List.map_cons, List.map_nil]); first | done | rfl | (simp only [List.length_drop, List.length_take]; rfl)) ?_; (with_reducible refine (laws_eqIntS.calls kj26 _ _ t205 _ _ t180 false _ ?side1 ?side2 ?side3 ?side4 A52.out).mono ?_); (case side1 => repeat (first | exact (Kd.Q_reads' HO208.out).2.2 | (with_reducible refine Kd.C_alloc ?_ _) | (with_reducible refine Kd.C_drewN ?_ _) | (with_reducible refine Kd.C_drew ?_))); (case side2 => exact (Kd.Q_reads' HO208.out).2.1); (case side3 => repeat (first | exact (Kd.R_reads' HO_6.out).2.2 | (with_reducible refine Kd.C_alloc ?_ _) | (with_reducible refine Kd.C_drewN ?_ _) | (with_reducible refine Kd.C_drew ?_))); (case side4 => exact (Kd.R_reads' HO_6.out).2.1); rintro e w' ⟨rfl, ⟨nd, rfl⟩⟩; refine ⟨_, rfl, ?_⟩))
                          go_meet
                          case rel => exact ⟨_, (true), (by first | rfl | (simp; done) | (simp [*]; done)), H', ⟨by have := HJ8.out; have := HJ26.out; first | omega | exact Nat.le_refl _⟩, ⟨by (with_reducible repeat (first | apply Kd.Q_alloc | apply Kd.Q_drewN | apply Kd.Q_drew)); exact Kd.Q_mono HO_9.out (fun _ hk => trivial)⟩, ⟨by repeat (first | (with_reducible first | exact HB.out | apply below_alloc | apply pw_below_drewN | apply below_drew1) | exact HB.out)⟩⟩
                      case rest =>
                        clear HC46
                        try clear c1
                        try clear c2
                        try clear p2
                        try clear c3
                        try clear c4
                        try clear c4b0
                        try clear c5
                        try clear c6
                        try clear c10
                        try clear c11
                        try clear c13
                        try clear c15
                        try clear c16
                        try clear c17
                        try clear c18
                        try clear c22
                        try clear c25
                        try clear c26
                        try clear c32
                        try clear c32b0
                        try clear c34
                        try clear c39
                        try clear c42
                        try clear c42b0
                        try clear c43
                        try clear c43b0
                        try clear c43b1
                        try clear c53
                        try clear p2
                        obtain ⟨kq, x92_45, rfl, HA, HJ45, HO_9, HB⟩ := hcut
                        have hl9_45 := (Kd.Q_reads' HO_9.out).1
                        rw [hl9_45] at HO_9
                        (try simp only [hl9_45])
                        cases kq with
                        | zero => exact absurd HA.out (by simp [laws_FnExactEvaluationOrder.j2])
                        | succ kj45 =>
                          have H := HA.out
                          clear HA
                          simp only [laws_FnExactEvaluationOrder.j2] at H
                          by_cases c58 : x92_45 = true
                          · subst c58
                            have H1 : (none) = some r := by rw [if_pos rfl] at H; exact H
                            clear H
                            have H := H1
                            clear H1
                            exact absurd H (by simp)
                          · replace c58 := Bool.eq_false_iff.mpr c58
                            subst c58
                            have H1 : ((laws_heldIntS.f kj45 t200 1).bind fun t210 => (if t210 < 0 then (none) else (if t210 = t199 then (some true) else (none)))) = some r := by rw [if_neg (show ¬ (false = true) by decide)] at H; exact H
                            clear H
                            have H := H1
                            clear H1
                            replace H := Option.bind_eq_some_iff.mp H
                            obtain ⟨t210, A590, H⟩ := H
                            replace H : (if t210 < 0 then (none) else (if t210 = t199 then (some true) else (none))) = some r := H
                            have A59 := Aside0.mk A590
                            clear A590
                            by_cases c60 : t210 < 0
                            · rw [if_pos c60] at H
                              exact absurd H (by simp)
                            · rw [if_neg c60] at H
                              have c60b0 : decide (t210 < 0) = false := decide_eq_false c60
                              clear c60
                              by_cases c61 : t210 = t199
                              · rw [if_pos c61] at H
                                have c61b0 : (t210 == t199) = true := beq_iff_eq.mpr c61
                                have c61b1 : (t210 != t199) = false := bne_eq_false_iff_eq.mpr c61
                                clear c61
                                obtain rfl := Option.some.inj H
                                go_wp2_with (first | ((with_reducible refine gate_callee (f := 18) rfl ?_); refine goesL_ (some 95) rfl rfl Try.func18 (by kernel_rfl) rfl #[.slice Ao47 t200.length co47, .int .i64 1] rfl (by (try simp only [List.map_toArray, List.map_cons, List.map_nil]); first | done | rfl | (simp only [List.length_drop, List.length_take]; rfl)) ?_; (with_reducible refine (laws_heldIntS.calls kj45 _ _ t200 1 t210 _ ?side1 ?side2 A59.out).mono ?_); (case side1 => repeat (first | exact (Kd.Q_reads' HO_9.out).2.2 | (with_reducible refine Kd.C_alloc ?_ _) | (with_reducible refine Kd.C_drewN ?_ _) | (with_reducible refine Kd.C_drew ?_))); (case side2 => exact (Kd.Q_reads' HO_9.out).2.1); rintro e w' ⟨rfl, ⟨nd, rfl⟩⟩; refine ⟨_, rfl, ?_⟩))
                                go_ret
                                exact ⟨by first | rfl | (simp [errW_none, errW_some] <;> rfl) | (simp [*, errW_none, errW_some] <;> rfl), by repeat (first | (with_reducible first | exact HB.out | apply below_alloc | apply pw_below_drewN | apply below_drew1) | exact HB.out)⟩
                              · rw [if_neg c61] at H
                                exact absurd H (by simp)
                    · rw [if_neg c43] at H
                      exact absurd H (by simp)
          · replace c25 := Bool.eq_false_iff.mpr c25
            subst c25
            have H1 : (none) = some r := by rw [if_neg (show ¬ (false = true) by decide)] at H; exact H
            clear H
            have H := H1
            clear H1
            exact absurd H (by simp)

end Go.Proofs.Ytpefkclpnkefnaa.GFnExactEvaluationOrder

/- Functions of the program as Lean functions, with proofs that the machine comes to their answers; written by this session's program mkprint.py; no condition beyond each theorem's own. -/
import Derived.Test.YtmlhkalgaeemaaaGFnExactUsedBitsx0
import Derived.Test.YtmlhkalgaeemaaaGFnExactUsedBitsx2
import Derived.Test.YtmlhkalgaeemaaaGFnExactUsedBitsx3
namespace Go.Proofs.Ytmlhkalgaeemaaa.GFnExactUsedBits
open Go.RowKit Go.Proofs.YtmlhkalgaeemaaaV.PrintWords Go.Proofs.YtmlhkalgaeemaaaV.PrintLast Go.Proofs.YtmlhkalgaeemaaaV.PrintMore
attribute [local go_sem] max2_int min2_int max_two min_two max_three min_three max_four min_four   -- for this text's walks alone
set_option linter.unusedVariables false
set_option linter.unusedSimpArgs false

/-! ### laws_FnExactUsedBits: function 3 -/
def laws_FnExactUsedBits.j0 : Nat → List (S77) → List Int → List Int → Bool → Option (Bool)
  | 0, _, _, _, _ => none
  | k + 1, x0, x4, x6, x42 => if x42 = true then (none) else ((laws_markIntS.f k x6 1).bind fun bt158 => ((laws_heldIntS.f k bt158.2 1).bind fun t160 => (if t160 < 0 then (none) else (if t160 = bt158.1 then ((laws_toNodeS.f k x0).bind fun t161 => ((impl_UsedBits.f k t161).bind fun t164 => ((laws_eqIntS.f k t164 x4).bind fun t167 => (if t167 = true then ((laws_heldIntS.f k bt158.2 1).bind fun t168 => (if t168 < 0 then (none) else (if t168 = bt158.1 then (some true) else (none)))) else (none))))) else (none)))))
def laws_FnExactUsedBits.f (k : Nat) (l0 : List (S77)) : Option (Bool) := (laws_szNodeS.f l0 1048576).bind fun t137 => (if t137 < 0 then (some true) else ((laws_toNodeS.f k l0).bind fun t138 => ((spec_UsedBits.f k t138).bind fun t141 => ((laws_toNodeS.f k l0).bind fun t144 => ((impl_UsedBits.f k t144).bind fun t147 => ((laws_eqIntS.f k t147 t141).bind fun t150 => (if t150 = true then ((laws_toNodeS.f k l0).bind fun t151 => ((laws_eqNodeS.f k t144 t151).bind fun t154 => (if t154 = true then ((laws_markNodeS.f k t144 1).bind fun bt155 => (if bt155.1 < 0 then (laws_FnExactUsedBits.j0 k l0 t141 t147 true) else ((laws_eqIntS.f k t147 t141).bind fun t157 => (laws_FnExactUsedBits.j0 k l0 t141 t147 (!t157))))) else (none)))) else (none))))))))
theorem laws_FnExactUsedBits.mono_l : ∀ k, (∀ y0 y1 y2 y3, LeO (laws_FnExactUsedBits.j0 k y0 y1 y2 y3) (laws_FnExactUsedBits.j0 (k + 1) y0 y1 y2 y3))
  | 0 => fun _ _ _ _ r h => by simp [laws_FnExactUsedBits.j0] at h
  | k + 1 => by
    have ih0 := laws_FnExactUsedBits.mono_l k
    · intro y0 y1 y2 y3
      unfold laws_FnExactUsedBits.j0
      repeat' first
      | (with_reducible exact ih0 _ _ _ _)
      | (with_reducible exact impl_UsedBits.mono _ _)
      | (with_reducible exact laws_eqIntS.mono _ _ _)
      | (with_reducible exact laws_eqNodeS.mono _ _ _)
      | (with_reducible exact laws_heldIntS.mono _ _ _)
      | (with_reducible exact laws_markIntS.mono _ _ _)
      | (with_reducible exact laws_markNodeS.mono _ _ _)
      | (with_reducible exact laws_toNodeS.mono _ _)
      | (with_reducible exact spec_UsedBits.mono _ _)
      | (with_reducible exact LeO.refl _)
      | (with_reducible exact LeO.none _)
      | (with_reducible refine LeO.ite ?_ ?_)
      | (with_reducible refine LeO.bind ?_ (fun _ => ?_))
      | exact ih0 _ _ _ _
      | exact impl_UsedBits.mono _ _
      | exact laws_eqIntS.mono _ _ _
      | exact laws_eqNodeS.mono _ _ _
      | exact laws_heldIntS.mono _ _ _
      | exact laws_markIntS.mono _ _ _
      | exact laws_markNodeS.mono _ _ _
      | exact laws_toNodeS.mono _ _
      | exact spec_UsedBits.mono _ _
      | exact LeO.none _
      | refine LeO.ite ?_ ?_
      | refine LeO.bind ?_ (fun _ => ?_)
theorem laws_FnExactUsedBits.mono : ∀ a0 k, LeO (laws_FnExactUsedBits.f k a0) (laws_FnExactUsedBits.f (k + 1) a0) := by
  intro a0 k
  have ih0 := laws_FnExactUsedBits.mono_l k
  unfold laws_FnExactUsedBits.f
  repeat' first
      | (with_reducible exact ih0 _ _ _ _)
      | (with_reducible exact impl_UsedBits.mono _ _)
      | (with_reducible exact laws_eqIntS.mono _ _ _)
      | (with_reducible exact laws_eqNodeS.mono _ _ _)
      | (with_reducible exact laws_heldIntS.mono _ _ _)
      | (with_reducible exact laws_markIntS.mono _ _ _)
      | (with_reducible exact laws_markNodeS.mono _ _ _)
      | (with_reducible exact laws_toNodeS.mono _ _)
      | (with_reducible exact spec_UsedBits.mono _ _)
      | (with_reducible exact LeO.refl _)
      | (with_reducible exact LeO.none _)
      | (with_reducible refine LeO.ite ?_ ?_)
      | (with_reducible refine LeO.bind ?_ (fun _ => ?_))
      | exact ih0 _ _ _ _
      | exact impl_UsedBits.mono _ _
      | exact laws_eqIntS.mono _ _ _
      | exact laws_eqNodeS.mono _ _ _
      | exact laws_heldIntS.mono _ _ _
      | exact laws_markIntS.mono _ _ _
      | exact laws_markNodeS.mono _ _ _
      | exact laws_toNodeS.mono _ _
      | exact spec_UsedBits.mono _ _
      | exact LeO.none _
      | refine LeO.ite ?_ ?_
      | refine LeO.bind ?_ (fun _ => ?_)
set_option maxHeartbeats 8000000 in
set_option maxRecDepth 100000 in
theorem laws_FnExactUsedBits.calls (k : Nat) (A0 : Option Addr) (c0 : Nat) (l0 : List (S77)) (r : Bool) (w : World) (hr0 : Kd.C k77 w A0 l0.length l0) (hc0 : l0.length ≤ c0) (h : laws_FnExactUsedBits.f k l0 = some r) :
    Calls Try.prog 3 #[.slice A0 l0.length c0] w fun e w' => e = .returned (.bool r) ∧ Below w.heap.size w w' := by
  have HR0 := Aside0.mk hr0
  have HC0 := Aside0.mk hc0
  clear hr0 hc0
  have HB := Aside0.mk (Below.refl w.heap.size w)
  have H : ((laws_szNodeS.f l0 1048576).bind fun t137 => (if t137 < 0 then (some true) else ((laws_toNodeS.f k l0).bind fun t138 => ((spec_UsedBits.f k t138).bind fun t141 => ((laws_toNodeS.f k l0).bind fun t144 => ((impl_UsedBits.f k t144).bind fun t147 => ((laws_eqIntS.f k t147 t141).bind fun t150 => (if t150 = true then ((laws_toNodeS.f k l0).bind fun t151 => ((laws_eqNodeS.f k t144 t151).bind fun t154 => (if t154 = true then ((laws_markNodeS.f k t144 1).bind fun bt155 => (if bt155.1 < 0 then (laws_FnExactUsedBits.j0 k l0 t141 t147 true) else ((laws_eqIntS.f k t147 t141).bind fun t157 => (laws_FnExactUsedBits.j0 k l0 t141 t147 (!t157))))) else (none)))) else (none))))))))) = some r := h
  clear h
  replace H := Option.bind_eq_some_iff.mp H
  obtain ⟨t137, A20, H⟩ := H
  replace H : (if t137 < 0 then (some true) else ((laws_toNodeS.f k l0).bind fun t138 => ((spec_UsedBits.f k t138).bind fun t141 => ((laws_toNodeS.f k l0).bind fun t144 => ((impl_UsedBits.f k t144).bind fun t147 => ((laws_eqIntS.f k t147 t141).bind fun t150 => (if t150 = true then ((laws_toNodeS.f k l0).bind fun t151 => ((laws_eqNodeS.f k t144 t151).bind fun t154 => (if t154 = true then ((laws_markNodeS.f k t144 1).bind fun bt155 => (if bt155.1 < 0 then (laws_FnExactUsedBits.j0 k l0 t141 t147 true) else ((laws_eqIntS.f k t147 t141).bind fun t157 => (laws_FnExactUsedBits.j0 k l0 t141 t147 (!t157))))) else (none)))) else (none)))))))) = some r := H
  have A2 := Aside0.mk A20
  clear A20
  by_cases c3 : t137 < 0
  · rw [if_pos c3] at H
    have c3b0 : decide (t137 < 0) = true := decide_eq_true c3
    clear c3
    obtain rfl := Option.some.inj H
    go_enter Try.func3, Try.ntmps3
    go_wp2_with (first | ((with_reducible refine gate_callee (f := 15) rfl ?_); refine goesL_ (some 13) rfl rfl Try.func15 (by kernel_rfl) rfl #[.slice A0 l0.length c0, .int .i64 1048576] rfl (by (try simp only [List.map_toArray, List.map_cons, List.map_nil]); first | done | rfl | (simp only [List.length_drop, List.length_take]; rfl)) ?_; (with_reducible refine (laws_szNodeS.calls _ _ l0 1048576 t137 _ ?side1 ?side2 A2.out).mono ?_); (case side1 => repeat (first | exact HR0.out | (with_reducible refine Kd.C_alloc ?_ _) | (with_reducible refine Kd.C_drewN ?_ _) | (with_reducible refine Kd.C_drew ?_))); (case side2 => exact HC0.out); rintro e w' ⟨rfl, ⟨nd, rfl⟩⟩; refine ⟨_, rfl, ?_⟩))
    go_ret
    exact ⟨by first | rfl | (simp [errW_none, errW_some] <;> rfl) | (simp [*, errW_none, errW_some] <;> rfl), by repeat (first | (with_reducible first | exact HB.out | apply below_alloc | apply pw_below_drewN | apply below_drew1) | exact HB.out)⟩
  · rw [if_neg c3] at H
    have c3b0 : decide (t137 < 0) = false := decide_eq_false c3
    clear c3
    replace H := Option.bind_eq_some_iff.mp H
    obtain ⟨t138, A40, H⟩ := H
    replace H : ((spec_UsedBits.f k t138).bind fun t141 => ((laws_toNodeS.f k l0).bind fun t144 => ((impl_UsedBits.f k t144).bind fun t147 => ((laws_eqIntS.f k t147 t141).bind fun t150 => (if t150 = true then ((laws_toNodeS.f k l0).bind fun t151 => ((laws_eqNodeS.f k t144 t151).bind fun t154 => (if t154 = true then ((laws_markNodeS.f k t144 1).bind fun bt155 => (if bt155.1 < 0 then (laws_FnExactUsedBits.j0 k l0 t141 t147 true) else ((laws_eqIntS.f k t147 t141).bind fun t157 => (laws_FnExactUsedBits.j0 k l0 t141 t147 (!t157))))) else (none)))) else (none)))))) = some r := H
    have A4 := Aside0.mk A40
    clear A40
    replace H := Option.bind_eq_some_iff.mp H
    obtain ⟨t141, A50, H⟩ := H
    replace H : ((laws_toNodeS.f k l0).bind fun t144 => ((impl_UsedBits.f k t144).bind fun t147 => ((laws_eqIntS.f k t147 t141).bind fun t150 => (if t150 = true then ((laws_toNodeS.f k l0).bind fun t151 => ((laws_eqNodeS.f k t144 t151).bind fun t154 => (if t154 = true then ((laws_markNodeS.f k t144 1).bind fun bt155 => (if bt155.1 < 0 then (laws_FnExactUsedBits.j0 k l0 t141 t147 true) else ((laws_eqIntS.f k t147 t141).bind fun t157 => (laws_FnExactUsedBits.j0 k l0 t141 t147 (!t157))))) else (none)))) else (none))))) = some r := H
    have A5 := Aside0.mk A50
    clear A50
    replace H := Option.bind_eq_some_iff.mp H
    obtain ⟨t144, A60, H⟩ := H
    replace H : ((impl_UsedBits.f k t144).bind fun t147 => ((laws_eqIntS.f k t147 t141).bind fun t150 => (if t150 = true then ((laws_toNodeS.f k l0).bind fun t151 => ((laws_eqNodeS.f k t144 t151).bind fun t154 => (if t154 = true then ((laws_markNodeS.f k t144 1).bind fun bt155 => (if bt155.1 < 0 then (laws_FnExactUsedBits.j0 k l0 t141 t147 true) else ((laws_eqIntS.f k t147 t141).bind fun t157 => (laws_FnExactUsedBits.j0 k l0 t141 t147 (!t157))))) else (none)))) else (none)))) = some r := H
    have A6 := Aside0.mk A60
    clear A60
    replace H := Option.bind_eq_some_iff.mp H
    obtain ⟨t147, A70, H⟩ := H
    replace H : ((laws_eqIntS.f k t147 t141).bind fun t150 => (if t150 = true then ((laws_toNodeS.f k l0).bind fun t151 => ((laws_eqNodeS.f k t144 t151).bind fun t154 => (if t154 = true then ((laws_markNodeS.f k t144 1).bind fun bt155 => (if bt155.1 < 0 then (laws_FnExactUsedBits.j0 k l0 t141 t147 true) else ((laws_eqIntS.f k t147 t141).bind fun t157 => (laws_FnExactUsedBits.j0 k l0 t141 t147 (!t157))))) else (none)))) else (none))) = some r := H
    have A7 := Aside0.mk A70
    clear A70
    replace H := Option.bind_eq_some_iff.mp H
    obtain ⟨t150, A80, H⟩ := H
    replace H : (if t150 = true then ((laws_toNodeS.f k l0).bind fun t151 => ((laws_eqNodeS.f k t144 t151).bind fun t154 => (if t154 = true then ((laws_markNodeS.f k t144 1).bind fun bt155 => (if bt155.1 < 0 then (laws_FnExactUsedBits.j0 k l0 t141 t147 true) else ((laws_eqIntS.f k t147 t141).bind fun t157 => (laws_FnExactUsedBits.j0 k l0 t141 t147 (!t157))))) else (none)))) else (none)) = some r := H
    have A8 := Aside0.mk A80
    clear A80
    by_cases c9 : t150 = true
    · subst c9
      have H1 : ((laws_toNodeS.f k l0).bind fun t151 => ((laws_eqNodeS.f k t144 t151).bind fun t154 => (if t154 = true then ((laws_markNodeS.f k t144 1).bind fun bt155 => (if bt155.1 < 0 then (laws_FnExactUsedBits.j0 k l0 t141 t147 true) else ((laws_eqIntS.f k t147 t141).bind fun t157 => (laws_FnExactUsedBits.j0 k l0 t141 t147 (!t157))))) else (none)))) = some r := by rw [if_pos rfl] at H; exact H
      clear H
      have H := H1
      clear H1
      replace H := Option.bind_eq_some_iff.mp H
      obtain ⟨t151, A100, H⟩ := H
      replace H : ((laws_eqNodeS.f k t144 t151).bind fun t154 => (if t154 = true then ((laws_markNodeS.f k t144 1).bind fun bt155 => (if bt155.1 < 0 then (laws_FnExactUsedBits.j0 k l0 t141 t147 true) else ((laws_eqIntS.f k t147 t141).bind fun t157 => (laws_FnExactUsedBits.j0 k l0 t141 t147 (!t157))))) else (none))) = some r := H
      have A10 := Aside0.mk A100
      clear A100
      replace H := Option.bind_eq_some_iff.mp H
      obtain ⟨t154, A110, H⟩ := H
      replace H : (if t154 = true then ((laws_markNodeS.f k t144 1).bind fun bt155 => (if bt155.1 < 0 then (laws_FnExactUsedBits.j0 k l0 t141 t147 true) else ((laws_eqIntS.f k t147 t141).bind fun t157 => (laws_FnExactUsedBits.j0 k l0 t141 t147 (!t157))))) else (none)) = some r := H
      have A11 := Aside0.mk A110
      clear A110
      by_cases c12 : t154 = true
      · subst c12
        have H1 : ((laws_markNodeS.f k t144 1).bind fun bt155 => (if bt155.1 < 0 then (laws_FnExactUsedBits.j0 k l0 t141 t147 true) else ((laws_eqIntS.f k t147 t141).bind fun t157 => (laws_FnExactUsedBits.j0 k l0 t141 t147 (!t157))))) = some r := by rw [if_pos rfl] at H; exact H
        clear H
        have H := H1
        clear H1
        replace H := Option.bind_eq_some_iff.mp H
        obtain ⟨⟨t155, t156⟩, A130, H⟩ := H
        replace H : (if t155 < 0 then (laws_FnExactUsedBits.j0 k l0 t141 t147 true) else ((laws_eqIntS.f k t147 t141).bind fun t157 => (laws_FnExactUsedBits.j0 k l0 t141 t147 (!t157)))) = some r := H
        have A13 := Aside0.mk A130
        clear A130
        have HC14 := Aside0.mk H
        clear H
        go_enter Try.func3, Try.ntmps3
        go_upto_region 14 with (first | ((with_reducible refine gate_callee (f := 15) rfl ?_); refine goesL_ (some 13) rfl rfl Try.func15 (by kernel_rfl) rfl #[.slice A0 l0.length c0, .int .i64 1048576] rfl (by (try simp only [List.map_toArray, List.map_cons, List.map_nil]); first | done | rfl | (simp only [List.length_drop, List.length_take]; rfl)) ?_; (with_reducible refine (laws_szNodeS.calls _ _ l0 1048576 t137 _ ?side1 ?side2 A2.out).mono ?_); (case side1 => repeat (first | exact HR0.out | (with_reducible refine Kd.C_alloc ?_ _) | (with_reducible refine Kd.C_drewN ?_ _) | (with_reducible refine Kd.C_drew ?_))); (case side2 => exact HC0.out); rintro e w' ⟨rfl, ⟨nd, rfl⟩⟩; refine ⟨_, rfl, ?_⟩) | ((with_reducible refine gate_callee (f := 17) rfl ?_); refine goesL_ (some 17) rfl rfl Try.func17 (by kernel_rfl) rfl #[.slice A0 l0.length c0] rfl (by (try simp only [List.map_toArray, List.map_cons, List.map_nil]); first | done | rfl | (simp only [List.length_drop, List.length_take]; rfl)) ?_; (with_reducible refine (laws_toNodeS.calls k _ _ l0 t138 _ ?side1 ?side2 A4.out).mono ?_); (case side1 => repeat (first | exact HR0.out | (with_reducible refine Kd.C_alloc ?_ _) | (with_reducible refine Kd.C_drewN ?_ _) | (with_reducible refine Kd.C_drew ?_))); (case side2 => exact HC0.out); rintro e w15 ⟨v139, rfl, ho0, hb⟩; refine ⟨_, rfl, ?_⟩; have n0_ := Aside0.mk (Kd.R_lower ho0 (below_size (by repeat (first | (with_reducible first | exact HB.out | apply below_alloc | apply pw_below_drewN | apply below_drew1) | exact HB.out)))); have n1_ := Aside0.mk (below_step (by repeat (first | (with_reducible first | exact HB.out | apply below_alloc | apply pw_below_drewN | apply below_drew1) | exact HB.out)) hb); clear HB; have HO140 := n0_; have HB := n1_; clear n0_ n1_; (try clear hb); (try clear hb2); (try clear hk); (try clear hi); (try clear ho0); obtain ⟨Ao16, co16, eo16⟩ := Kd.R_slice HO140.out; subst eo16) | ((with_reducible refine gate_callee (f := 16) rfl ?_); refine goesL_ (some 18) rfl rfl Try.func16 (by kernel_rfl) rfl #[.slice Ao16 t138.length co16] rfl (by (try simp only [List.map_toArray, List.map_cons, List.map_nil]); first | done | rfl | (simp only [List.length_drop, List.length_take]; rfl)) ?_; (with_reducible refine (spec_UsedBits.calls k _ _ t138 t141 _ ?side1 ?side2 A5.out).mono ?_); (case side1 => repeat (first | exact (Kd.R_reads' HO140.out).2.2 | (with_reducible refine Kd.C_alloc ?_ _) | (with_reducible refine Kd.C_drewN ?_ _) | (with_reducible refine Kd.C_drew ?_))); (case side2 => exact (Kd.R_reads' HO140.out).2.1); rintro e w17 ⟨v142, rfl, ho0, hb⟩; refine ⟨_, rfl, ?_⟩; have n0_ := Aside0.mk (Kd.R_below (by (with_reducible repeat (first | apply Kd.R_alloc | apply Kd.R_drewN | apply Kd.R_drew)); exact HO140.out) hb); have n1_ := Aside0.mk (Kd.R_lower ho0 (below_size (by repeat (first | (with_reducible first | exact HB.out | apply below_alloc | apply pw_below_drewN | apply below_drew1) | exact HB.out)))); have n2_ := Aside0.mk (below_step (by repeat (first | (with_reducible first | exact HB.out | apply below_alloc | apply pw_below_drewN | apply below_drew1) | exact HB.out)) hb); clear HO140; clear HB; have HO140 := n0_; have HO143 := n1_; have HB := n2_; clear n0_ n1_ n2_; (try clear hb); (try clear hb2); (try clear hk); (try clear hi); (try clear ho0)) | ((with_reducible refine gate_callee (f := 17) rfl ?_); refine goesL_ (some 20) rfl rfl Try.func17 (by kernel_rfl) rfl #[.slice A0 l0.length c0] rfl (by (try simp only [List.map_toArray, List.map_cons, List.map_nil]); first | done | rfl | (simp only [List.length_drop, List.length_take]; rfl)) ?_; (with_reducible refine (laws_toNodeS.calls k _ _ l0 t144 _ ?side1 ?side2 A6.out).mono ?_); (case side1 => repeat (first | exact (Kd.C_below HR0.out HB.out) | (with_reducible refine Kd.C_alloc ?_ _) | (with_reducible refine Kd.C_drewN ?_ _) | (with_reducible refine Kd.C_drew ?_))); (case side2 => exact HC0.out); rintro e w18 ⟨v145, rfl, ho0, hb⟩; refine ⟨_, rfl, ?_⟩; have n0_ := Aside0.mk (Kd.R_elder' (by (with_reducible repeat (first | apply Kd.R_alloc | apply Kd.R_drewN | apply Kd.R_drew)); exact HO140.out) (Kd.R_base ho0) hb); have n1_ := Aside0.mk (Kd.R_below (by (with_reducible repeat (first | apply Kd.R_alloc | apply Kd.R_drewN | apply Kd.R_drew)); exact HO143.out) hb); have n2_ := Aside0.mk (Kd.R_lower (Kd.R_new' ho0 (Kd.R_lt (by (with_reducible repeat (first | apply Kd.R_alloc | apply Kd.R_drewN | apply Kd.R_drew)); exact HO140.out))) (below_size (by repeat (first | (with_reducible first | exact HB.out | apply below_alloc | apply pw_below_drewN | apply below_drew1) | exact HB.out)))); have n3_ := Aside0.mk (below_step (by repeat (first | (with_reducible first | exact HB.out | apply below_alloc | apply pw_below_drewN | apply below_drew1) | exact HB.out)) hb); clear HO140; clear HO143; clear HB; have HO140 := n0_; have HO143 := n1_; have HO146 := n2_; have HB := n3_; clear n0_ n1_ n2_ n3_; (try clear hb); (try clear hb2); (try clear hk); (try clear hi); (try clear ho0); obtain ⟨Ao19, co19, eo19⟩ := Kd.R_slice HO146.out; subst eo19) | ((with_reducible refine gate_callee (f := 18) rfl ?_); refine goesL_ (some 22) rfl rfl Try.func18 (by kernel_rfl) rfl #[.slice Ao19 t144.length co19] rfl (by (try simp only [List.map_toArray, List.map_cons, List.map_nil]); first | done | rfl | (simp only [List.length_drop, List.length_take]; rfl)) ?_; (with_reducible refine (impl_UsedBits.calls k _ _ t144 t147 _ ?side1 ?side2 A7.out).mono ?_); (case side1 => repeat (first | exact (Kd.R_reads' HO146.out).2.2 | (with_reducible refine Kd.C_alloc ?_ _) | (with_reducible refine Kd.C_drewN ?_ _) | (with_reducible refine Kd.C_drew ?_))); (case side2 => exact (Kd.R_reads' HO146.out).2.1); rintro e w20 ⟨v148, rfl, ho0, hb⟩; refine ⟨_, rfl, ?_⟩; have n0_ := Aside0.mk (Kd.R_below (by (with_reducible repeat (first | apply Kd.R_alloc | apply Kd.R_drewN | apply Kd.R_drew)); exact HO140.out) hb); have n1_ := Aside0.mk (Kd.R_elder' (by (with_reducible repeat (first | apply Kd.R_alloc | apply Kd.R_drewN | apply Kd.R_drew)); exact HO143.out) (Kd.Q_base ho0) hb); have n2_ := Aside0.mk (Kd.R_below (by (with_reducible repeat (first | apply Kd.R_alloc | apply Kd.R_drewN | apply Kd.R_drew)); exact HO146.out) hb); have n3_ := Aside0.mk (Kd.Q_lower (Kd.Q_new' ho0 (Kd.R_lt (by (with_reducible repeat (first | apply Kd.R_alloc | apply Kd.R_drewN | apply Kd.R_drew)); exact HO143.out))) (below_size (by repeat (first | (with_reducible first | exact HB.out | apply below_alloc | apply pw_below_drewN | apply below_drew1) | exact HB.out)))); have n4_ := Aside0.mk (below_step (by repeat (first | (with_reducible first | exact HB.out | apply below_alloc | apply pw_below_drewN | apply below_drew1) | exact HB.out)) hb); clear HO140; clear HO143; clear HO146; clear HB; have HO140 := n0_; have HO143 := n1_; have HO146 := n2_; have HO149 := n3_; have HB := n4_; clear n0_ n1_ n2_ n3_ n4_; (try clear hb); (try clear hb2); (try clear hk); (try clear hi); (try clear ho0); obtain ⟨Ao21, co21, eo21, _⟩ := Kd.Q_slice HO149.out; subst eo21; obtain ⟨Ao22, co22, eo22⟩ := Kd.R_slice HO143.out; subst eo22) | ((with_reducible refine gate_callee (f := 19) rfl ?_); refine goesL_ (some 25) rfl rfl Try.func19 (by kernel_rfl) rfl #[.slice Ao21 t147.length co21, .slice Ao22 t141.length co22] rfl (by (try simp only [List.map_toArray, List.map_cons, List.map_nil]); first | done | rfl | (simp only [List.length_drop, List.length_take]; rfl)) ?_; (with_reducible refine (laws_eqIntS.calls k _ _ t147 _ _ t141 true _ ?side1 ?side2 ?side3 ?side4 A8.out).mono ?_); (case side1 => repeat (first | exact (Kd.Q_reads' HO149.out).2.2 | (with_reducible refine Kd.C_alloc ?_ _) | (with_reducible refine Kd.C_drewN ?_ _) | (with_reducible refine Kd.C_drew ?_))); (case side2 => exact (Kd.Q_reads' HO149.out).2.1); (case side3 => repeat (first | exact (Kd.R_reads' HO143.out).2.2 | (with_reducible refine Kd.C_alloc ?_ _) | (with_reducible refine Kd.C_drewN ?_ _) | (with_reducible refine Kd.C_drew ?_))); (case side4 => exact (Kd.R_reads' HO143.out).2.1); rintro e w' ⟨rfl, ⟨nd, rfl⟩⟩; refine ⟨_, rfl, ?_⟩) | ((with_reducible refine gate_callee (f := 17) rfl ?_); refine goesL_ (some 29) rfl rfl Try.func17 (by kernel_rfl) rfl #[.slice A0 l0.length c0] rfl (by (try simp only [List.map_toArray, List.map_cons, List.map_nil]); first | done | rfl | (simp only [List.length_drop, List.length_take]; rfl)) ?_; (with_reducible refine (laws_toNodeS.calls k _ _ l0 t151 _ ?side1 ?side2 A10.out).mono ?_); (case side1 => repeat (first | exact (Kd.C_below HR0.out (by repeat (first | (with_reducible first | exact HB.out | apply below_alloc | apply pw_below_drewN | apply below_drew1) | exact HB.out))) | (with_reducible refine Kd.C_alloc ?_ _) | (with_reducible refine Kd.C_drewN ?_ _) | (with_reducible refine Kd.C_drew ?_))); (case side2 => exact HC0.out); rintro e w23 ⟨v152, rfl, ho0, hb⟩; refine ⟨_, rfl, ?_⟩; have n0_ := Aside0.mk (Kd.R_elder' (by (with_reducible repeat (first | apply Kd.R_alloc | apply Kd.R_drewN | apply Kd.R_drew)); exact HO140.out) (Kd.R_base ho0) hb); have n1_ := Aside0.mk (Kd.R_below (by (with_reducible repeat (first | apply Kd.R_alloc | apply Kd.R_drewN | apply Kd.R_drew)); exact HO143.out) hb); have n2_ := Aside0.mk (Kd.R_elder' (by (with_reducible repeat (first | apply Kd.R_alloc | apply Kd.R_drewN | apply Kd.R_drew)); exact HO146.out) (Kd.R_base ho0) hb); have n3_ := Aside0.mk (Kd.Q_below (by (with_reducible repeat (first | apply Kd.Q_alloc | apply Kd.Q_drewN | apply Kd.Q_drew)); exact HO149.out) hb); have n4_ := Aside0.mk (Kd.R_lower (Kd.R_new' (Kd.R_new' ho0 (Kd.R_lt (by (with_reducible repeat (first | apply Kd.R_alloc | apply Kd.R_drewN | apply Kd.R_drew)); exact HO140.out))) (Kd.R_lt (by (with_reducible repeat (first | apply Kd.R_alloc | apply Kd.R_drewN | apply Kd.R_drew)); exact HO146.out))) (below_size (by repeat (first | (with_reducible first | exact HB.out | apply below_alloc | apply pw_below_drewN | apply below_drew1) | exact HB.out)))); have n5_ := Aside0.mk (below_step (by repeat (first | (with_reducible first | exact HB.out | apply below_alloc | apply pw_below_drewN | apply below_drew1) | exact HB.out)) hb); clear HO140; clear HO143; clear HO146; clear HO149; clear HB; have HO140 := n0_; have HO143 := n1_; have HO146 := n2_; have HO149 := n3_; have HO153 := n4_; have HB := n5_; clear n0_ n1_ n2_ n3_ n4_ n5_; (try clear hb); (try clear hb2); (try clear hk); (try clear hi); (try clear ho0); obtain ⟨Ao24, co24, eo24⟩ := Kd.R_slice HO153.out; subst eo24) | ((with_reducible refine gate_callee (f := 20) rfl ?_); refine goesL_ (some 30) rfl rfl Try.func20 (by kernel_rfl) rfl #[.slice Ao19 t144.length co19, .slice Ao24 t151.length co24] rfl (by (try simp only [List.map_toArray, List.map_cons, List.map_nil]); first | done | rfl | (simp only [List.length_drop, List.length_take]; rfl)) ?_; (with_reducible refine (laws_eqNodeS.calls k _ _ t144 _ _ t151 true _ ?side1 ?side2 ?side3 ?side4 A11.out).mono ?_); (case side1 => repeat (first | exact (Kd.R_reads' HO146.out).2.2 | (with_reducible refine Kd.C_alloc ?_ _) | (with_reducible refine Kd.C_drewN ?_ _) | (with_reducible refine Kd.C_drew ?_))); (case side2 => exact (Kd.R_reads' HO146.out).2.1); (case side3 => repeat (first | exact (Kd.R_reads' HO153.out).2.2 | (with_reducible refine Kd.C_alloc ?_ _) | (with_reducible refine Kd.C_drewN ?_ _) | (with_reducible refine Kd.C_drew ?_))); (case side4 => exact (Kd.R_reads' HO153.out).2.1); rintro e w25 ⟨rfl, hb⟩; refine ⟨_, rfl, ?_⟩; have n0_ := Aside0.mk (Kd.R_below (by (with_reducible repeat (first | apply Kd.R_alloc | apply Kd.R_drewN | apply Kd.R_drew)); exact HO140.out) hb); have n1_ := Aside0.mk (Kd.R_below (by (with_reducible repeat (first | apply Kd.R_alloc | apply Kd.R_drewN | apply Kd.R_drew)); exact HO143.out) hb); have n2_ := Aside0.mk (Kd.R_below (by (with_reducible repeat (first | apply Kd.R_alloc | apply Kd.R_drewN | apply Kd.R_drew)); exact HO146.out) hb); have n3_ := Aside0.mk (Kd.Q_below (by (with_reducible repeat (first | apply Kd.Q_alloc | apply Kd.Q_drewN | apply Kd.Q_drew)); exact HO149.out) hb); have n4_ := Aside0.mk (Kd.R_below (by (with_reducible repeat (first | apply Kd.R_alloc | apply Kd.R_drewN | apply Kd.R_drew)); exact HO153.out) hb); have n5_ := Aside0.mk (below_step (by repeat (first | (with_reducible first | exact HB.out | apply below_alloc | apply pw_below_drewN | apply below_drew1) | exact HB.out)) hb); clear HO140; clear HO143; clear HO146; clear HO149; clear HO153; clear HB; have HO140 := n0_; have HO143 := n1_; have HO146 := n2_; have HO149 := n3_; have HO153 := n4_; have HB := n5_; clear n0_ n1_ n2_ n3_ n4_ n5_; (try clear hb); (try clear hb2); (try clear hk); (try clear hi)) | ((with_reducible refine gate_callee (f := 21) rfl ?_); refine goesL_ (some 34) rfl rfl Try.func21 (by kernel_rfl) rfl #[.slice Ao19 t144.length co19, .int .i64 1] rfl (by (try simp only [List.map_toArray, List.map_cons, List.map_nil]); first | done | rfl | (simp only [List.length_drop, List.length_take]; rfl)) ?_; (with_reducible refine (laws_markNodeS.calls k (fun k_ => some k_ = (.slice Ao19 t144.length co19 : Value).ownBlock) (.slice Ao19 t144.length co19) t144 1 t155 t156 w _ ?side1 ?side2 A13.out).mono ?_); (case side1 => repeat (first | (with_reducible first | exact HB.out | apply below_alloc | apply pw_below_drewN | apply below_drew1) | exact HB.out)); (case side2 => exact Kd.Q_tight rfl (Kd.Q_of_R (HO146.out))); rintro e w26 ⟨rfl, hy0, hb, hkp⟩; refine ⟨_, rfl, ?_⟩; have n0_ := Aside0.mk (Kd.R_mono (ok' := fun k_ => some k_ ≠ (.slice Ao19 t144.length co19 : Value).ownBlock ∧ some k_ ≠ (.slice Ao24 t151.length co24 : Value).ownBlock) (Kd.R_keptB (HO140.out) hkp (fun k_ hk_ hs_ => (hk_.1.2) hs_)) (fun k_ hk_ => ⟨hk_.1.1.2, hk_.1.2⟩)); have n1_ := Aside0.mk (Kd.R_mono (ok' := fun k_ => some k_ ≠ (.slice Ao21 t147.length co21 : Value).ownBlock) (Kd.R_keptB ((Kd.R_apart' HO143.out (Kd.R_typed HO146.out) (by decide))) hkp (fun k_ hk_ hs_ => (hk_.2) hs_)) (fun k_ hk_ => hk_.1.1.2)); have n2_ := Aside0.mk (Kd.Q_reok rfl hy0 (fun k_ e_ => HO146.out.1 k_ e_)); have n3_ := Aside0.mk (Kd.Q_mono (ok' := fun k_ => some k_ ≠ (.slice Ao22 t141.length co22 : Value).ownBlock) (Kd.Q_keptB ((Kd.Q_apart' HO149.out (Kd.R_typed HO146.out) (by decide))) hkp (fun k_ hk_ hs_ => (hk_.2) hs_)) (fun k_ hk_ => hk_.1.1.2)); have n4_ := Aside0.mk (Kd.R_mono (ok' := fun k_ => some k_ ≠ (.slice Ao16 t138.length co16 : Value).ownBlock ∧ some k_ ≠ (.slice Ao19 t144.length co19 : Value).ownBlock) (Kd.R_keptB (HO153.out) hkp (fun k_ hk_ hs_ => (hk_.2) hs_)) (fun k_ hk_ => ⟨hk_.1.1.2, hk_.1.2⟩)); have n5_ := Aside0.mk (hb); clear HO140; clear HO143; clear HO146; clear HO149; clear HO153; clear HB; have HO140 := n0_; have HO143 := n1_; have HO146 := n2_; have HO149 := n3_; have HO153 := n4_; have HB := n5_; clear n0_ n1_ n2_ n3_ n4_ n5_; (try clear hb); (try clear hkp); (try clear hy0)))
        (try simp only [Act.put, List.setIfInBounds_toArray, List.set_cons_zero, List.set_cons_succ])
        go_cut [42] (fun v42 wc => ∃ (kq : Nat) (x42_13 : Bool), v42 = .bool x42_13 ∧ Aside0 (laws_FnExactUsedBits.j0 kq l0 t141 t147 x42_13 = some r) ∧ Aside0 (kq ≤ k) ∧ Aside0 (Kd.R (Kd.int .i64) 3 wc w.heap.size (fun k_ => some k_ ≠ ((.slice Ao21 t147.length co21) : Value).ownBlock) (.slice Ao22 t141.length co22) t141) ∧ Aside0 (Kd.Q (Kd.int .i64) 3 wc w.heap.size (fun k_ => some k_ ≠ ((.slice Ao22 t141.length co22) : Value).ownBlock) (.slice Ao21 t147.length co21) t147) ∧ Aside0 (Below w.heap.size w wc))
        case first =>
          have H := HC14.out
          clear HC14
          by_cases c27 : t155 < 0
          · rw [if_pos c27] at H
            have c27b0 : decide (t155 < 0) = true := decide_eq_true c27
            clear c27
            (first | rw [c27b0] | (simp only [i64_w, i32_w]; rw [c27b0]) | skip)
            have H' := Aside0.mk H
            clear H
            go_wp2
            go_meet
            case rel => exact ⟨_, (true), (by first | rfl | (simp; done) | (simp [*]; done)), H', ⟨by first | omega | exact Nat.le_refl _⟩, ⟨by (with_reducible repeat (first | apply Kd.R_alloc | apply Kd.R_drewN | apply Kd.R_drew)); exact HO143.out⟩, ⟨by (with_reducible repeat (first | apply Kd.Q_alloc | apply Kd.Q_drewN | apply Kd.Q_drew)); exact HO149.out⟩, ⟨by repeat (first | (with_reducible first | exact HB.out | apply below_alloc | apply pw_below_drewN | apply below_drew1) | exact HB.out)⟩⟩
          · rw [if_neg c27] at H
            have c27b0 : decide (t155 < 0) = false := decide_eq_false c27
            clear c27
            (first | rw [c27b0] | (simp only [i64_w, i32_w]; rw [c27b0]) | skip)
            replace H := Option.bind_eq_some_iff.mp H
            obtain ⟨t157, A280, H⟩ := H
            replace H : (laws_FnExactUsedBits.j0 k l0 t141 t147 (!t157)) = some r := H
            have A28 := Aside0.mk A280
            clear A280
            have H' := Aside0.mk H
            clear H
            go_wp2_with (first | (go_at_call 19; (with_reducible refine (laws_eqIntS.calls k _ _ t147 _ _ t141 t157 _ ?side1 ?side2 ?side3 ?side4 A28.out).mono ?_); (case side1 => repeat (first | exact (Kd.Q_reads' HO149.out).2.2 | (with_reducible refine Kd.C_alloc ?_ _) | (with_reducible refine Kd.C_drewN ?_ _) | (with_reducible refine Kd.C_drew ?_))); (case side2 => exact (Kd.Q_reads' HO149.out).2.1); (case side3 => repeat (first | exact (Kd.R_reads' HO143.out).2.2 | (with_reducible refine Kd.C_alloc ?_ _) | (with_reducible refine Kd.C_drewN ?_ _) | (with_reducible refine Kd.C_drew ?_))); (case side4 => exact (Kd.R_reads' HO143.out).2.1); rintro e w' ⟨rfl, ⟨nd, rfl⟩⟩))
            go_meet
            case rel => exact ⟨_, (!t157), (by first | rfl | (simp; done) | (simp [*]; done)), H', ⟨by first | omega | exact Nat.le_refl _⟩, ⟨by (with_reducible repeat (first | apply Kd.R_alloc | apply Kd.R_drewN | apply Kd.R_drew)); exact HO143.out⟩, ⟨by (with_reducible repeat (first | apply Kd.Q_alloc | apply Kd.Q_drewN | apply Kd.Q_drew)); exact HO149.out⟩, ⟨by repeat (first | (with_reducible first | exact HB.out | apply below_alloc | apply pw_below_drewN | apply below_drew1) | exact HB.out)⟩⟩
        case rest =>
          clear HC14
          try clear c1
          try clear c2
          try clear p2
          try clear c3
          try clear c3b0
          try clear c9
          try clear c12
          try clear c15
          try clear c16
          try clear c17
          try clear c18
          try clear c19
          try clear c20
          try clear c21
          try clear c27
          try clear c27b0
          obtain ⟨kq, x42_13, rfl, HA, HJ13, HO_4, HO_6, HB⟩ := hcut
          cases kq with
          | zero => exact absurd HA.out (by simp [laws_FnExactUsedBits.j0])
          | succ kj13 =>
            have H := HA.out
            clear HA
            simp only [laws_FnExactUsedBits.j0] at H
            by_cases c29 : x42_13 = true
            · subst c29
              have H1 : (none) = some r := by rw [if_pos rfl] at H; exact H
              clear H
              have H := H1
              clear H1
              exact absurd H (by simp)
            · replace c29 := Bool.eq_false_iff.mpr c29
              subst c29
              have H1 : ((laws_markIntS.f kj13 t147 1).bind fun bt158 => ((laws_heldIntS.f kj13 bt158.2 1).bind fun t160 => (if t160 < 0 then (none) else (if t160 = bt158.1 then ((laws_toNodeS.f kj13 l0).bind fun t161 => ((impl_UsedBits.f kj13 t161).bind fun t164 => ((laws_eqIntS.f kj13 t164 t141).bind fun t167 => (if t167 = true then ((laws_heldIntS.f kj13 bt158.2 1).bind fun t168 => (if t168 < 0 then (none) else (if t168 = bt158.1 then (some true) else (none)))) else (none))))) else (none))))) = some r := by rw [if_neg (show ¬ (false = true) by decide)] at H; exact H
              clear H
              have H := H1
              clear H1
              replace H := Option.bind_eq_some_iff.mp H
              obtain ⟨⟨t158, t159⟩, A300, H⟩ := H
              replace H : ((laws_heldIntS.f kj13 t159 1).bind fun t160 => (if t160 < 0 then (none) else (if t160 = t158 then ((laws_toNodeS.f kj13 l0).bind fun t161 => ((impl_UsedBits.f kj13 t161).bind fun t164 => ((laws_eqIntS.f kj13 t164 t141).bind fun t167 => (if t167 = true then ((laws_heldIntS.f kj13 t159 1).bind fun t168 => (if t168 < 0 then (none) else (if t168 = t158 then (some true) else (none)))) else (none))))) else (none)))) = some r := H
              have A30 := Aside0.mk A300
              clear A300
              replace H := Option.bind_eq_some_iff.mp H
              obtain ⟨t160, A310, H⟩ := H
              replace H : (if t160 < 0 then (none) else (if t160 = t158 then ((laws_toNodeS.f kj13 l0).bind fun t161 => ((impl_UsedBits.f kj13 t161).bind fun t164 => ((laws_eqIntS.f kj13 t164 t141).bind fun t167 => (if t167 = true then ((laws_heldIntS.f kj13 t159 1).bind fun t168 => (if t168 < 0 then (none) else (if t168 = t158 then (some true) else (none)))) else (none))))) else (none))) = some r := H
              have A31 := Aside0.mk A310
              clear A310
              by_cases c32 : t160 < 0
              · rw [if_pos c32] at H
                exact absurd H (by simp)
              · rw [if_neg c32] at H
                have c32b0 : decide (t160 < 0) = false := decide_eq_false c32
                clear c32
                by_cases c33 : t160 = t158
                · rw [if_pos c33] at H
                  have c33b0 : (t160 == t158) = true := beq_iff_eq.mpr c33
                  have c33b1 : (t160 != t158) = false := bne_eq_false_iff_eq.mpr c33
                  clear c33
                  replace H := Option.bind_eq_some_iff.mp H
                  obtain ⟨t161, A340, H⟩ := H
                  replace H : ((impl_UsedBits.f kj13 t161).bind fun t164 => ((laws_eqIntS.f kj13 t164 t141).bind fun t167 => (if t167 = true then ((laws_heldIntS.f kj13 t159 1).bind fun t168 => (if t168 < 0 then (none) else (if t168 = t158 then (some true) else (none)))) else (none)))) = some r := H
                  have A34 := Aside0.mk A340
                  clear A340
                  replace H := Option.bind_eq_some_iff.mp H
                  obtain ⟨t164, A350, H⟩ := H
                  replace H : ((laws_eqIntS.f kj13 t164 t141).bind fun t167 => (if t167 = true then ((laws_heldIntS.f kj13 t159 1).bind fun t168 => (if t168 < 0 then (none) else (if t168 = t158 then (some true) else (none)))) else (none))) = some r := H
                  have A35 := Aside0.mk A350
                  clear A350
                  replace H := Option.bind_eq_some_iff.mp H
                  obtain ⟨t167, A360, H⟩ := H
                  replace H : (if t167 = true then ((laws_heldIntS.f kj13 t159 1).bind fun t168 => (if t168 < 0 then (none) else (if t168 = t158 then (some true) else (none)))) else (none)) = some r := H
                  have A36 := Aside0.mk A360
                  clear A360
                  by_cases c37 : t167 = true
                  · subst c37
                    have H1 : ((laws_heldIntS.f kj13 t159 1).bind fun t168 => (if t168 < 0 then (none) else (if t168 = t158 then (some true) else (none)))) = some r := by rw [if_pos rfl] at H; exact H
                    clear H
                    have H := H1
                    clear H1
                    replace H := Option.bind_eq_some_iff.mp H
                    obtain ⟨t168, A380, H⟩ := H
                    replace H : (if t168 < 0 then (none) else (if t168 = t158 then (some true) else (none))) = some r := H
                    have A38 := Aside0.mk A380
                    clear A380
                    by_cases c39 : t168 < 0
                    · rw [if_pos c39] at H
                      exact absurd H (by simp)
                    · rw [if_neg c39] at H
                      have c39b0 : decide (t168 < 0) = false := decide_eq_false c39
                      clear c39
                      by_cases c40 : t168 = t158
                      · rw [if_pos c40] at H
                        have c40b0 : (t168 == t158) = true := beq_iff_eq.mpr c40
                        have c40b1 : (t168 != t158) = false := bne_eq_false_iff_eq.mpr c40
                        clear c40
                        obtain rfl := Option.some.inj H
                        go_wp2_with (first | ((with_reducible refine gate_callee (f := 22) rfl ?_); refine goesL_ (some 45) rfl rfl Try.func22 (by kernel_rfl) rfl #[.slice Ao21 t147.length co21, .int .i64 1] rfl (by (try simp only [List.map_toArray, List.map_cons, List.map_nil]); first | done | rfl | (simp only [List.length_drop, List.length_take]; rfl)) ?_; (with_reducible refine (laws_markIntS.calls kj13 (fun k_ => some k_ = (.slice Ao21 t147.length co21 : Value).ownBlock) (.slice Ao21 t147.length co21) t147 1 t158 t159 w _ ?side1 ?side2 A30.out).mono ?_); (case side1 => repeat (first | (with_reducible first | exact HB.out | apply below_alloc | apply pw_below_drewN | apply below_drew1) | exact HB.out)); (case side2 => exact Kd.Q_tight rfl HO_6.out); rintro e w41 ⟨rfl, hy0, hb, hkp⟩; refine ⟨_, rfl, ?_⟩; have n0_ := Aside0.mk (Kd.R_mono (ok' := fun k_ => some k_ ≠ (.slice Ao21 t147.length co21 : Value).ownBlock) (Kd.R_keptB (HO_4.out) hkp (fun k_ hk_ hs_ => (hk_) hs_)) (fun k_ hk_ => hk_.1)); have n1_ := Aside0.mk (Kd.Q_reok rfl hy0 (fun k_ e_ => HO_6.out.1 k_ e_)); have n2_ := Aside0.mk (hb); clear HO_4; clear HO_6; clear HB; have HO_4 := n0_; have HO_6 := n1_; have HB := n2_; clear n0_ n1_ n2_; (try clear hb); (try clear hkp); (try clear hy0)) | ((with_reducible refine gate_callee (f := 23) rfl ?_); refine goesL_ (some 48) rfl rfl Try.func23 (by kernel_rfl) rfl #[.slice Ao21 t159.length co21, .int .i64 1] rfl (by (try simp only [List.map_toArray, List.map_cons, List.map_nil]); first | done | (rw [show t159.length = t147.length from (Kd.Q_reads' HO_6.out).1.symm] <;> rfl) | rfl | (simp only [List.length_drop, List.length_take]; rfl)) ?_; (with_reducible refine (laws_heldIntS.calls kj13 _ _ t159 1 t160 _ ?side1 ?side2 A31.out).mono ?_); (case side1 => repeat (first | exact (Kd.Q_reads' HO_6.out).2.2 | (with_reducible refine Kd.C_alloc ?_ _) | (with_reducible refine Kd.C_drewN ?_ _) | (with_reducible refine Kd.C_drew ?_))); (case side2 => rw [show t159.length = t147.length from (Kd.Q_reads' HO_6.out).1.symm]; exact (Kd.Q_reads' HO_6.out).2.1); rintro e w' ⟨rfl, ⟨nd, rfl⟩⟩; refine ⟨_, rfl, ?_⟩) | ((with_reducible refine gate_callee (f := 17) rfl ?_); refine goesL_ (some 55) rfl rfl Try.func17 (by kernel_rfl) rfl #[.slice A0 l0.length c0] rfl (by (try simp only [List.map_toArray, List.map_cons, List.map_nil]); first | done | rfl | (simp only [List.length_drop, List.length_take]; rfl)) ?_; (with_reducible refine (laws_toNodeS.calls kj13 _ _ l0 t161 _ ?side1 ?side2 A34.out).mono ?_); (case side1 => repeat (first | exact (Kd.C_below HR0.out (by repeat (first | (with_reducible first | exact HB.out | apply below_alloc | apply pw_below_drewN | apply below_drew1) | exact HB.out))) | (with_reducible refine Kd.C_alloc ?_ _) | (with_reducible refine Kd.C_drewN ?_ _) | (with_reducible refine Kd.C_drew ?_))); (case side2 => exact HC0.out); rintro e w42 ⟨v162, rfl, ho0, hb⟩; refine ⟨_, rfl, ?_⟩; have n0_ := Aside0.mk (Kd.R_below (by (with_reducible repeat (first | apply Kd.R_alloc | apply Kd.R_drewN | apply Kd.R_drew)); exact HO_4.out) hb); have n1_ := Aside0.mk (Kd.Q_below (by (with_reducible repeat (first | apply Kd.Q_alloc | apply Kd.Q_drewN | apply Kd.Q_drew)); exact HO_6.out) hb); have n2_ := Aside0.mk (Kd.R_lower ho0 (below_size (by repeat (first | (with_reducible first | exact HB.out | apply below_alloc | apply pw_below_drewN | apply below_drew1) | exact HB.out)))); have n3_ := Aside0.mk (below_step (by repeat (first | (with_reducible first | exact HB.out | apply below_alloc | apply pw_below_drewN | apply below_drew1) | exact HB.out)) hb); clear HO_4; clear HO_6; clear HB; have HO_4 := n0_; have HO_6 := n1_; have HO163 := n2_; have HB := n3_; clear n0_ n1_ n2_ n3_; (try clear hb); (try clear hb2); (try clear hk); (try clear hi); (try clear ho0); obtain ⟨Ao43, co43, eo43⟩ := Kd.R_slice HO163.out; subst eo43) | ((with_reducible refine gate_callee (f := 18) rfl ?_); refine goesL_ (some 56) rfl rfl Try.func18 (by kernel_rfl) rfl #[.slice Ao43 t161.length co43] rfl (by (try simp only [List.map_toArray, List.map_cons, List.map_nil]); first | done | rfl | (simp only [List.length_drop, List.length_take]; rfl)) ?_; (with_reducible refine (impl_UsedBits.calls kj13 _ _ t161 t164 _ ?side1 ?side2 A35.out).mono ?_); (case side1 => repeat (first | exact (Kd.R_reads' HO163.out).2.2 | (with_reducible refine Kd.C_alloc ?_ _) | (with_reducible refine Kd.C_drewN ?_ _) | (with_reducible refine Kd.C_drew ?_))); (case side2 => exact (Kd.R_reads' HO163.out).2.1); rintro e w44 ⟨v165, rfl, ho0, hb⟩; refine ⟨_, rfl, ?_⟩; have n0_ := Aside0.mk (Kd.R_elder' (by (with_reducible repeat (first | apply Kd.R_alloc | apply Kd.R_drewN | apply Kd.R_drew)); exact HO_4.out) (Kd.Q_base ho0) hb); have n1_ := Aside0.mk (Kd.Q_elder' (by (with_reducible repeat (first | apply Kd.Q_alloc | apply Kd.Q_drewN | apply Kd.Q_drew)); exact HO_6.out) (Kd.Q_base ho0) hb); have n2_ := Aside0.mk (Kd.R_below (by (with_reducible repeat (first | apply Kd.R_alloc | apply Kd.R_drewN | apply Kd.R_drew)); exact HO163.out) hb); have n3_ := Aside0.mk (Kd.Q_lower (Kd.Q_new' (Kd.Q_new' ho0 (Kd.R_lt (by (with_reducible repeat (first | apply Kd.R_alloc | apply Kd.R_drewN | apply Kd.R_drew)); exact HO_4.out))) (Kd.Q_lt (by (with_reducible repeat (first | apply Kd.Q_alloc | apply Kd.Q_drewN | apply Kd.Q_drew)); exact HO_6.out))) (below_size (by repeat (first | (with_reducible first | exact HB.out | apply below_alloc | apply pw_below_drewN | apply below_drew1) | exact HB.out)))); have n4_ := Aside0.mk (below_step (by repeat (first | (with_reducible first | exact HB.out | apply below_alloc | apply pw_below_drewN | apply below_drew1) | exact HB.out)) hb); clear HO_4; clear HO_6; clear HO163; clear HB; have HO_4 := n0_; have HO_6 := n1_; have HO163 := n2_; have HO166 := n3_; have HB := n4_; clear n0_ n1_ n2_ n3_ n4_; (try clear hb); (try clear hb2); (try clear hk); (try clear hi); (try clear ho0); obtain ⟨Ao45, co45, eo45, _⟩ := Kd.Q_slice HO166.out; subst eo45) | ((with_reducible refine gate_callee (f := 19) rfl ?_); refine goesL_ (some 59) rfl rfl Try.func19 (by kernel_rfl) rfl #[.slice Ao45 t164.length co45, .slice Ao22 t141.length co22] rfl (by (try simp only [List.map_toArray, List.map_cons, List.map_nil]); first | done | rfl | (simp only [List.length_drop, List.length_take]; rfl)) ?_; (with_reducible refine (laws_eqIntS.calls kj13 _ _ t164 _ _ t141 true _ ?side1 ?side2 ?side3 ?side4 A36.out).mono ?_); (case side1 => repeat (first | exact (Kd.Q_reads' HO166.out).2.2 | (with_reducible refine Kd.C_alloc ?_ _) | (with_reducible refine Kd.C_drewN ?_ _) | (with_reducible refine Kd.C_drew ?_))); (case side2 => exact (Kd.Q_reads' HO166.out).2.1); (case side3 => repeat (first | exact (Kd.R_reads' HO_4.out).2.2 | (with_reducible refine Kd.C_alloc ?_ _) | (with_reducible refine Kd.C_drewN ?_ _) | (with_reducible refine Kd.C_drew ?_))); (case side4 => exact (Kd.R_reads' HO_4.out).2.1); rintro e w' ⟨rfl, ⟨nd, rfl⟩⟩; refine ⟨_, rfl, ?_⟩) | ((with_reducible refine gate_callee (f := 23) rfl ?_); refine goesL_ (some 63) rfl rfl Try.func23 (by kernel_rfl) rfl #[.slice Ao21 t159.length co21, .int .i64 1] rfl (by (try simp only [List.map_toArray, List.map_cons, List.map_nil]); first | done | (rw [show t159.length = t147.length from (Kd.Q_reads' HO_6.out).1.symm] <;> rfl) | rfl | (simp only [List.length_drop, List.length_take]; rfl)) ?_; (with_reducible refine (laws_heldIntS.calls kj13 _ _ t159 1 t168 _ ?side1 ?side2 A38.out).mono ?_); (case side1 => repeat (first | exact (Kd.Q_reads' HO_6.out).2.2 | (with_reducible refine Kd.C_alloc ?_ _) | (with_reducible refine Kd.C_drewN ?_ _) | (with_reducible refine Kd.C_drew ?_))); (case side2 => rw [show t159.length = t147.length from (Kd.Q_reads' HO_6.out).1.symm]; exact (Kd.Q_reads' HO_6.out).2.1); rintro e w' ⟨rfl, ⟨nd, rfl⟩⟩; refine ⟨_, rfl, ?_⟩))
                        go_ret
                        exact ⟨by first | rfl | (simp [errW_none, errW_some] <;> rfl) | (simp [*, errW_none, errW_some] <;> rfl), by repeat (first | (with_reducible first | exact HB.out | apply below_alloc | apply pw_below_drewN | apply below_drew1) | exact HB.out)⟩
                      · rw [if_neg c40] at H
                        exact absurd H (by simp)
                  · replace c37 := Bool.eq_false_iff.mpr c37
                    subst c37
                    have H1 : (none) = some r := by rw [if_neg (show ¬ (false = true) by decide)] at H; exact H
                    clear H
                    have H := H1
                    clear H1
                    exact absurd H (by simp)
                · rw [if_neg c33] at H
                  exact absurd H (by simp)
      · replace c12 := Bool.eq_false_iff.mpr c12
        subst c12
        have H1 : (none) = some r := by rw [if_neg (show ¬ (false = true) by decide)] at H; exact H
        clear H
        have H := H1
        clear H1
        exact absurd H (by simp)
    · replace c9 := Bool.eq_false_iff.mpr c9
      subst c9
      have H1 : (none) = some r := by rw [if_neg (show ¬ (false = true) by decide)] at H; exact H
      clear H
      have H := H1
      clear H1
      exact absurd H (by simp)

end Go.Proofs.Ytmlhkalgaeemaaa.GFnExactUsedBits

/- Functions of the program as Lean functions, with proofs that the machine comes to their answers; written by this session's program mkprint.py; no condition beyond each theorem's own. -/
import Derived.Test.YtpefkclpnkefnaaGFnExactRunDiagramx0
import Derived.Test.YtpefkclpnkefnaaGFnExactRunDiagramx1
import Derived.Test.YtpefkclpnkefnaaGFnExactRunDiagramx2
import Derived.Test.YtpefkclpnkefnaaGFnExactRunDiagramx6
import Derived.Test.YtpefkclpnkefnaaGFnExactRunDiagramx7
import Derived.Test.YtpefkclpnkefnaaGFnExactRunDiagramx10
namespace Go.Proofs.Ytpefkclpnkefnaa.GFnExactRunDiagram
open Go.RowKit Go.Proofs.YtpefkclpnkefnaaV.PrintWords Go.Proofs.YtpefkclpnkefnaaV.PrintLast Go.Proofs.YtpefkclpnkefnaaV.PrintMore
attribute [local go_sem] max2_int min2_int max_two min_two max_three min_three max_four min_four   -- for this text's walks alone
set_option linter.unusedVariables false
set_option linter.unusedSimpArgs false

/-! ### laws_FnExactRunDiagram: function 5 -/
def laws_FnExactRunDiagram.j0 : Nat → List (S56) → List (List Int) → List Int → List Int → Bool → Option (Bool)
  | 0, _, _, _, _, _ => none
  | k + 1, x0, x1, x6, x9, x63 => if x63 = true then (none) else ((laws_markIntS.f k x9 1).bind fun bt336 => ((laws_heldIntS.f k bt336.2 1).bind fun t338 => (if t338 < 0 then (none) else (if t338 = bt336.1 then ((laws_toBlockS.f k x0).bind fun t339 => ((laws_toIntSS.f k x1).bind fun t342 => ((impl_RunDiagram.f k t339 t342).bind fun t345 => ((laws_eqIntS.f k t345 x6).bind fun t348 => (if t348 = true then ((laws_heldIntS.f k bt336.2 1).bind fun t349 => (if t349 < 0 then (none) else (if t349 = bt336.1 then (some true) else (none)))) else (none)))))) else (none)))))
def laws_FnExactRunDiagram.f (k : Nat) (l0 : List (S56)) (l1 : List (List Int)) : Option (Bool) := (laws_szBlockS.f l0 1048576).bind fun t303 => (if t303 < 0 then (some true) else ((laws_szIntSS.f k l1 t303).bind fun t304 => (if t304 < 0 then (some true) else ((laws_toBlockS.f k l0).bind fun t305 => ((laws_toIntSS.f k l1).bind fun t308 => ((spec_RunDiagram.f k t305 t308).bind fun t311 => ((laws_toBlockS.f k l0).bind fun t314 => ((laws_toIntSS.f k l1).bind fun t317 => ((impl_RunDiagram.f k t314 t317).bind fun t320 => ((laws_eqIntS.f k t320 t311).bind fun t323 => (if t323 = true then ((laws_toBlockS.f k l0).bind fun t324 => ((laws_eqBlockS.f k t314 t324).bind fun t327 => (if t327 = true then ((laws_toIntSS.f k l1).bind fun t328 => ((laws_eqIntSS.f k t317 t328).bind fun t331 => (if t331 = true then ((laws_markBlockS.f k t314 1).bind fun bt332 => ((laws_markIntSS.f k t317 bt332.1).bind fun t334 => (if t334 < 0 then (laws_FnExactRunDiagram.j0 k l0 l1 t311 t320 true) else ((laws_eqIntS.f k t320 t311).bind fun t335 => (laws_FnExactRunDiagram.j0 k l0 l1 t311 t320 (!t335)))))) else (none)))) else (none)))) else (none))))))))))))
theorem laws_FnExactRunDiagram.mono_l : ∀ k, (∀ y0 y1 y2 y3 y4, LeO (laws_FnExactRunDiagram.j0 k y0 y1 y2 y3 y4) (laws_FnExactRunDiagram.j0 (k + 1) y0 y1 y2 y3 y4))
  | 0 => fun _ _ _ _ _ r h => by simp [laws_FnExactRunDiagram.j0] at h
  | k + 1 => by
    have ih0 := laws_FnExactRunDiagram.mono_l k
    · intro y0 y1 y2 y3 y4
      unfold laws_FnExactRunDiagram.j0
      repeat' first
      | (with_reducible exact ih0 _ _ _ _ _)
      | (with_reducible exact impl_RunDiagram.mono _ _ _)
      | (with_reducible exact laws_eqBlockS.mono _ _ _)
      | (with_reducible exact laws_eqIntS.mono _ _ _)
      | (with_reducible exact laws_eqIntSS.mono _ _ _)
      | (with_reducible exact laws_heldIntS.mono _ _ _)
      | (with_reducible exact laws_markBlockS.mono _ _ _)
      | (with_reducible exact laws_markIntS.mono _ _ _)
      | (with_reducible exact laws_markIntSS.mono _ _ _)
      | (with_reducible exact laws_szIntSS.mono _ _ _)
      | (with_reducible exact laws_toBlockS.mono _ _)
      | (with_reducible exact laws_toIntSS.mono _ _)
      | (with_reducible exact spec_RunDiagram.mono _ _ _)
      | (with_reducible exact LeO.refl _)
      | (with_reducible exact LeO.none _)
      | (with_reducible refine LeO.ite ?_ ?_)
      | (with_reducible refine LeO.bind ?_ (fun _ => ?_))
      | exact ih0 _ _ _ _ _
      | exact impl_RunDiagram.mono _ _ _
      | exact laws_eqBlockS.mono _ _ _
      | exact laws_eqIntS.mono _ _ _
      | exact laws_eqIntSS.mono _ _ _
      | exact laws_heldIntS.mono _ _ _
      | exact laws_markBlockS.mono _ _ _
      | exact laws_markIntS.mono _ _ _
      | exact laws_markIntSS.mono _ _ _
      | exact laws_szIntSS.mono _ _ _
      | exact laws_toBlockS.mono _ _
      | exact laws_toIntSS.mono _ _
      | exact spec_RunDiagram.mono _ _ _
      | exact LeO.none _
      | refine LeO.ite ?_ ?_
      | refine LeO.bind ?_ (fun _ => ?_)
theorem laws_FnExactRunDiagram.mono : ∀ a0 a1 k, LeO (laws_FnExactRunDiagram.f k a0 a1) (laws_FnExactRunDiagram.f (k + 1) a0 a1) := by
  intro a0 a1 k
  have ih0 := laws_FnExactRunDiagram.mono_l k
  unfold laws_FnExactRunDiagram.f
  repeat' first
      | (with_reducible exact ih0 _ _ _ _ _)
      | (with_reducible exact impl_RunDiagram.mono _ _ _)
      | (with_reducible exact laws_eqBlockS.mono _ _ _)
      | (with_reducible exact laws_eqIntS.mono _ _ _)
      | (with_reducible exact laws_eqIntSS.mono _ _ _)
      | (with_reducible exact laws_heldIntS.mono _ _ _)
      | (with_reducible exact laws_markBlockS.mono _ _ _)
      | (with_reducible exact laws_markIntS.mono _ _ _)
      | (with_reducible exact laws_markIntSS.mono _ _ _)
      | (with_reducible exact laws_szIntSS.mono _ _ _)
      | (with_reducible exact laws_toBlockS.mono _ _)
      | (with_reducible exact laws_toIntSS.mono _ _)
      | (with_reducible exact spec_RunDiagram.mono _ _ _)
      | (with_reducible exact LeO.refl _)
      | (with_reducible exact LeO.none _)
      | (with_reducible refine LeO.ite ?_ ?_)
      | (with_reducible refine LeO.bind ?_ (fun _ => ?_))
      | exact ih0 _ _ _ _ _
      | exact impl_RunDiagram.mono _ _ _
      | exact laws_eqBlockS.mono _ _ _
      | exact laws_eqIntS.mono _ _ _
      | exact laws_eqIntSS.mono _ _ _
      | exact laws_heldIntS.mono _ _ _
      | exact laws_markBlockS.mono _ _ _
      | exact laws_markIntS.mono _ _ _
      | exact laws_markIntSS.mono _ _ _
      | exact laws_szIntSS.mono _ _ _
      | exact laws_toBlockS.mono _ _
      | exact laws_toIntSS.mono _ _
      | exact spec_RunDiagram.mono _ _ _
      | exact LeO.none _
      | refine LeO.ite ?_ ?_
      | refine LeO.bind ?_ (fun _ => ?_)
set_option maxHeartbeats 8000000 in
set_option maxRecDepth 100000 in
theorem laws_FnExactRunDiagram.calls (k : Nat) (A0 : Option Addr) (c0 : Nat) (l0 : List (S56)) (A1 : Option Addr) (c1 : Nat) (l1 : List (List Int)) (r : Bool) (w : World) (hr0 : Kd.C k56 w A0 l0.length l0) (hc0 : l0.length ≤ c0) (hr1 : Kd.C (Kd.slice 3 (Kd.int .i64)) w A1 l1.length l1) (hc1 : l1.length ≤ c1) (h : laws_FnExactRunDiagram.f k l0 l1 = some r) :
    Calls Try.prog 5 #[.slice A0 l0.length c0, .slice A1 l1.length c1] w fun e w' => e = .returned (.bool r) ∧ Below w.heap.size w w' := by
  have HR0 := Aside0.mk hr0
  have HC0 := Aside0.mk hc0
  clear hr0 hc0
  have HR1 := Aside0.mk hr1
  have HC1 := Aside0.mk hc1
  clear hr1 hc1
  have HB := Aside0.mk (Below.refl w.heap.size w)
  have H : ((laws_szBlockS.f l0 1048576).bind fun t303 => (if t303 < 0 then (some true) else ((laws_szIntSS.f k l1 t303).bind fun t304 => (if t304 < 0 then (some true) else ((laws_toBlockS.f k l0).bind fun t305 => ((laws_toIntSS.f k l1).bind fun t308 => ((spec_RunDiagram.f k t305 t308).bind fun t311 => ((laws_toBlockS.f k l0).bind fun t314 => ((laws_toIntSS.f k l1).bind fun t317 => ((impl_RunDiagram.f k t314 t317).bind fun t320 => ((laws_eqIntS.f k t320 t311).bind fun t323 => (if t323 = true then ((laws_toBlockS.f k l0).bind fun t324 => ((laws_eqBlockS.f k t314 t324).bind fun t327 => (if t327 = true then ((laws_toIntSS.f k l1).bind fun t328 => ((laws_eqIntSS.f k t317 t328).bind fun t331 => (if t331 = true then ((laws_markBlockS.f k t314 1).bind fun bt332 => ((laws_markIntSS.f k t317 bt332.1).bind fun t334 => (if t334 < 0 then (laws_FnExactRunDiagram.j0 k l0 l1 t311 t320 true) else ((laws_eqIntS.f k t320 t311).bind fun t335 => (laws_FnExactRunDiagram.j0 k l0 l1 t311 t320 (!t335)))))) else (none)))) else (none)))) else (none))))))))))))) = some r := h
  clear h
  replace H := Option.bind_eq_some_iff.mp H
  obtain ⟨t303, A30, H⟩ := H
  replace H : (if t303 < 0 then (some true) else ((laws_szIntSS.f k l1 t303).bind fun t304 => (if t304 < 0 then (some true) else ((laws_toBlockS.f k l0).bind fun t305 => ((laws_toIntSS.f k l1).bind fun t308 => ((spec_RunDiagram.f k t305 t308).bind fun t311 => ((laws_toBlockS.f k l0).bind fun t314 => ((laws_toIntSS.f k l1).bind fun t317 => ((impl_RunDiagram.f k t314 t317).bind fun t320 => ((laws_eqIntS.f k t320 t311).bind fun t323 => (if t323 = true then ((laws_toBlockS.f k l0).bind fun t324 => ((laws_eqBlockS.f k t314 t324).bind fun t327 => (if t327 = true then ((laws_toIntSS.f k l1).bind fun t328 => ((laws_eqIntSS.f k t317 t328).bind fun t331 => (if t331 = true then ((laws_markBlockS.f k t314 1).bind fun bt332 => ((laws_markIntSS.f k t317 bt332.1).bind fun t334 => (if t334 < 0 then (laws_FnExactRunDiagram.j0 k l0 l1 t311 t320 true) else ((laws_eqIntS.f k t320 t311).bind fun t335 => (laws_FnExactRunDiagram.j0 k l0 l1 t311 t320 (!t335)))))) else (none)))) else (none)))) else (none)))))))))))) = some r := H
  have A3 := Aside0.mk A30
  clear A30
  by_cases c4 : t303 < 0
  · rw [if_pos c4] at H
    have c4b0 : decide (t303 < 0) = true := decide_eq_true c4
    clear c4
    obtain rfl := Option.some.inj H
    go_enter Try.func5, Try.ntmps5
    go_wp2_with (first | ((with_reducible refine gate_callee (f := 11) rfl ?_); refine goesL_ (some 16) rfl rfl Try.func11 (by kernel_rfl) rfl #[.slice A0 l0.length c0, .int .i64 1048576] rfl (by (try simp only [List.map_toArray, List.map_cons, List.map_nil]); first | done | rfl | (simp only [List.length_drop, List.length_take]; rfl)) ?_; (with_reducible refine (laws_szBlockS.calls _ _ l0 1048576 t303 _ ?side1 ?side2 A3.out).mono ?_); (case side1 => repeat (first | exact HR0.out | (with_reducible refine Kd.C_alloc ?_ _) | (with_reducible refine Kd.C_drewN ?_ _) | (with_reducible refine Kd.C_drew ?_))); (case side2 => exact HC0.out); rintro e w' ⟨rfl, ⟨nd, rfl⟩⟩; refine ⟨_, rfl, ?_⟩))
    go_ret
    exact ⟨by first | rfl | (simp [errW_none, errW_some] <;> rfl) | (simp [*, errW_none, errW_some] <;> rfl), by repeat (first | (with_reducible first | exact HB.out | apply below_alloc | apply pw_below_drewN | apply below_drew1) | exact HB.out)⟩
  · rw [if_neg c4] at H
    have c4b0 : decide (t303 < 0) = false := decide_eq_false c4
    clear c4
    replace H := Option.bind_eq_some_iff.mp H
    obtain ⟨t304, A50, H⟩ := H
    replace H : (if t304 < 0 then (some true) else ((laws_toBlockS.f k l0).bind fun t305 => ((laws_toIntSS.f k l1).bind fun t308 => ((spec_RunDiagram.f k t305 t308).bind fun t311 => ((laws_toBlockS.f k l0).bind fun t314 => ((laws_toIntSS.f k l1).bind fun t317 => ((impl_RunDiagram.f k t314 t317).bind fun t320 => ((laws_eqIntS.f k t320 t311).bind fun t323 => (if t323 = true then ((laws_toBlockS.f k l0).bind fun t324 => ((laws_eqBlockS.f k t314 t324).bind fun t327 => (if t327 = true then ((laws_toIntSS.f k l1).bind fun t328 => ((laws_eqIntSS.f k t317 t328).bind fun t331 => (if t331 = true then ((laws_markBlockS.f k t314 1).bind fun bt332 => ((laws_markIntSS.f k t317 bt332.1).bind fun t334 => (if t334 < 0 then (laws_FnExactRunDiagram.j0 k l0 l1 t311 t320 true) else ((laws_eqIntS.f k t320 t311).bind fun t335 => (laws_FnExactRunDiagram.j0 k l0 l1 t311 t320 (!t335)))))) else (none)))) else (none)))) else (none)))))))))) = some r := H
    have A5 := Aside0.mk A50
    clear A50
    by_cases c6 : t304 < 0
    · rw [if_pos c6] at H
      have c6b0 : decide (t304 < 0) = true := decide_eq_true c6
      clear c6
      obtain rfl := Option.some.inj H
      go_enter Try.func5, Try.ntmps5
      go_wp2_with (first | ((with_reducible refine gate_callee (f := 11) rfl ?_); refine goesL_ (some 16) rfl rfl Try.func11 (by kernel_rfl) rfl #[.slice A0 l0.length c0, .int .i64 1048576] rfl (by (try simp only [List.map_toArray, List.map_cons, List.map_nil]); first | done | rfl | (simp only [List.length_drop, List.length_take]; rfl)) ?_; (with_reducible refine (laws_szBlockS.calls _ _ l0 1048576 t303 _ ?side1 ?side2 A3.out).mono ?_); (case side1 => repeat (first | exact HR0.out | (with_reducible refine Kd.C_alloc ?_ _) | (with_reducible refine Kd.C_drewN ?_ _) | (with_reducible refine Kd.C_drew ?_))); (case side2 => exact HC0.out); rintro e w' ⟨rfl, ⟨nd, rfl⟩⟩; refine ⟨_, rfl, ?_⟩) | ((with_reducible refine gate_callee (f := 19) rfl ?_); refine goesL_ (some 21) rfl rfl Try.func19 (by kernel_rfl) rfl #[.slice A1 l1.length c1, .int .i64 t303] rfl (by (try simp only [List.map_toArray, List.map_cons, List.map_nil]); first | done | rfl | (simp only [List.length_drop, List.length_take]; rfl)) ?_; (with_reducible refine (laws_szIntSS.calls k _ _ l1 t303 t304 _ ?side1 ?side2 A5.out).mono ?_); (case side1 => repeat (first | exact HR1.out | (with_reducible refine Kd.C_alloc ?_ _) | (with_reducible refine Kd.C_drewN ?_ _) | (with_reducible refine Kd.C_drew ?_))); (case side2 => exact HC1.out); rintro e w' ⟨rfl, ⟨nd, rfl⟩⟩; refine ⟨_, rfl, ?_⟩))
      go_ret
      exact ⟨by first | rfl | (simp [errW_none, errW_some] <;> rfl) | (simp [*, errW_none, errW_some] <;> rfl), by repeat (first | (with_reducible first | exact HB.out | apply below_alloc | apply pw_below_drewN | apply below_drew1) | exact HB.out)⟩
    · rw [if_neg c6] at H
      have c6b0 : decide (t304 < 0) = false := decide_eq_false c6
      clear c6
      replace H := Option.bind_eq_some_iff.mp H
      obtain ⟨t305, A70, H⟩ := H
      replace H : ((laws_toIntSS.f k l1).bind fun t308 => ((spec_RunDiagram.f k t305 t308).bind fun t311 => ((laws_toBlockS.f k l0).bind fun t314 => ((laws_toIntSS.f k l1).bind fun t317 => ((impl_RunDiagram.f k t314 t317).bind fun t320 => ((laws_eqIntS.f k t320 t311).bind fun t323 => (if t323 = true then ((laws_toBlockS.f k l0).bind fun t324 => ((laws_eqBlockS.f k t314 t324).bind fun t327 => (if t327 = true then ((laws_toIntSS.f k l1).bind fun t328 => ((laws_eqIntSS.f k t317 t328).bind fun t331 => (if t331 = true then ((laws_markBlockS.f k t314 1).bind fun bt332 => ((laws_markIntSS.f k t317 bt332.1).bind fun t334 => (if t334 < 0 then (laws_FnExactRunDiagram.j0 k l0 l1 t311 t320 true) else ((laws_eqIntS.f k t320 t311).bind fun t335 => (laws_FnExactRunDiagram.j0 k l0 l1 t311 t320 (!t335)))))) else (none)))) else (none)))) else (none)))))))) = some r := H
      have A7 := Aside0.mk A70
      clear A70
      replace H := Option.bind_eq_some_iff.mp H
      obtain ⟨t308, A80, H⟩ := H
      replace H : ((spec_RunDiagram.f k t305 t308).bind fun t311 => ((laws_toBlockS.f k l0).bind fun t314 => ((laws_toIntSS.f k l1).bind fun t317 => ((impl_RunDiagram.f k t314 t317).bind fun t320 => ((laws_eqIntS.f k t320 t311).bind fun t323 => (if t323 = true then ((laws_toBlockS.f k l0).bind fun t324 => ((laws_eqBlockS.f k t314 t324).bind fun t327 => (if t327 = true then ((laws_toIntSS.f k l1).bind fun t328 => ((laws_eqIntSS.f k t317 t328).bind fun t331 => (if t331 = true then ((laws_markBlockS.f k t314 1).bind fun bt332 => ((laws_markIntSS.f k t317 bt332.1).bind fun t334 => (if t334 < 0 then (laws_FnExactRunDiagram.j0 k l0 l1 t311 t320 true) else ((laws_eqIntS.f k t320 t311).bind fun t335 => (laws_FnExactRunDiagram.j0 k l0 l1 t311 t320 (!t335)))))) else (none)))) else (none)))) else (none))))))) = some r := H
      have A8 := Aside0.mk A80
      clear A80
      replace H := Option.bind_eq_some_iff.mp H
      obtain ⟨t311, A90, H⟩ := H
      replace H : ((laws_toBlockS.f k l0).bind fun t314 => ((laws_toIntSS.f k l1).bind fun t317 => ((impl_RunDiagram.f k t314 t317).bind fun t320 => ((laws_eqIntS.f k t320 t311).bind fun t323 => (if t323 = true then ((laws_toBlockS.f k l0).bind fun t324 => ((laws_eqBlockS.f k t314 t324).bind fun t327 => (if t327 = true then ((laws_toIntSS.f k l1).bind fun t328 => ((laws_eqIntSS.f k t317 t328).bind fun t331 => (if t331 = true then ((laws_markBlockS.f k t314 1).bind fun bt332 => ((laws_markIntSS.f k t317 bt332.1).bind fun t334 => (if t334 < 0 then (laws_FnExactRunDiagram.j0 k l0 l1 t311 t320 true) else ((laws_eqIntS.f k t320 t311).bind fun t335 => (laws_FnExactRunDiagram.j0 k l0 l1 t311 t320 (!t335)))))) else (none)))) else (none)))) else (none)))))) = some r := H
      have A9 := Aside0.mk A90
      clear A90
      replace H := Option.bind_eq_some_iff.mp H
      obtain ⟨t314, A100, H⟩ := H
      replace H : ((laws_toIntSS.f k l1).bind fun t317 => ((impl_RunDiagram.f k t314 t317).bind fun t320 => ((laws_eqIntS.f k t320 t311).bind fun t323 => (if t323 = true then ((laws_toBlockS.f k l0).bind fun t324 => ((laws_eqBlockS.f k t314 t324).bind fun t327 => (if t327 = true then ((laws_toIntSS.f k l1).bind fun t328 => ((laws_eqIntSS.f k t317 t328).bind fun t331 => (if t331 = true then ((laws_markBlockS.f k t314 1).bind fun bt332 => ((laws_markIntSS.f k t317 bt332.1).bind fun t334 => (if t334 < 0 then (laws_FnExactRunDiagram.j0 k l0 l1 t311 t320 true) else ((laws_eqIntS.f k t320 t311).bind fun t335 => (laws_FnExactRunDiagram.j0 k l0 l1 t311 t320 (!t335)))))) else (none)))) else (none)))) else (none))))) = some r := H
      have A10 := Aside0.mk A100
      clear A100
      replace H := Option.bind_eq_some_iff.mp H
      obtain ⟨t317, A110, H⟩ := H
      replace H : ((impl_RunDiagram.f k t314 t317).bind fun t320 => ((laws_eqIntS.f k t320 t311).bind fun t323 => (if t323 = true then ((laws_toBlockS.f k l0).bind fun t324 => ((laws_eqBlockS.f k t314 t324).bind fun t327 => (if t327 = true then ((laws_toIntSS.f k l1).bind fun t328 => ((laws_eqIntSS.f k t317 t328).bind fun t331 => (if t331 = true then ((laws_markBlockS.f k t314 1).bind fun bt332 => ((laws_markIntSS.f k t317 bt332.1).bind fun t334 => (if t334 < 0 then (laws_FnExactRunDiagram.j0 k l0 l1 t311 t320 true) else ((laws_eqIntS.f k t320 t311).bind fun t335 => (laws_FnExactRunDiagram.j0 k l0 l1 t311 t320 (!t335)))))) else (none)))) else (none)))) else (none)))) = some r := H
      have A11 := Aside0.mk A110
      clear A110
      replace H := Option.bind_eq_some_iff.mp H
      obtain ⟨t320, A120, H⟩ := H
      replace H : ((laws_eqIntS.f k t320 t311).bind fun t323 => (if t323 = true then ((laws_toBlockS.f k l0).bind fun t324 => ((laws_eqBlockS.f k t314 t324).bind fun t327 => (if t327 = true then ((laws_toIntSS.f k l1).bind fun t328 => ((laws_eqIntSS.f k t317 t328).bind fun t331 => (if t331 = true then ((laws_markBlockS.f k t314 1).bind fun bt332 => ((laws_markIntSS.f k t317 bt332.1).bind fun t334 => (if t334 < 0 then (laws_FnExactRunDiagram.j0 k l0 l1 t311 t320 true) else ((laws_eqIntS.f k t320 t311).bind fun t335 => (laws_FnExactRunDiagram.j0 k l0 l1 t311 t320 (!t335)))))) else (none)))) else (none)))) else (none))) = some r := H
      have A12 := Aside0.mk A120
      clear A120
      replace H := Option.bind_eq_some_iff.mp H
      obtain ⟨t323, A130, H⟩ := H
      replace H : (if t323 = true then ((laws_toBlockS.f k l0).bind fun t324 => ((laws_eqBlockS.f k t314 t324).bind fun t327 => (if t327 = true then ((laws_toIntSS.f k l1).bind fun t328 => ((laws_eqIntSS.f k t317 t328).bind fun t331 => (if t331 = true then ((laws_markBlockS.f k t314 1).bind fun bt332 => ((laws_markIntSS.f k t317 bt332.1).bind fun t334 => (if t334 < 0 then (laws_FnExactRunDiagram.j0 k l0 l1 t311 t320 true) else ((laws_eqIntS.f k t320 t311).bind fun t335 => (laws_FnExactRunDiagram.j0 k l0 l1 t311 t320 (!t335)))))) else (none)))) else (none)))) else (none)) = some r := H
      have A13 := Aside0.mk A130
      clear A130
      by_cases c14 : t323 = true
      · subst c14
        have H1 : ((laws_toBlockS.f k l0).bind fun t324 => ((laws_eqBlockS.f k t314 t324).bind fun t327 => (if t327 = true then ((laws_toIntSS.f k l1).bind fun t328 => ((laws_eqIntSS.f k t317 t328).bind fun t331 => (if t331 = true then ((laws_markBlockS.f k t314 1).bind fun bt332 => ((laws_markIntSS.f k t317 bt332.1).bind fun t334 => (if t334 < 0 then (laws_FnExactRunDiagram.j0 k l0 l1 t311 t320 true) else ((laws_eqIntS.f k t320 t311).bind fun t335 => (laws_FnExactRunDiagram.j0 k l0 l1 t311 t320 (!t335)))))) else (none)))) else (none)))) = some r := by rw [if_pos rfl] at H; exact H
        clear H
        have H := H1
        clear H1
        replace H := Option.bind_eq_some_iff.mp H
        obtain ⟨t324, A150, H⟩ := H
        replace H : ((laws_eqBlockS.f k t314 t324).bind fun t327 => (if t327 = true then ((laws_toIntSS.f k l1).bind fun t328 => ((laws_eqIntSS.f k t317 t328).bind fun t331 => (if t331 = true then ((laws_markBlockS.f k t314 1).bind fun bt332 => ((laws_markIntSS.f k t317 bt332.1).bind fun t334 => (if t334 < 0 then (laws_FnExactRunDiagram.j0 k l0 l1 t311 t320 true) else ((laws_eqIntS.f k t320 t311).bind fun t335 => (laws_FnExactRunDiagram.j0 k l0 l1 t311 t320 (!t335)))))) else (none)))) else (none))) = some r := H
        have A15 := Aside0.mk A150
        clear A150
        replace H := Option.bind_eq_some_iff.mp H
        obtain ⟨t327, A160, H⟩ := H
        replace H : (if t327 = true then ((laws_toIntSS.f k l1).bind fun t328 => ((laws_eqIntSS.f k t317 t328).bind fun t331 => (if t331 = true then ((laws_markBlockS.f k t314 1).bind fun bt332 => ((laws_markIntSS.f k t317 bt332.1).bind fun t334 => (if t334 < 0 then (laws_FnExactRunDiagram.j0 k l0 l1 t311 t320 true) else ((laws_eqIntS.f k t320 t311).bind fun t335 => (laws_FnExactRunDiagram.j0 k l0 l1 t311 t320 (!t335)))))) else (none)))) else (none)) = some r := H
        have A16 := Aside0.mk A160
        clear A160
        by_cases c17 : t327 = true
        · subst c17
          have H1 : ((laws_toIntSS.f k l1).bind fun t328 => ((laws_eqIntSS.f k t317 t328).bind fun t331 => (if t331 = true then ((laws_markBlockS.f k t314 1).bind fun bt332 => ((laws_markIntSS.f k t317 bt332.1).bind fun t334 => (if t334 < 0 then (laws_FnExactRunDiagram.j0 k l0 l1 t311 t320 true) else ((laws_eqIntS.f k t320 t311).bind fun t335 => (laws_FnExactRunDiagram.j0 k l0 l1 t311 t320 (!t335)))))) else (none)))) = some r := by rw [if_pos rfl] at H; exact H
          clear H
          have H := H1
          clear H1
          replace H := Option.bind_eq_some_iff.mp H
          obtain ⟨t328, A180, H⟩ := H
          replace H : ((laws_eqIntSS.f k t317 t328).bind fun t331 => (if t331 = true then ((laws_markBlockS.f k t314 1).bind fun bt332 => ((laws_markIntSS.f k t317 bt332.1).bind fun t334 => (if t334 < 0 then (laws_FnExactRunDiagram.j0 k l0 l1 t311 t320 true) else ((laws_eqIntS.f k t320 t311).bind fun t335 => (laws_FnExactRunDiagram.j0 k l0 l1 t311 t320 (!t335)))))) else (none))) = some r := H
          have A18 := Aside0.mk A180
          clear A180
          replace H := Option.bind_eq_some_iff.mp H
          obtain ⟨t331, A190, H⟩ := H
          replace H : (if t331 = true then ((laws_markBlockS.f k t314 1).bind fun bt332 => ((laws_markIntSS.f k t317 bt332.1).bind fun t334 => (if t334 < 0 then (laws_FnExactRunDiagram.j0 k l0 l1 t311 t320 true) else ((laws_eqIntS.f k t320 t311).bind fun t335 => (laws_FnExactRunDiagram.j0 k l0 l1 t311 t320 (!t335)))))) else (none)) = some r := H
          have A19 := Aside0.mk A190
          clear A190
          by_cases c20 : t331 = true
          · subst c20
            have H1 : ((laws_markBlockS.f k t314 1).bind fun bt332 => ((laws_markIntSS.f k t317 bt332.1).bind fun t334 => (if t334 < 0 then (laws_FnExactRunDiagram.j0 k l0 l1 t311 t320 true) else ((laws_eqIntS.f k t320 t311).bind fun t335 => (laws_FnExactRunDiagram.j0 k l0 l1 t311 t320 (!t335)))))) = some r := by rw [if_pos rfl] at H; exact H
            clear H
            have H := H1
            clear H1
            replace H := Option.bind_eq_some_iff.mp H
            obtain ⟨⟨t332, t333⟩, A210, H⟩ := H
            replace H : ((laws_markIntSS.f k t317 t332).bind fun t334 => (if t334 < 0 then (laws_FnExactRunDiagram.j0 k l0 l1 t311 t320 true) else ((laws_eqIntS.f k t320 t311).bind fun t335 => (laws_FnExactRunDiagram.j0 k l0 l1 t311 t320 (!t335))))) = some r := H
            have A21 := Aside0.mk A210
            clear A210
            replace H := Option.bind_eq_some_iff.mp H
            obtain ⟨t334, A220, H⟩ := H
            replace H : (if t334 < 0 then (laws_FnExactRunDiagram.j0 k l0 l1 t311 t320 true) else ((laws_eqIntS.f k t320 t311).bind fun t335 => (laws_FnExactRunDiagram.j0 k l0 l1 t311 t320 (!t335)))) = some r := H
            have A22 := Aside0.mk A220
            clear A220
            have HC23 := Aside0.mk H
            clear H
            go_enter Try.func5, Try.ntmps5
            go_upto_region 21 with (first | ((with_reducible refine gate_callee (f := 11) rfl ?_); refine goesL_ (some 16) rfl rfl Try.func11 (by kernel_rfl) rfl #[.slice A0 l0.length c0, .int .i64 1048576] rfl (by (try simp only [List.map_toArray, List.map_cons, List.map_nil]); first | done | rfl | (simp only [List.length_drop, List.length_take]; rfl)) ?_; (with_reducible refine (laws_szBlockS.calls _ _ l0 1048576 t303 _ ?side1 ?side2 A3.out).mono ?_); (case side1 => repeat (first | exact HR0.out | (with_reducible refine Kd.C_alloc ?_ _) | (with_reducible refine Kd.C_drewN ?_ _) | (with_reducible refine Kd.C_drew ?_))); (case side2 => exact HC0.out); rintro e w' ⟨rfl, ⟨nd, rfl⟩⟩; refine ⟨_, rfl, ?_⟩) | ((with_reducible refine gate_callee (f := 19) rfl ?_); refine goesL_ (some 21) rfl rfl Try.func19 (by kernel_rfl) rfl #[.slice A1 l1.length c1, .int .i64 t303] rfl (by (try simp only [List.map_toArray, List.map_cons, List.map_nil]); first | done | rfl | (simp only [List.length_drop, List.length_take]; rfl)) ?_; (with_reducible refine (laws_szIntSS.calls k _ _ l1 t303 t304 _ ?side1 ?side2 A5.out).mono ?_); (case side1 => repeat (first | exact HR1.out | (with_reducible refine Kd.C_alloc ?_ _) | (with_reducible refine Kd.C_drewN ?_ _) | (with_reducible refine Kd.C_drew ?_))); (case side2 => exact HC1.out); rintro e w' ⟨rfl, ⟨nd, rfl⟩⟩; refine ⟨_, rfl, ?_⟩) | ((with_reducible refine gate_callee (f := 13) rfl ?_); refine goesL_ (some 25) rfl rfl Try.func13 (by kernel_rfl) rfl #[.slice A0 l0.length c0] rfl (by (try simp only [List.map_toArray, List.map_cons, List.map_nil]); first | done | rfl | (simp only [List.length_drop, List.length_take]; rfl)) ?_; (with_reducible refine (laws_toBlockS.calls k _ _ l0 t305 _ ?side1 ?side2 A7.out).mono ?_); (case side1 => repeat (first | exact HR0.out | (with_reducible refine Kd.C_alloc ?_ _) | (with_reducible refine Kd.C_drewN ?_ _) | (with_reducible refine Kd.C_drew ?_))); (case side2 => exact HC0.out); rintro e w24 ⟨v306, rfl, ho0, hb⟩; refine ⟨_, rfl, ?_⟩; have n0_ := Aside0.mk (Kd.R_lower ho0 (below_size (by repeat (first | (with_reducible first | exact HB.out | apply below_alloc | apply pw_below_drewN | apply below_drew1) | exact HB.out)))); have n1_ := Aside0.mk (below_step (by repeat (first | (with_reducible first | exact HB.out | apply below_alloc | apply pw_below_drewN | apply below_drew1) | exact HB.out)) hb); clear HB; have HO307 := n0_; have HB := n1_; clear n0_ n1_; (try clear hb); (try clear hb2); (try clear hk); (try clear hi); (try clear ho0)) | ((with_reducible refine gate_callee (f := 21) rfl ?_); refine goesL_ (some 27) rfl rfl Try.func21 (by kernel_rfl) rfl #[.slice A1 l1.length c1] rfl (by (try simp only [List.map_toArray, List.map_cons, List.map_nil]); first | done | rfl | (simp only [List.length_drop, List.length_take]; rfl)) ?_; (with_reducible refine (laws_toIntSS.calls k _ _ l1 t308 _ ?side1 ?side2 A8.out).mono ?_); (case side1 => repeat (first | exact (Kd.C_below HR1.out HB.out) | (with_reducible refine Kd.C_alloc ?_ _) | (with_reducible refine Kd.C_drewN ?_ _) | (with_reducible refine Kd.C_drew ?_))); (case side2 => exact HC1.out); rintro e w25 ⟨v309, rfl, ho0, hb⟩; refine ⟨_, rfl, ?_⟩; have n0_ := Aside0.mk (Kd.R_below (by (with_reducible repeat (first | apply Kd.R_alloc | apply Kd.R_drewN | apply Kd.R_drew)); exact HO307.out) hb); have n1_ := Aside0.mk (Kd.S_lower ho0 (below_size (by repeat (first | (with_reducible first | exact HB.out | apply below_alloc | apply pw_below_drewN | apply below_drew1) | exact HB.out)))); have n2_ := Aside0.mk (below_step (by repeat (first | (with_reducible first | exact HB.out | apply below_alloc | apply pw_below_drewN | apply below_drew1) | exact HB.out)) hb); clear HO307; clear HB; have HO307 := n0_; have HO310 := n1_; have HB := n2_; clear n0_ n1_ n2_; (try clear hb); (try clear hb2); (try clear hk); (try clear hi); (try clear ho0); obtain ⟨Ao26, co26, eo26⟩ := Kd.R_slice HO307.out; subst eo26; obtain ⟨Ao27, co27, eo27⟩ := Kd.S_slice HO310.out; subst eo27) | ((with_reducible refine gate_callee (f := 20) rfl ?_); refine goesL_ (some 28) rfl rfl Try.func20 (by kernel_rfl) rfl #[.slice Ao26 t305.length co26, .slice Ao27 t308.length co27] rfl (by (try simp only [List.map_toArray, List.map_cons, List.map_nil]); first | done | rfl | (simp only [List.length_drop, List.length_take]; rfl)) ?_; (with_reducible refine (spec_RunDiagram.calls k _ _ t305 _ _ t308 t311 _ ?side1 ?side2 ?side3 ?side4 A9.out).mono ?_); (case side1 => repeat (first | exact (Kd.R_reads' HO307.out).2.2 | (with_reducible refine Kd.C_alloc ?_ _) | (with_reducible refine Kd.C_drewN ?_ _) | (with_reducible refine Kd.C_drew ?_))); (case side2 => exact (Kd.R_reads' HO307.out).2.1); (case side3 => repeat (first | exact (Kd.S_reads' HO310.out).2.2 | (with_reducible refine Kd.C_alloc ?_ _) | (with_reducible refine Kd.C_drewN ?_ _) | (with_reducible refine Kd.C_drew ?_))); (case side4 => exact (Kd.S_reads' HO310.out).2.1); rintro e w28 ⟨v312, rfl, ho0, hb⟩; refine ⟨_, rfl, ?_⟩; have n0_ := Aside0.mk (Kd.R_below (by (with_reducible repeat (first | apply Kd.R_alloc | apply Kd.R_drewN | apply Kd.R_drew)); exact HO307.out) hb); have n1_ := Aside0.mk (Kd.S_elder' (by (with_reducible repeat (first | apply Kd.S_alloc | apply Kd.S_drewN | apply Kd.S_drew)); exact HO310.out) (Kd.R_base ho0) hb); have n2_ := Aside0.mk (Kd.R_lower ho0 (below_size (by repeat (first | (with_reducible first | exact HB.out | apply below_alloc | apply pw_below_drewN | apply below_drew1) | exact HB.out)))); have n3_ := Aside0.mk (below_step (by repeat (first | (with_reducible first | exact HB.out | apply below_alloc | apply pw_below_drewN | apply below_drew1) | exact HB.out)) hb); clear HO307; clear HO310; clear HB; have HO307 := n0_; have HO310 := n1_; have HO313 := n2_; have HB := n3_; clear n0_ n1_ n2_ n3_; (try clear hb); (try clear hb2); (try clear hk); (try clear hi); (try clear ho0)) | ((with_reducible refine gate_callee (f := 13) rfl ?_); refine goesL_ (some 30) rfl rfl Try.func13 (by kernel_rfl) rfl #[.slice A0 l0.length c0] rfl (by (try simp only [List.map_toArray, List.map_cons, List.map_nil]); first | done | rfl | (simp only [List.length_drop, List.length_take]; rfl)) ?_; (with_reducible refine (laws_toBlockS.calls k _ _ l0 t314 _ ?side1 ?side2 A10.out).mono ?_); (case side1 => repeat (first | exact (Kd.C_below HR0.out HB.out) | (with_reducible refine Kd.C_alloc ?_ _) | (with_reducible refine Kd.C_drewN ?_ _) | (with_reducible refine Kd.C_drew ?_))); (case side2 => exact HC0.out); rintro e w29 ⟨v315, rfl, ho0, hb⟩; refine ⟨_, rfl, ?_⟩; have n0_ := Aside0.mk (Kd.R_elder' (by (with_reducible repeat (first | apply Kd.R_alloc | apply Kd.R_drewN | apply Kd.R_drew)); exact HO307.out) (Kd.R_base ho0) hb); have n1_ := Aside0.mk (Kd.S_below (by (with_reducible repeat (first | apply Kd.S_alloc | apply Kd.S_drewN | apply Kd.S_drew)); exact HO310.out) hb); have n2_ := Aside0.mk (Kd.R_below (by (with_reducible repeat (first | apply Kd.R_alloc | apply Kd.R_drewN | apply Kd.R_drew)); exact HO313.out) hb); have n3_ := Aside0.mk (Kd.R_lower (Kd.R_new' ho0 (Kd.R_lt (by (with_reducible repeat (first | apply Kd.R_alloc | apply Kd.R_drewN | apply Kd.R_drew)); exact HO307.out))) (below_size (by repeat (first | (with_reducible first | exact HB.out | apply below_alloc | apply pw_below_drewN | apply below_drew1) | exact HB.out)))); have n4_ := Aside0.mk (below_step (by repeat (first | (with_reducible first | exact HB.out | apply below_alloc | apply pw_below_drewN | apply below_drew1) | exact HB.out)) hb); clear HO307; clear HO310; clear HO313; clear HB; have HO307 := n0_; have HO310 := n1_; have HO313 := n2_; have HO316 := n3_; have HB := n4_; clear n0_ n1_ n2_ n3_ n4_; (try clear hb); (try clear hb2); (try clear hk); (try clear hi); (try clear ho0)) | ((with_reducible refine gate_callee (f := 21) rfl ?_); refine goesL_ (some 32) rfl rfl Try.func21 (by kernel_rfl) rfl #[.slice A1 l1.length c1] rfl (by (try simp only [List.map_toArray, List.map_cons, List.map_nil]); first | done | rfl | (simp only [List.length_drop, List.length_take]; rfl)) ?_; (with_reducible refine (laws_toIntSS.calls k _ _ l1 t317 _ ?side1 ?side2 A11.out).mono ?_); (case side1 => repeat (first | exact (Kd.C_below HR1.out HB.out) | (with_reducible refine Kd.C_alloc ?_ _) | (with_reducible refine Kd.C_drewN ?_ _) | (with_reducible refine Kd.C_drew ?_))); (case side2 => exact HC1.out); rintro e w30 ⟨v318, rfl, ho0, hb⟩; refine ⟨_, rfl, ?_⟩; have n0_ := Aside0.mk (Kd.R_below (by (with_reducible repeat (first | apply Kd.R_alloc | apply Kd.R_drewN | apply Kd.R_drew)); exact HO307.out) hb); have n1_ := Aside0.mk (Kd.S_elder' (by (with_reducible repeat (first | apply Kd.S_alloc | apply Kd.S_drewN | apply Kd.S_drew)); exact HO310.out) (Kd.S_base ho0) hb); have n2_ := Aside0.mk (Kd.R_below (by (with_reducible repeat (first | apply Kd.R_alloc | apply Kd.R_drewN | apply Kd.R_drew)); exact HO313.out) hb); have n3_ := Aside0.mk (Kd.R_below (by (with_reducible repeat (first | apply Kd.R_alloc | apply Kd.R_drewN | apply Kd.R_drew)); exact HO316.out) hb); have n4_ := Aside0.mk (Kd.S_lower (Kd.S_new' (Kd.S_new' ho0 (Kd.S_lt (by (with_reducible repeat (first | apply Kd.S_alloc | apply Kd.S_drewN | apply Kd.S_drew)); exact HO310.out))) (Kd.R_lt (by (with_reducible repeat (first | apply Kd.R_alloc | apply Kd.R_drewN | apply Kd.R_drew)); exact HO313.out))) (below_size (by repeat (first | (with_reducible first | exact HB.out | apply below_alloc | apply pw_below_drewN | apply below_drew1) | exact HB.out)))); have n5_ := Aside0.mk (below_step (by repeat (first | (with_reducible first | exact HB.out | apply below_alloc | apply pw_below_drewN | apply below_drew1) | exact HB.out)) hb); clear HO307; clear HO310; clear HO313; clear HO316; clear HB; have HO307 := n0_; have HO310 := n1_; have HO313 := n2_; have HO316 := n3_; have HO319 := n4_; have HB := n5_; clear n0_ n1_ n2_ n3_ n4_ n5_; (try clear hb); (try clear hb2); (try clear hk); (try clear hi); (try clear ho0); obtain ⟨Ao31, co31, eo31⟩ := Kd.R_slice HO316.out; subst eo31; obtain ⟨Ao32, co32, eo32⟩ := Kd.S_slice HO319.out; subst eo32) | ((with_reducible refine gate_callee (f := 22) rfl ?_); refine goesL_ (some 35) rfl rfl Try.func22 (by kernel_rfl) rfl #[.slice Ao31 t314.length co31, .slice Ao32 t317.length co32] rfl (by (try simp only [List.map_toArray, List.map_cons, List.map_nil]); first | done | rfl | (simp only [List.length_drop, List.length_take]; rfl)) ?_; (with_reducible refine (impl_RunDiagram.calls k _ _ t314 _ _ t317 t320 _ ?side1 ?side2 ?side3 ?side4 A12.out).mono ?_); (case side1 => repeat (first | exact (Kd.R_reads' HO316.out).2.2 | (with_reducible refine Kd.C_alloc ?_ _) | (with_reducible refine Kd.C_drewN ?_ _) | (with_reducible refine Kd.C_drew ?_))); (case side2 => exact (Kd.R_reads' HO316.out).2.1); (case side3 => repeat (first | exact (Kd.S_reads' HO319.out).2.2 | (with_reducible refine Kd.C_alloc ?_ _) | (with_reducible refine Kd.C_drewN ?_ _) | (with_reducible refine Kd.C_drew ?_))); (case side4 => exact (Kd.S_reads' HO319.out).2.1); rintro e w33 ⟨v321, rfl, ho0, hb⟩; refine ⟨_, rfl, ?_⟩; have n0_ := Aside0.mk (Kd.R_below (by (with_reducible repeat (first | apply Kd.R_alloc | apply Kd.R_drewN | apply Kd.R_drew)); exact HO307.out) hb); have n1_ := Aside0.mk (Kd.S_elder' (by (with_reducible repeat (first | apply Kd.S_alloc | apply Kd.S_drewN | apply Kd.S_drew)); exact HO310.out) (Kd.R_base ho0) hb); have n2_ := Aside0.mk (Kd.R_elder' (by (with_reducible repeat (first | apply Kd.R_alloc | apply Kd.R_drewN | apply Kd.R_drew)); exact HO313.out) (Kd.R_base ho0) hb); have n3_ := Aside0.mk (Kd.R_below (by (with_reducible repeat (first | apply Kd.R_alloc | apply Kd.R_drewN | apply Kd.R_drew)); exact HO316.out) hb); have n4_ := Aside0.mk (Kd.S_elder' (by (with_reducible repeat (first | apply Kd.S_alloc | apply Kd.S_drewN | apply Kd.S_drew)); exact HO319.out) (Kd.R_base ho0) hb); have n5_ := Aside0.mk (Kd.R_lower (Kd.R_new' ho0 (Kd.R_lt (by (with_reducible repeat (first | apply Kd.R_alloc | apply Kd.R_drewN | apply Kd.R_drew)); exact HO313.out))) (below_size (by repeat (first | (with_reducible first | exact HB.out | apply below_alloc | apply pw_below_drewN | apply below_drew1) | exact HB.out)))); have n6_ := Aside0.mk (below_step (by repeat (first | (with_reducible first | exact HB.out | apply below_alloc | apply pw_below_drewN | apply below_drew1) | exact HB.out)) hb); clear HO307; clear HO310; clear HO313; clear HO316; clear HO319; clear HB; have HO307 := n0_; have HO310 := n1_; have HO313 := n2_; have HO316 := n3_; have HO319 := n4_; have HO322 := n5_; have HB := n6_; clear n0_ n1_ n2_ n3_ n4_ n5_ n6_; (try clear hb); (try clear hb2); (try clear hk); (try clear hi); (try clear ho0); obtain ⟨Ao34, co34, eo34⟩ := Kd.R_slice HO322.out; subst eo34; obtain ⟨Ao35, co35, eo35⟩ := Kd.R_slice HO313.out; subst eo35) | ((with_reducible refine gate_callee (f := 10) rfl ?_); refine goesL_ (some 38) rfl rfl Try.func10 (by kernel_rfl) rfl #[.slice Ao34 t320.length co34, .slice Ao35 t311.length co35] rfl (by (try simp only [List.map_toArray, List.map_cons, List.map_nil]); first | done | rfl | (simp only [List.length_drop, List.length_take]; rfl)) ?_; (with_reducible refine (laws_eqIntS.calls k _ _ t320 _ _ t311 true _ ?side1 ?side2 ?side3 ?side4 A13.out).mono ?_); (case side1 => repeat (first | exact (Kd.R_reads' HO322.out).2.2 | (with_reducible refine Kd.C_alloc ?_ _) | (with_reducible refine Kd.C_drewN ?_ _) | (with_reducible refine Kd.C_drew ?_))); (case side2 => exact (Kd.R_reads' HO322.out).2.1); (case side3 => repeat (first | exact (Kd.R_reads' HO313.out).2.2 | (with_reducible refine Kd.C_alloc ?_ _) | (with_reducible refine Kd.C_drewN ?_ _) | (with_reducible refine Kd.C_drew ?_))); (case side4 => exact (Kd.R_reads' HO313.out).2.1); rintro e w' ⟨rfl, ⟨nd, rfl⟩⟩; refine ⟨_, rfl, ?_⟩) | ((with_reducible refine gate_callee (f := 13) rfl ?_); refine goesL_ (some 42) rfl rfl Try.func13 (by kernel_rfl) rfl #[.slice A0 l0.length c0] rfl (by (try simp only [List.map_toArray, List.map_cons, List.map_nil]); first | done | rfl | (simp only [List.length_drop, List.length_take]; rfl)) ?_; (with_reducible refine (laws_toBlockS.calls k _ _ l0 t324 _ ?side1 ?side2 A15.out).mono ?_); (case side1 => repeat (first | exact (Kd.C_below HR0.out (by repeat (first | (with_reducible first | exact HB.out | apply below_alloc | apply pw_below_drewN | apply below_drew1) | exact HB.out))) | (with_reducible refine Kd.C_alloc ?_ _) | (with_reducible refine Kd.C_drewN ?_ _) | (with_reducible refine Kd.C_drew ?_))); (case side2 => exact HC0.out); rintro e w36 ⟨v325, rfl, ho0, hb⟩; refine ⟨_, rfl, ?_⟩; have n0_ := Aside0.mk (Kd.R_elder' (by (with_reducible repeat (first | apply Kd.R_alloc | apply Kd.R_drewN | apply Kd.R_drew)); exact HO307.out) (Kd.R_base ho0) hb); have n1_ := Aside0.mk (Kd.S_below (by (with_reducible repeat (first | apply Kd.S_alloc | apply Kd.S_drewN | apply Kd.S_drew)); exact HO310.out) hb); have n2_ := Aside0.mk (Kd.R_below (by (with_reducible repeat (first | apply Kd.R_alloc | apply Kd.R_drewN | apply Kd.R_drew)); exact HO313.out) hb); have n3_ := Aside0.mk (Kd.R_elder' (by (with_reducible repeat (first | apply Kd.R_alloc | apply Kd.R_drewN | apply Kd.R_drew)); exact HO316.out) (Kd.R_base ho0) hb); have n4_ := Aside0.mk (Kd.S_below (by (with_reducible repeat (first | apply Kd.S_alloc | apply Kd.S_drewN | apply Kd.S_drew)); exact HO319.out) hb); have n5_ := Aside0.mk (Kd.R_below (by (with_reducible repeat (first | apply Kd.R_alloc | apply Kd.R_drewN | apply Kd.R_drew)); exact HO322.out) hb); have n6_ := Aside0.mk (Kd.R_lower (Kd.R_new' (Kd.R_new' ho0 (Kd.R_lt (by (with_reducible repeat (first | apply Kd.R_alloc | apply Kd.R_drewN | apply Kd.R_drew)); exact HO307.out))) (Kd.R_lt (by (with_reducible repeat (first | apply Kd.R_alloc | apply Kd.R_drewN | apply Kd.R_drew)); exact HO316.out))) (below_size (by repeat (first | (with_reducible first | exact HB.out | apply below_alloc | apply pw_below_drewN | apply below_drew1) | exact HB.out)))); have n7_ := Aside0.mk (below_step (by repeat (first | (with_reducible first | exact HB.out | apply below_alloc | apply pw_below_drewN | apply below_drew1) | exact HB.out)) hb); clear HO307; clear HO310; clear HO313; clear HO316; clear HO319; clear HO322; clear HB; have HO307 := n0_; have HO310 := n1_; have HO313 := n2_; have HO316 := n3_; have HO319 := n4_; have HO322 := n5_; have HO326 := n6_; have HB := n7_; clear n0_ n1_ n2_ n3_ n4_ n5_ n6_ n7_; (try clear hb); (try clear hb2); (try clear hk); (try clear hi); (try clear ho0); obtain ⟨Ao37, co37, eo37⟩ := Kd.R_slice HO326.out; subst eo37) | ((with_reducible refine gate_callee (f := 15) rfl ?_); refine goesL_ (some 43) rfl rfl Try.func15 (by kernel_rfl) rfl #[.slice Ao31 t314.length co31, .slice Ao37 t324.length co37] rfl (by (try simp only [List.map_toArray, List.map_cons, List.map_nil]); first | done | rfl | (simp only [List.length_drop, List.length_take]; rfl)) ?_; (with_reducible refine (laws_eqBlockS.calls k _ _ t314 _ _ t324 true _ ?side1 ?side2 ?side3 ?side4 A16.out).mono ?_); (case side1 => repeat (first | exact (Kd.R_reads' HO316.out).2.2 | (with_reducible refine Kd.C_alloc ?_ _) | (with_reducible refine Kd.C_drewN ?_ _) | (with_reducible refine Kd.C_drew ?_))); (case side2 => exact (Kd.R_reads' HO316.out).2.1); (case side3 => repeat (first | exact (Kd.R_reads' HO326.out).2.2 | (with_reducible refine Kd.C_alloc ?_ _) | (with_reducible refine Kd.C_drewN ?_ _) | (with_reducible refine Kd.C_drew ?_))); (case side4 => exact (Kd.R_reads' HO326.out).2.1); rintro e w38 ⟨rfl, hb⟩; refine ⟨_, rfl, ?_⟩; have n0_ := Aside0.mk (Kd.R_below (by (with_reducible repeat (first | apply Kd.R_alloc | apply Kd.R_drewN | apply Kd.R_drew)); exact HO307.out) hb); have n1_ := Aside0.mk (Kd.S_below (by (with_reducible repeat (first | apply Kd.S_alloc | apply Kd.S_drewN | apply Kd.S_drew)); exact HO310.out) hb); have n2_ := Aside0.mk (Kd.R_below (by (with_reducible repeat (first | apply Kd.R_alloc | apply Kd.R_drewN | apply Kd.R_drew)); exact HO313.out) hb); have n3_ := Aside0.mk (Kd.R_below (by (with_reducible repeat (first | apply Kd.R_alloc | apply Kd.R_drewN | apply Kd.R_drew)); exact HO316.out) hb); have n4_ := Aside0.mk (Kd.S_below (by (with_reducible repeat (first | apply Kd.S_alloc | apply Kd.S_drewN | apply Kd.S_drew)); exact HO319.out) hb); have n5_ := Aside0.mk (Kd.R_below (by (with_reducible repeat (first | apply Kd.R_alloc | apply Kd.R_drewN | apply Kd.R_drew)); exact HO322.out) hb); have n6_ := Aside0.mk (Kd.R_below (by (with_reducible repeat (first | apply Kd.R_alloc | apply Kd.R_drewN | apply Kd.R_drew)); exact HO326.out) hb); have n7_ := Aside0.mk (below_step (by repeat (first | (with_reducible first | exact HB.out | apply below_alloc | apply pw_below_drewN | apply below_drew1) | exact HB.out)) hb); clear HO307; clear HO310; clear HO313; clear HO316; clear HO319; clear HO322; clear HO326; clear HB; have HO307 := n0_; have HO310 := n1_; have HO313 := n2_; have HO316 := n3_; have HO319 := n4_; have HO322 := n5_; have HO326 := n6_; have HB := n7_; clear n0_ n1_ n2_ n3_ n4_ n5_ n6_ n7_; (try clear hb); (try clear hb2); (try clear hk); (try clear hi)) | ((with_reducible refine gate_callee (f := 21) rfl ?_); refine goesL_ (some 47) rfl rfl Try.func21 (by kernel_rfl) rfl #[.slice A1 l1.length c1] rfl (by (try simp only [List.map_toArray, List.map_cons, List.map_nil]); first | done | rfl | (simp only [List.length_drop, List.length_take]; rfl)) ?_; (with_reducible refine (laws_toIntSS.calls k _ _ l1 t328 _ ?side1 ?side2 A18.out).mono ?_); (case side1 => repeat (first | exact (Kd.C_below HR1.out HB.out) | (with_reducible refine Kd.C_alloc ?_ _) | (with_reducible refine Kd.C_drewN ?_ _) | (with_reducible refine Kd.C_drew ?_))); (case side2 => exact HC1.out); rintro e w39 ⟨v329, rfl, ho0, hb⟩; refine ⟨_, rfl, ?_⟩; have n0_ := Aside0.mk (Kd.R_below (by (with_reducible repeat (first | apply Kd.R_alloc | apply Kd.R_drewN | apply Kd.R_drew)); exact HO307.out) hb); have n1_ := Aside0.mk (Kd.S_elder' (by (with_reducible repeat (first | apply Kd.S_alloc | apply Kd.S_drewN | apply Kd.S_drew)); exact HO310.out) (Kd.S_base ho0) hb); have n2_ := Aside0.mk (Kd.R_below (by (with_reducible repeat (first | apply Kd.R_alloc | apply Kd.R_drewN | apply Kd.R_drew)); exact HO313.out) hb); have n3_ := Aside0.mk (Kd.R_below (by (with_reducible repeat (first | apply Kd.R_alloc | apply Kd.R_drewN | apply Kd.R_drew)); exact HO316.out) hb); have n4_ := Aside0.mk (Kd.S_elder' (by (with_reducible repeat (first | apply Kd.S_alloc | apply Kd.S_drewN | apply Kd.S_drew)); exact HO319.out) (Kd.S_base ho0) hb); have n5_ := Aside0.mk (Kd.R_below (by (with_reducible repeat (first | apply Kd.R_alloc | apply Kd.R_drewN | apply Kd.R_drew)); exact HO322.out) hb); have n6_ := Aside0.mk (Kd.R_below (by (with_reducible repeat (first | apply Kd.R_alloc | apply Kd.R_drewN | apply Kd.R_drew)); exact HO326.out) hb); have n7_ := Aside0.mk (Kd.S_lower (Kd.S_new' (Kd.S_new' (Kd.S_new' (Kd.S_new' ho0 (Kd.S_lt (by (with_reducible repeat (first | apply Kd.S_alloc | apply Kd.S_drewN | apply Kd.S_drew)); exact HO310.out))) (Kd.R_lt (by (with_reducible repeat (first | apply Kd.R_alloc | apply Kd.R_drewN | apply Kd.R_drew)); exact HO313.out))) (Kd.S_lt (by (with_reducible repeat (first | apply Kd.S_alloc | apply Kd.S_drewN | apply Kd.S_drew)); exact HO319.out))) (Kd.R_lt (by (with_reducible repeat (first | apply Kd.R_alloc | apply Kd.R_drewN | apply Kd.R_drew)); exact HO322.out))) (below_size (by repeat (first | (with_reducible first | exact HB.out | apply below_alloc | apply pw_below_drewN | apply below_drew1) | exact HB.out)))); have n8_ := Aside0.mk (below_step (by repeat (first | (with_reducible first | exact HB.out | apply below_alloc | apply pw_below_drewN | apply below_drew1) | exact HB.out)) hb); clear HO307; clear HO310; clear HO313; clear HO316; clear HO319; clear HO322; clear HO326; clear HB; have HO307 := n0_; have HO310 := n1_; have HO313 := n2_; have HO316 := n3_; have HO319 := n4_; have HO322 := n5_; have HO326 := n6_; have HO330 := n7_; have HB := n8_; clear n0_ n1_ n2_ n3_ n4_ n5_ n6_ n7_ n8_; (try clear hb); (try clear hb2); (try clear hk); (try clear hi); (try clear ho0); obtain ⟨Ao40, co40, eo40⟩ := Kd.S_slice HO330.out; subst eo40) | ((with_reducible refine gate_callee (f := 23) rfl ?_); refine goesL_ (some 48) rfl rfl Try.func23 (by kernel_rfl) rfl #[.slice Ao32 t317.length co32, .slice Ao40 t328.length co40] rfl (by (try simp only [List.map_toArray, List.map_cons, List.map_nil]); first | done | rfl | (simp only [List.length_drop, List.length_take]; rfl)) ?_; (with_reducible refine (laws_eqIntSS.calls k _ _ t317 _ _ t328 true _ ?side1 ?side2 ?side3 ?side4 A19.out).mono ?_); (case side1 => repeat (first | exact (Kd.S_reads' HO319.out).2.2 | (with_reducible refine Kd.C_alloc ?_ _) | (with_reducible refine Kd.C_drewN ?_ _) | (with_reducible refine Kd.C_drew ?_))); (case side2 => exact (Kd.S_reads' HO319.out).2.1); (case side3 => repeat (first | exact (Kd.S_reads' HO330.out).2.2 | (with_reducible refine Kd.C_alloc ?_ _) | (with_reducible refine Kd.C_drewN ?_ _) | (with_reducible refine Kd.C_drew ?_))); (case side4 => exact (Kd.S_reads' HO330.out).2.1); rintro e w' ⟨rfl, ⟨nd, rfl⟩⟩; refine ⟨_, rfl, ?_⟩) | ((with_reducible refine gate_callee (f := 16) rfl ?_); refine goesL_ (some 52) rfl rfl Try.func16 (by kernel_rfl) rfl #[.slice Ao31 t314.length co31, .int .i64 1] rfl (by (try simp only [List.map_toArray, List.map_cons, List.map_nil]); first | done | rfl | (simp only [List.length_drop, List.length_take]; rfl)) ?_; (with_reducible refine (laws_markBlockS.calls k (fun k_ => some k_ = (.slice Ao31 t314.length co31 : Value).ownBlock) (.slice Ao31 t314.length co31) t314 1 t332 t333 w _ ?side1 ?side2 A21.out).mono ?_); (case side1 => repeat (first | (with_reducible first | exact HB.out | apply below_alloc | apply pw_below_drewN | apply below_drew1) | exact HB.out)); (case side2 => exact Kd.Q_tight rfl (Kd.Q_of_R (HO316.out))); rintro e w41 ⟨rfl, hy0, hb, hkp⟩; refine ⟨_, rfl, ?_⟩; have n0_ := Aside0.mk (Kd.R_mono (ok' := fun k_ => some k_ ≠ (.slice Ao31 t314.length co31 : Value).ownBlock ∧ some k_ ≠ (.slice Ao37 t324.length co37 : Value).ownBlock) (Kd.R_keptB (HO307.out) hkp (fun k_ hk_ hs_ => (hk_.1.2) hs_)) (fun k_ hk_ => ⟨hk_.1.1.2, hk_.1.2⟩)); have n1_ := Aside0.mk (Kd.S_mono (ok' := fun k_ => some k_ ≠ (.slice Ao35 t311.length co35 : Value).ownBlock ∧ some k_ ≠ (.slice Ao32 t317.length co32 : Value).ownBlock ∧ some k_ ≠ (.slice Ao34 t320.length co34 : Value).ownBlock ∧ some k_ ≠ (.slice Ao40 t328.length co40 : Value).ownBlock) (Kd.S_keptB ((Kd.S_apart' HO310.out (Kd.R_typed HO316.out) (by decide))) hkp (fun k_ hk_ hs_ => (hk_.2) hs_)) (fun k_ hk_ => ⟨hk_.1.1.1.1.1.2, hk_.1.1.1.1.2, hk_.1.1.1.2, hk_.1.1.2⟩)); have n2_ := Aside0.mk (Kd.R_mono (ok' := fun k_ => some k_ ≠ (.slice Ao34 t320.length co34 : Value).ownBlock) (Kd.R_keptB ((Kd.R_apart' HO313.out (Kd.R_typed HO316.out) (by decide))) hkp (fun k_ hk_ hs_ => (hk_.2) hs_)) (fun k_ hk_ => hk_.1.1.2)); have n3_ := Aside0.mk (Kd.Q_reok rfl hy0 (fun k_ e_ => HO316.out.1 k_ e_)); have n4_ := Aside0.mk (Kd.S_mono (ok' := fun k_ => some k_ ≠ (.slice Ao27 t308.length co27 : Value).ownBlock ∧ some k_ ≠ (.slice Ao35 t311.length co35 : Value).ownBlock ∧ some k_ ≠ (.slice Ao34 t320.length co34 : Value).ownBlock ∧ some k_ ≠ (.slice Ao40 t328.length co40 : Value).ownBlock) (Kd.S_keptB ((Kd.S_apart' HO319.out (Kd.R_typed HO316.out) (by decide))) hkp (fun k_ hk_ hs_ => (hk_.2) hs_)) (fun k_ hk_ => ⟨hk_.1.1.1.1.1.2, hk_.1.1.1.1.2, hk_.1.1.1.2, hk_.1.1.2⟩)); have n5_ := Aside0.mk (Kd.R_mono (ok' := fun k_ => some k_ ≠ (.slice Ao35 t311.length co35 : Value).ownBlock) (Kd.R_keptB ((Kd.R_apart' HO322.out (Kd.R_typed HO316.out) (by decide))) hkp (fun k_ hk_ hs_ => (hk_.2) hs_)) (fun k_ hk_ => hk_.1.1.2)); have n6_ := Aside0.mk (Kd.R_mono (ok' := fun k_ => some k_ ≠ (.slice Ao26 t305.length co26 : Value).ownBlock ∧ some k_ ≠ (.slice Ao31 t314.length co31 : Value).ownBlock) (Kd.R_keptB (HO326.out) hkp (fun k_ hk_ hs_ => (hk_.2) hs_)) (fun k_ hk_ => ⟨hk_.1.1.2, hk_.1.2⟩)); have n7_ := Aside0.mk (Kd.S_mono (ok' := fun k_ => some k_ ≠ (.slice Ao27 t308.length co27 : Value).ownBlock ∧ some k_ ≠ (.slice Ao35 t311.length co35 : Value).ownBlock ∧ some k_ ≠ (.slice Ao32 t317.length co32 : Value).ownBlock ∧ some k_ ≠ (.slice Ao34 t320.length co34 : Value).ownBlock) (Kd.S_keptB ((Kd.S_apart' HO330.out (Kd.R_typed HO316.out) (by decide))) hkp (fun k_ hk_ hs_ => (hk_.2) hs_)) (fun k_ hk_ => ⟨hk_.1.1.1.1.1.2, hk_.1.1.1.1.2, hk_.1.1.1.2, hk_.1.1.2⟩)); have n8_ := Aside0.mk (hb); clear HO307; clear HO310; clear HO313; clear HO316; clear HO319; clear HO322; clear HO326; clear HO330; clear HB; have HO307 := n0_; have HO310 := n1_; have HO313 := n2_; have HO316 := n3_; have HO319 := n4_; have HO322 := n5_; have HO326 := n6_; have HO330 := n7_; have HB := n8_; clear n0_ n1_ n2_ n3_ n4_ n5_ n6_ n7_ n8_; (try clear hb); (try clear hkp); (try clear hy0)) | ((with_reducible refine gate_callee (f := 24) rfl ?_); refine goesL_ (some 55) rfl rfl Try.func24 (by kernel_rfl) rfl #[.slice Ao32 t317.length co32, .int .i64 t332] rfl (by (try simp only [List.map_toArray, List.map_cons, List.map_nil]); first | done | rfl | (simp only [List.length_drop, List.length_take]; rfl)) ?_; (with_reducible refine (laws_markIntSS.calls k ?P0_ (.slice Ao32 t317.length co32) t317 t332 t334 w _ ?side1 ?side2 A22.out).mono ?_); (case side1 => repeat (first | (with_reducible first | exact HB.out | apply below_alloc | apply pw_below_drewN | apply below_drew1) | exact HB.out)); (case side2 => exact HO319.out); rintro e w42 ⟨rfl, hb, hkp⟩; refine ⟨_, rfl, ?_⟩; have n0_ := Aside0.mk (Kd.R_mono (ok' := fun k_ => some k_ ≠ (.slice Ao31 t314.length co31 : Value).ownBlock ∧ some k_ ≠ (.slice Ao37 t324.length co37 : Value).ownBlock) (Kd.R_keptB ((laws_markIntSS.apartR HO307.out (by decide))) hkp (fun k_ hk_ hs_ => (hk_.2) hs_.2)) (fun k_ hk_ => ⟨hk_.1.1.1, hk_.1.1.2⟩)); have n2_ := Aside0.mk (Kd.R_mono (ok' := fun k_ => some k_ ≠ (.slice Ao34 t320.length co34 : Value).ownBlock) (Kd.R_keptB ((laws_markIntSS.apartE HO313.out)) hkp (fun k_ hk_ hs_ => by first | exact hs_.1.1 hk_.2 | exact hs_.1.2.1 hk_.2 | exact hs_.1.2.2.1 hk_.2 | exact hs_.1.2.2.2 hk_.2)) (fun k_ hk_ => hk_.1.1)); have n3_ := Aside0.mk (Kd.Q_mono (ok' := fun k_ => some k_ ≠ (.slice Ao26 t305.length co26 : Value).ownBlock ∧ some k_ ≠ (.slice Ao37 t324.length co37 : Value).ownBlock) (Kd.Q_keptB ((laws_markIntSS.apartQ HO316.out (by decide))) hkp (fun k_ hk_ hs_ => (hk_.2) hs_.2)) (fun k_ hk_ => ⟨hk_.1.1.1.2, hk_.1.1.2⟩)); have n4_ := Aside0.mk (Kd.R_mono (ok' := fun k_ => some k_ ≠ (.slice Ao35 t311.length co35 : Value).ownBlock) (Kd.R_keptB ((laws_markIntSS.apartE HO322.out)) hkp (fun k_ hk_ hs_ => by first | exact hs_.1.1 hk_.2 | exact hs_.1.2.1 hk_.2 | exact hs_.1.2.2.1 hk_.2 | exact hs_.1.2.2.2 hk_.2)) (fun k_ hk_ => hk_.1.1)); have n5_ := Aside0.mk (Kd.R_mono (ok' := fun k_ => some k_ ≠ (.slice Ao26 t305.length co26 : Value).ownBlock ∧ some k_ ≠ (.slice Ao31 t314.length co31 : Value).ownBlock) (Kd.R_keptB ((laws_markIntSS.apartR HO326.out (by decide))) hkp (fun k_ hk_ hs_ => (hk_.2) hs_.2)) (fun k_ hk_ => ⟨hk_.1.1.1, hk_.1.1.2⟩)); have n7_ := Aside0.mk (hb); clear HO307; clear HO310; clear HO313; clear HO316; clear HO322; clear HO326; clear HO330; clear HB; clear HO319; have HO307 := n0_; have HO313 := n2_; have HO316 := n3_; have HO322 := n4_; have HO326 := n5_; have HB := n7_; clear n0_ n2_ n3_ n4_ n5_ n7_; (try clear hb); (try clear hkp)))
            (try simp only [Act.put, List.setIfInBounds_toArray, List.set_cons_zero, List.set_cons_succ])
            go_cut [63] (fun v63 wc => ∃ (kq : Nat) (x63_22 : Bool), v63 = .bool x63_22 ∧ Aside0 (laws_FnExactRunDiagram.j0 kq l0 l1 t311 t320 x63_22 = some r) ∧ Aside0 (kq ≤ k) ∧ Aside0 (Kd.R (Kd.int .i64) 3 wc w.heap.size (fun k_ => some k_ ≠ ((.slice Ao34 t320.length co34) : Value).ownBlock) (.slice Ao35 t311.length co35) t311) ∧ Aside0 (Kd.R (Kd.int .i64) 3 wc w.heap.size (fun k_ => some k_ ≠ ((.slice Ao35 t311.length co35) : Value).ownBlock) (.slice Ao34 t320.length co34) t320) ∧ Aside0 (Below w.heap.size w wc))
            case first =>
              have H := HC23.out
              clear HC23
              by_cases c43 : t334 < 0
              · rw [if_pos c43] at H
                have c43b0 : decide (t334 < 0) = true := decide_eq_true c43
                clear c43
                (first | rw [c43b0] | (simp only [i64_w, i32_w]; rw [c43b0]) | skip)
                have H' := Aside0.mk H
                clear H
                go_wp2
                go_meet
                case rel => exact ⟨_, (true), (by first | rfl | (simp; done) | (simp [*]; done)), H', ⟨by first | omega | exact Nat.le_refl _⟩, ⟨by (with_reducible repeat (first | apply Kd.R_alloc | apply Kd.R_drewN | apply Kd.R_drew)); exact HO313.out⟩, ⟨by (with_reducible repeat (first | apply Kd.R_alloc | apply Kd.R_drewN | apply Kd.R_drew)); exact HO322.out⟩, ⟨by repeat (first | (with_reducible first | exact HB.out | apply below_alloc | apply pw_below_drewN | apply below_drew1) | exact HB.out)⟩⟩
              · rw [if_neg c43] at H
                have c43b0 : decide (t334 < 0) = false := decide_eq_false c43
                clear c43
                (first | rw [c43b0] | (simp only [i64_w, i32_w]; rw [c43b0]) | skip)
                replace H := Option.bind_eq_some_iff.mp H
                obtain ⟨t335, A440, H⟩ := H
                replace H : (laws_FnExactRunDiagram.j0 k l0 l1 t311 t320 (!t335)) = some r := H
                have A44 := Aside0.mk A440
                clear A440
                have H' := Aside0.mk H
                clear H
                go_wp2_with (first | (go_at_call 10; (with_reducible refine (laws_eqIntS.calls k _ _ t320 _ _ t311 t335 _ ?side1 ?side2 ?side3 ?side4 A44.out).mono ?_); (case side1 => repeat (first | exact (Kd.R_reads' HO322.out).2.2 | (with_reducible refine Kd.C_alloc ?_ _) | (with_reducible refine Kd.C_drewN ?_ _) | (with_reducible refine Kd.C_drew ?_))); (case side2 => exact (Kd.R_reads' HO322.out).2.1); (case side3 => repeat (first | exact (Kd.R_reads' HO313.out).2.2 | (with_reducible refine Kd.C_alloc ?_ _) | (with_reducible refine Kd.C_drewN ?_ _) | (with_reducible refine Kd.C_drew ?_))); (case side4 => exact (Kd.R_reads' HO313.out).2.1); rintro e w' ⟨rfl, ⟨nd, rfl⟩⟩))
                go_meet
                case rel => exact ⟨_, (!t335), (by first | rfl | (simp; done) | (simp [*]; done)), H', ⟨by first | omega | exact Nat.le_refl _⟩, ⟨by (with_reducible repeat (first | apply Kd.R_alloc | apply Kd.R_drewN | apply Kd.R_drew)); exact HO313.out⟩, ⟨by (with_reducible repeat (first | apply Kd.R_alloc | apply Kd.R_drewN | apply Kd.R_drew)); exact HO322.out⟩, ⟨by repeat (first | (with_reducible first | exact HB.out | apply below_alloc | apply pw_below_drewN | apply below_drew1) | exact HB.out)⟩⟩
            case rest =>
              clear HC23
              try clear c1
              try clear c2
              try clear p2
              try clear c4
              try clear c4b0
              try clear c5
              try clear c6
              try clear c6b0
              try clear c10
              try clear c11
              try clear c13
              try clear c14
              try clear c15
              try clear c16
              try clear c17
              try clear c19
              try clear c20
              try clear c21
              try clear c22
              try clear c23
              try clear c24
              try clear c43
              try clear c43b0
              obtain ⟨kq, x63_22, rfl, HA, HJ22, HO_6, HO_9, HB⟩ := hcut
              cases kq with
              | zero => exact absurd HA.out (by simp [laws_FnExactRunDiagram.j0])
              | succ kj22 =>
                have H := HA.out
                clear HA
                simp only [laws_FnExactRunDiagram.j0] at H
                by_cases c45 : x63_22 = true
                · subst c45
                  have H1 : (none) = some r := by rw [if_pos rfl] at H; exact H
                  clear H
                  have H := H1
                  clear H1
                  exact absurd H (by simp)
                · replace c45 := Bool.eq_false_iff.mpr c45
                  subst c45
                  have H1 : ((laws_markIntS.f kj22 t320 1).bind fun bt336 => ((laws_heldIntS.f kj22 bt336.2 1).bind fun t338 => (if t338 < 0 then (none) else (if t338 = bt336.1 then ((laws_toBlockS.f kj22 l0).bind fun t339 => ((laws_toIntSS.f kj22 l1).bind fun t342 => ((impl_RunDiagram.f kj22 t339 t342).bind fun t345 => ((laws_eqIntS.f kj22 t345 t311).bind fun t348 => (if t348 = true then ((laws_heldIntS.f kj22 bt336.2 1).bind fun t349 => (if t349 < 0 then (none) else (if t349 = bt336.1 then (some true) else (none)))) else (none)))))) else (none))))) = some r := by rw [if_neg (show ¬ (false = true) by decide)] at H; exact H
                  clear H
                  have H := H1
                  clear H1
                  replace H := Option.bind_eq_some_iff.mp H
                  obtain ⟨⟨t336, t337⟩, A460, H⟩ := H
                  replace H : ((laws_heldIntS.f kj22 t337 1).bind fun t338 => (if t338 < 0 then (none) else (if t338 = t336 then ((laws_toBlockS.f kj22 l0).bind fun t339 => ((laws_toIntSS.f kj22 l1).bind fun t342 => ((impl_RunDiagram.f kj22 t339 t342).bind fun t345 => ((laws_eqIntS.f kj22 t345 t311).bind fun t348 => (if t348 = true then ((laws_heldIntS.f kj22 t337 1).bind fun t349 => (if t349 < 0 then (none) else (if t349 = t336 then (some true) else (none)))) else (none)))))) else (none)))) = some r := H
                  have A46 := Aside0.mk A460
                  clear A460
                  replace H := Option.bind_eq_some_iff.mp H
                  obtain ⟨t338, A470, H⟩ := H
                  replace H : (if t338 < 0 then (none) else (if t338 = t336 then ((laws_toBlockS.f kj22 l0).bind fun t339 => ((laws_toIntSS.f kj22 l1).bind fun t342 => ((impl_RunDiagram.f kj22 t339 t342).bind fun t345 => ((laws_eqIntS.f kj22 t345 t311).bind fun t348 => (if t348 = true then ((laws_heldIntS.f kj22 t337 1).bind fun t349 => (if t349 < 0 then (none) else (if t349 = t336 then (some true) else (none)))) else (none)))))) else (none))) = some r := H
                  have A47 := Aside0.mk A470
                  clear A470
                  by_cases c48 : t338 < 0
                  · rw [if_pos c48] at H
                    exact absurd H (by simp)
                  · rw [if_neg c48] at H
                    have c48b0 : decide (t338 < 0) = false := decide_eq_false c48
                    clear c48
                    by_cases c49 : t338 = t336
                    · rw [if_pos c49] at H
                      have c49b0 : (t338 == t336) = true := beq_iff_eq.mpr c49
                      have c49b1 : (t338 != t336) = false := bne_eq_false_iff_eq.mpr c49
                      clear c49
                      replace H := Option.bind_eq_some_iff.mp H
                      obtain ⟨t339, A500, H⟩ := H
                      replace H : ((laws_toIntSS.f kj22 l1).bind fun t342 => ((impl_RunDiagram.f kj22 t339 t342).bind fun t345 => ((laws_eqIntS.f kj22 t345 t311).bind fun t348 => (if t348 = true then ((laws_heldIntS.f kj22 t337 1).bind fun t349 => (if t349 < 0 then (none) else (if t349 = t336 then (some true) else (none)))) else (none))))) = some r := H
                      have A50 := Aside0.mk A500
                      clear A500
                      replace H := Option.bind_eq_some_iff.mp H
                      obtain ⟨t342, A510, H⟩ := H
                      replace H : ((impl_RunDiagram.f kj22 t339 t342).bind fun t345 => ((laws_eqIntS.f kj22 t345 t311).bind fun t348 => (if t348 = true then ((laws_heldIntS.f kj22 t337 1).bind fun t349 => (if t349 < 0 then (none) else (if t349 = t336 then (some true) else (none)))) else (none)))) = some r := H
                      have A51 := Aside0.mk A510
                      clear A510
                      replace H := Option.bind_eq_some_iff.mp H
                      obtain ⟨t345, A520, H⟩ := H
                      replace H : ((laws_eqIntS.f kj22 t345 t311).bind fun t348 => (if t348 = true then ((laws_heldIntS.f kj22 t337 1).bind fun t349 => (if t349 < 0 then (none) else (if t349 = t336 then (some true) else (none)))) else (none))) = some r := H
                      have A52 := Aside0.mk A520
                      clear A520
                      replace H := Option.bind_eq_some_iff.mp H
                      obtain ⟨t348, A530, H⟩ := H
                      replace H : (if t348 = true then ((laws_heldIntS.f kj22 t337 1).bind fun t349 => (if t349 < 0 then (none) else (if t349 = t336 then (some true) else (none)))) else (none)) = some r := H
                      have A53 := Aside0.mk A530
                      clear A530
                      by_cases c54 : t348 = true
                      · subst c54
                        have H1 : ((laws_heldIntS.f kj22 t337 1).bind fun t349 => (if t349 < 0 then (none) else (if t349 = t336 then (some true) else (none)))) = some r := by rw [if_pos rfl] at H; exact H
                        clear H
                        have H := H1
                        clear H1
                        replace H := Option.bind_eq_some_iff.mp H
                        obtain ⟨t349, A550, H⟩ := H
                        replace H : (if t349 < 0 then (none) else (if t349 = t336 then (some true) else (none))) = some r := H
                        have A55 := Aside0.mk A550
                        clear A550
                        by_cases c56 : t349 < 0
                        · rw [if_pos c56] at H
                          exact absurd H (by simp)
                        · rw [if_neg c56] at H
                          have c56b0 : decide (t349 < 0) = false := decide_eq_false c56
                          clear c56
                          by_cases c57 : t349 = t336
                          · rw [if_pos c57] at H
                            have c57b0 : (t349 == t336) = true := beq_iff_eq.mpr c57
                            have c57b1 : (t349 != t336) = false := bne_eq_false_iff_eq.mpr c57
                            clear c57
                            obtain rfl := Option.some.inj H
                            go_wp2_with (first | ((with_reducible refine gate_callee (f := 17) rfl ?_); refine goesL_ (some 66) rfl rfl Try.func17 (by kernel_rfl) rfl #[.slice Ao34 t320.length co34, .int .i64 1] rfl (by (try simp only [List.map_toArray, List.map_cons, List.map_nil]); first | done | rfl | (simp only [List.length_drop, List.length_take]; rfl)) ?_; (with_reducible refine (laws_markIntS.calls kj22 (fun k_ => some k_ = (.slice Ao34 t320.length co34 : Value).ownBlock) (.slice Ao34 t320.length co34) t320 1 t336 t337 w _ ?side1 ?side2 A46.out).mono ?_); (case side1 => repeat (first | (with_reducible first | exact HB.out | apply below_alloc | apply pw_below_drewN | apply below_drew1) | exact HB.out)); (case side2 => exact Kd.Q_tight rfl (Kd.Q_of_R (HO_9.out))); rintro e w58 ⟨rfl, hy0, hb, hkp⟩; refine ⟨_, rfl, ?_⟩; have n0_ := Aside0.mk (Kd.R_mono (ok' := fun k_ => some k_ ≠ (.slice Ao34 t320.length co34 : Value).ownBlock) (Kd.R_keptB (HO_6.out) hkp (fun k_ hk_ hs_ => (hk_) hs_)) (fun k_ hk_ => hk_.1)); have n1_ := Aside0.mk (Kd.Q_reok rfl hy0 (fun k_ e_ => HO_9.out.1 k_ e_)); have n2_ := Aside0.mk (hb); clear HO_6; clear HO_9; clear HB; have HO_6 := n0_; have HO_9 := n1_; have HB := n2_; clear n0_ n1_ n2_; (try clear hb); (try clear hkp); (try clear hy0)) | ((with_reducible refine gate_callee (f := 18) rfl ?_); refine goesL_ (some 69) rfl rfl Try.func18 (by kernel_rfl) rfl #[.slice Ao34 t337.length co34, .int .i64 1] rfl (by (try simp only [List.map_toArray, List.map_cons, List.map_nil]); first | done | (rw [show t337.length = t320.length from (Kd.Q_reads' HO_9.out).1.symm] <;> rfl) | rfl | (simp only [List.length_drop, List.length_take]; rfl)) ?_; (with_reducible refine (laws_heldIntS.calls kj22 _ _ t337 1 t338 _ ?side1 ?side2 A47.out).mono ?_); (case side1 => repeat (first | exact (Kd.Q_reads' HO_9.out).2.2 | (with_reducible refine Kd.C_alloc ?_ _) | (with_reducible refine Kd.C_drewN ?_ _) | (with_reducible refine Kd.C_drew ?_))); (case side2 => rw [show t337.length = t320.length from (Kd.Q_reads' HO_9.out).1.symm]; exact (Kd.Q_reads' HO_9.out).2.1); rintro e w' ⟨rfl, ⟨nd, rfl⟩⟩; refine ⟨_, rfl, ?_⟩) | ((with_reducible refine gate_callee (f := 13) rfl ?_); refine goesL_ (some 76) rfl rfl Try.func13 (by kernel_rfl) rfl #[.slice A0 l0.length c0] rfl (by (try simp only [List.map_toArray, List.map_cons, List.map_nil]); first | done | rfl | (simp only [List.length_drop, List.length_take]; rfl)) ?_; (with_reducible refine (laws_toBlockS.calls kj22 _ _ l0 t339 _ ?side1 ?side2 A50.out).mono ?_); (case side1 => repeat (first | exact (Kd.C_below HR0.out (by repeat (first | (with_reducible first | exact HB.out | apply below_alloc | apply pw_below_drewN | apply below_drew1) | exact HB.out))) | (with_reducible refine Kd.C_alloc ?_ _) | (with_reducible refine Kd.C_drewN ?_ _) | (with_reducible refine Kd.C_drew ?_))); (case side2 => exact HC0.out); rintro e w59 ⟨v340, rfl, ho0, hb⟩; refine ⟨_, rfl, ?_⟩; have n0_ := Aside0.mk (Kd.R_below (by (with_reducible repeat (first | apply Kd.R_alloc | apply Kd.R_drewN | apply Kd.R_drew)); exact HO_6.out) hb); have n1_ := Aside0.mk (Kd.Q_below (by (with_reducible repeat (first | apply Kd.Q_alloc | apply Kd.Q_drewN | apply Kd.Q_drew)); exact HO_9.out) hb); have n2_ := Aside0.mk (Kd.R_lower ho0 (below_size (by repeat (first | (with_reducible first | exact HB.out | apply below_alloc | apply pw_below_drewN | apply below_drew1) | exact HB.out)))); have n3_ := Aside0.mk (below_step (by repeat (first | (with_reducible first | exact HB.out | apply below_alloc | apply pw_below_drewN | apply below_drew1) | exact HB.out)) hb); clear HO_6; clear HO_9; clear HB; have HO_6 := n0_; have HO_9 := n1_; have HO341 := n2_; have HB := n3_; clear n0_ n1_ n2_ n3_; (try clear hb); (try clear hb2); (try clear hk); (try clear hi); (try clear ho0)) | ((with_reducible refine gate_callee (f := 21) rfl ?_); refine goesL_ (some 78) rfl rfl Try.func21 (by kernel_rfl) rfl #[.slice A1 l1.length c1] rfl (by (try simp only [List.map_toArray, List.map_cons, List.map_nil]); first | done | rfl | (simp only [List.length_drop, List.length_take]; rfl)) ?_; (with_reducible refine (laws_toIntSS.calls kj22 _ _ l1 t342 _ ?side1 ?side2 A51.out).mono ?_); (case side1 => repeat (first | exact (Kd.C_below HR1.out HB.out) | (with_reducible refine Kd.C_alloc ?_ _) | (with_reducible refine Kd.C_drewN ?_ _) | (with_reducible refine Kd.C_drew ?_))); (case side2 => exact HC1.out); rintro e w60 ⟨v343, rfl, ho0, hb⟩; refine ⟨_, rfl, ?_⟩; have n0_ := Aside0.mk (Kd.R_below (by (with_reducible repeat (first | apply Kd.R_alloc | apply Kd.R_drewN | apply Kd.R_drew)); exact HO_6.out) hb); have n1_ := Aside0.mk (Kd.Q_below (by (with_reducible repeat (first | apply Kd.Q_alloc | apply Kd.Q_drewN | apply Kd.Q_drew)); exact HO_9.out) hb); have n2_ := Aside0.mk (Kd.R_below (by (with_reducible repeat (first | apply Kd.R_alloc | apply Kd.R_drewN | apply Kd.R_drew)); exact HO341.out) hb); have n3_ := Aside0.mk (Kd.S_lower (Kd.S_new' (Kd.S_new' ho0 (Kd.R_lt (by (with_reducible repeat (first | apply Kd.R_alloc | apply Kd.R_drewN | apply Kd.R_drew)); exact HO_6.out))) (Kd.Q_lt (by (with_reducible repeat (first | apply Kd.Q_alloc | apply Kd.Q_drewN | apply Kd.Q_drew)); exact HO_9.out))) (below_size (by repeat (first | (with_reducible first | exact HB.out | apply below_alloc | apply pw_below_drewN | apply below_drew1) | exact HB.out)))); have n4_ := Aside0.mk (below_step (by repeat (first | (with_reducible first | exact HB.out | apply below_alloc | apply pw_below_drewN | apply below_drew1) | exact HB.out)) hb); clear HO_6; clear HO_9; clear HO341; clear HB; have HO_6 := n0_; have HO_9 := n1_; have HO341 := n2_; have HO344 := n3_; have HB := n4_; clear n0_ n1_ n2_ n3_ n4_; (try clear hb); (try clear hb2); (try clear hk); (try clear hi); (try clear ho0); obtain ⟨Ao61, co61, eo61⟩ := Kd.R_slice HO341.out; subst eo61; obtain ⟨Ao62, co62, eo62⟩ := Kd.S_slice HO344.out; subst eo62) | ((with_reducible refine gate_callee (f := 22) rfl ?_); refine goesL_ (some 79) rfl rfl Try.func22 (by kernel_rfl) rfl #[.slice Ao61 t339.length co61, .slice Ao62 t342.length co62] rfl (by (try simp only [List.map_toArray, List.map_cons, List.map_nil]); first | done | rfl | (simp only [List.length_drop, List.length_take]; rfl)) ?_; (with_reducible refine (impl_RunDiagram.calls kj22 _ _ t339 _ _ t342 t345 _ ?side1 ?side2 ?side3 ?side4 A52.out).mono ?_); (case side1 => repeat (first | exact (Kd.R_reads' HO341.out).2.2 | (with_reducible refine Kd.C_alloc ?_ _) | (with_reducible refine Kd.C_drewN ?_ _) | (with_reducible refine Kd.C_drew ?_))); (case side2 => exact (Kd.R_reads' HO341.out).2.1); (case side3 => repeat (first | exact (Kd.S_reads' HO344.out).2.2 | (with_reducible refine Kd.C_alloc ?_ _) | (with_reducible refine Kd.C_drewN ?_ _) | (with_reducible refine Kd.C_drew ?_))); (case side4 => exact (Kd.S_reads' HO344.out).2.1); rintro e w63 ⟨v346, rfl, ho0, hb⟩; refine ⟨_, rfl, ?_⟩; have n0_ := Aside0.mk (Kd.R_elder' (by (with_reducible repeat (first | apply Kd.R_alloc | apply Kd.R_drewN | apply Kd.R_drew)); exact HO_6.out) (Kd.R_base ho0) hb); have n1_ := Aside0.mk (Kd.Q_elder' (by (with_reducible repeat (first | apply Kd.Q_alloc | apply Kd.Q_drewN | apply Kd.Q_drew)); exact HO_9.out) (Kd.R_base ho0) hb); have n2_ := Aside0.mk (Kd.R_below (by (with_reducible repeat (first | apply Kd.R_alloc | apply Kd.R_drewN | apply Kd.R_drew)); exact HO341.out) hb); have n3_ := Aside0.mk (Kd.S_elder' (by (with_reducible repeat (first | apply Kd.S_alloc | apply Kd.S_drewN | apply Kd.S_drew)); exact HO344.out) (Kd.R_base ho0) hb); have n4_ := Aside0.mk (Kd.R_lower (Kd.R_new' (Kd.R_new' ho0 (Kd.R_lt (by (with_reducible repeat (first | apply Kd.R_alloc | apply Kd.R_drewN | apply Kd.R_drew)); exact HO_6.out))) (Kd.Q_lt (by (with_reducible repeat (first | apply Kd.Q_alloc | apply Kd.Q_drewN | apply Kd.Q_drew)); exact HO_9.out))) (below_size (by repeat (first | (with_reducible first | exact HB.out | apply below_alloc | apply pw_below_drewN | apply below_drew1) | exact HB.out)))); have n5_ := Aside0.mk (below_step (by repeat (first | (with_reducible first | exact HB.out | apply below_alloc | apply pw_below_drewN | apply below_drew1) | exact HB.out)) hb); clear HO_6; clear HO_9; clear HO341; clear HO344; clear HB; have HO_6 := n0_; have HO_9 := n1_; have HO341 := n2_; have HO344 := n3_; have HO347 := n4_; have HB := n5_; clear n0_ n1_ n2_ n3_ n4_ n5_; (try clear hb); (try clear hb2); (try clear hk); (try clear hi); (try clear ho0); obtain ⟨Ao64, co64, eo64⟩ := Kd.R_slice HO347.out; subst eo64) | ((with_reducible refine gate_callee (f := 10) rfl ?_); refine goesL_ (some 82) rfl rfl Try.func10 (by kernel_rfl) rfl #[.slice Ao64 t345.length co64, .slice Ao35 t311.length co35] rfl (by (try simp only [List.map_toArray, List.map_cons, List.map_nil]); first | done | rfl | (simp only [List.length_drop, List.length_take]; rfl)) ?_; (with_reducible refine (laws_eqIntS.calls kj22 _ _ t345 _ _ t311 true _ ?side1 ?side2 ?side3 ?side4 A53.out).mono ?_); (case side1 => repeat (first | exact (Kd.R_reads' HO347.out).2.2 | (with_reducible refine Kd.C_alloc ?_ _) | (with_reducible refine Kd.C_drewN ?_ _) | (with_reducible refine Kd.C_drew ?_))); (case side2 => exact (Kd.R_reads' HO347.out).2.1); (case side3 => repeat (first | exact (Kd.R_reads' HO_6.out).2.2 | (with_reducible refine Kd.C_alloc ?_ _) | (with_reducible refine Kd.C_drewN ?_ _) | (with_reducible refine Kd.C_drew ?_))); (case side4 => exact (Kd.R_reads' HO_6.out).2.1); rintro e w' ⟨rfl, ⟨nd, rfl⟩⟩; refine ⟨_, rfl, ?_⟩) | ((with_reducible refine gate_callee (f := 18) rfl ?_); refine goesL_ (some 86) rfl rfl Try.func18 (by kernel_rfl) rfl #[.slice Ao34 t337.length co34, .int .i64 1] rfl (by (try simp only [List.map_toArray, List.map_cons, List.map_nil]); first | done | (rw [show t337.length = t320.length from (Kd.Q_reads' HO_9.out).1.symm] <;> rfl) | rfl | (simp only [List.length_drop, List.length_take]; rfl)) ?_; (with_reducible refine (laws_heldIntS.calls kj22 _ _ t337 1 t349 _ ?side1 ?side2 A55.out).mono ?_); (case side1 => repeat (first | exact (Kd.Q_reads' HO_9.out).2.2 | (with_reducible refine Kd.C_alloc ?_ _) | (with_reducible refine Kd.C_drewN ?_ _) | (with_reducible refine Kd.C_drew ?_))); (case side2 => rw [show t337.length = t320.length from (Kd.Q_reads' HO_9.out).1.symm]; exact (Kd.Q_reads' HO_9.out).2.1); rintro e w' ⟨rfl, ⟨nd, rfl⟩⟩; refine ⟨_, rfl, ?_⟩))
                            go_ret
                            exact ⟨by first | rfl | (simp [errW_none, errW_some] <;> rfl) | (simp [*, errW_none, errW_some] <;> rfl), by repeat (first | (with_reducible first | exact HB.out | apply below_alloc | apply pw_below_drewN | apply below_drew1) | exact HB.out)⟩
                          · rw [if_neg c57] at H
                            exact absurd H (by simp)
                      · replace c54 := Bool.eq_false_iff.mpr c54
                        subst c54
                        have H1 : (none) = some r := by rw [if_neg (show ¬ (false = true) by decide)] at H; exact H
                        clear H
                        have H := H1
                        clear H1
                        exact absurd H (by simp)
                    · rw [if_neg c49] at H
                      exact absurd H (by simp)
          · replace c20 := Bool.eq_false_iff.mpr c20
            subst c20
            have H1 : (none) = some r := by rw [if_neg (show ¬ (false = true) by decide)] at H; exact H
            clear H
            have H := H1
            clear H1
            exact absurd H (by simp)
        · replace c17 := Bool.eq_false_iff.mpr c17
          subst c17
          have H1 : (none) = some r := by rw [if_neg (show ¬ (false = true) by decide)] at H; exact H
          clear H
          have H := H1
          clear H1
          exact absurd H (by simp)
      · replace c14 := Bool.eq_false_iff.mpr c14
        subst c14
        have H1 : (none) = some r := by rw [if_neg (show ¬ (false = true) by decide)] at H; exact H
        clear H
        have H := H1
        clear H1
        exact absurd H (by simp)

end Go.Proofs.Ytpefkclpnkefnaa.GFnExactRunDiagram

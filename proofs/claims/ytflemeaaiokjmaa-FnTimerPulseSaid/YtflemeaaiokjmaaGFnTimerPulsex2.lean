/- Functions of the program as Lean functions, with proofs that the machine comes to their answers; written by this session's program mkprint.py; no condition beyond each theorem's own. -/
import Derived.Test.YtflemeaaiokjmaaGFnTimerPulsex0
import Derived.Test.YtflemeaaiokjmaaGFnTimerPulsex1
namespace Go.Proofs.Ytflemeaaiokjmaa.GFnTimerPulse
open Go.RowKit Go.Proofs.YtflemeaaiokjmaaV.PrintWords Go.Proofs.YtflemeaaiokjmaaV.PrintLast Go.Proofs.YtflemeaaiokjmaaV.PrintMore
attribute [local go_sem] max2_int min2_int max_two min_two max_three min_three max_four min_four   -- for this text's walks alone
set_option linter.unusedVariables false
set_option linter.unusedSimpArgs false

/-! ### impl_RisingEdge: function 61 -/
def impl_RisingEdge.f (a0 : Bool) (a1 : Bool) : Option (Bool) := if a1 = true then (some (!a0)) else (some false)
set_option maxHeartbeats 8000000 in
set_option maxRecDepth 100000 in
theorem impl_RisingEdge.calls (a0 : Bool) (a1 : Bool) (r : Bool) (w : World) (h : impl_RisingEdge.f a0 a1 = some r) :
    Calls Try.prog 61 #[.bool a0, .bool a1] w fun e w' => e = .returned (.bool r) ∧ Drawn0 w w' := by
  have H : (if a1 = true then (some (!a0)) else (some false)) = some r := h
  clear h
  by_cases c3 : a1 = true
  · subst c3
    have H1 : (some (!a0)) = some r := by rw [if_pos rfl] at H; exact H
    clear H
    have H := H1
    clear H1
    obtain rfl := Option.some.inj H
    go_enter Try.func61, Try.ntmps61
    go_wp2
    go_ret
    exact ⟨by first | rfl | (simp; done) | (simp [*]; done), by repeat (first | exact Drawn0.refl _ | apply Drawn0.step)⟩
  · replace c3 := Bool.eq_false_iff.mpr c3
    subst c3
    have H1 : (some false) = some r := by rw [if_neg (show ¬ (false = true) by decide)] at H; exact H
    clear H
    have H := H1
    clear H1
    obtain rfl := Option.some.inj H
    go_enter Try.func61, Try.ntmps61
    go_wp2
    go_ret
    exact ⟨by first | rfl | (simp; done) | (simp [*]; done), by repeat (first | exact Drawn0.refl _ | apply Drawn0.step)⟩

/-! ### impl_Timer_step: function 72 -/
theorem impl_Timer_step.rise (a b : Bool) (w : World) : Calls Try.prog 61 #[.bool a, .bool b] w fun e w' => e = .returned (.bool (b && !a)) ∧ w = w' := by
  cases a <;> cases b <;> (go_enter Try.func61, Try.ntmps61; go_wp2; go_ret; exact ⟨rfl, rfl⟩)
set_option maxHeartbeats 2000000 in
set_option maxRecDepth 100000 in
theorem impl_Timer_step.c0 (k p e dt : Int) (i b o : Bool) (w : World) (hm : p < wrap64 (e + dt)) : Calls Try.prog 72 #[.agg #[.int .i64 1, .int .i64 p, .int .i64 e, .bool b, .bool o], .bool false, .int .i64 dt] w fun x w' => x = .returned (.agg #[.int .i64 1, .int .i64 p, .int .i64 (0), .bool false, .bool false]) ∧ Below w.heap.size w w' := by
  have hu := Try.underlying28
  go_enter Try.func72, Try.ntmps72
  go_wp2_with (go_at_call 61; refine (impl_Timer_step.rise _ _ _).mono ?_; rintro x w' ⟨rfl, rfl⟩)
  refine bodyPost_ret (v := .agg #[.int .i64 1, .int .i64 p, .int .i64 (0), .bool false, .bool false]) (by simp [results, Try.results72, go_sem]) rfl ⟨rfl, ?_⟩
  repeat (first | exact Below.refl _ _ | (refine Below.setCell ?_ (by simp) _) | (apply pw_below_drewN) | (apply below_drew1) | (refine below_alloc ?_ _))
set_option maxHeartbeats 2000000 in
set_option maxRecDepth 100000 in
theorem impl_Timer_step.c1 (k p e dt : Int) (i b o : Bool) (w : World) (hm : p < wrap64 (e + dt)) (hp : (0 == p) = true) : Calls Try.prog 72 #[.agg #[.int .i64 1, .int .i64 p, .int .i64 e, .bool false, .bool o], .bool true, .int .i64 dt] w fun x w' => x = .returned (.agg #[.int .i64 1, .int .i64 p, .int .i64 (0), .bool true, .bool true]) ∧ Below w.heap.size w w' := by
  have hu := Try.underlying28
  go_enter Try.func72, Try.ntmps72
  go_wp2_with (go_at_call 61; refine (impl_Timer_step.rise _ _ _).mono ?_; rintro x w' ⟨rfl, rfl⟩)
  refine bodyPost_ret (v := .agg #[.int .i64 1, .int .i64 p, .int .i64 (0), .bool true, .bool true]) (by simp [results, Try.results72, go_sem]) rfl ⟨rfl, ?_⟩
  repeat (first | exact Below.refl _ _ | (refine Below.setCell ?_ (by simp) _) | (apply pw_below_drewN) | (apply below_drew1) | (refine below_alloc ?_ _))
set_option maxHeartbeats 2000000 in
set_option maxRecDepth 100000 in
theorem impl_Timer_step.c2 (k p e dt : Int) (i b o : Bool) (w : World) (hm : p < wrap64 (e + dt)) (hp : (0 == p) = false) : Calls Try.prog 72 #[.agg #[.int .i64 1, .int .i64 p, .int .i64 e, .bool false, .bool o], .bool true, .int .i64 dt] w fun x w' => x = .returned (.agg #[.int .i64 1, .int .i64 p, .int .i64 (0), .bool true, .bool false]) ∧ Below w.heap.size w w' := by
  have hu := Try.underlying28
  go_enter Try.func72, Try.ntmps72
  go_wp2_with (go_at_call 61; refine (impl_Timer_step.rise _ _ _).mono ?_; rintro x w' ⟨rfl, rfl⟩)
  refine bodyPost_ret (v := .agg #[.int .i64 1, .int .i64 p, .int .i64 (0), .bool true, .bool false]) (by simp [results, Try.results72, go_sem]) rfl ⟨rfl, ?_⟩
  repeat (first | exact Below.refl _ _ | (refine Below.setCell ?_ (by simp) _) | (apply pw_below_drewN) | (apply below_drew1) | (refine below_alloc ?_ _))
set_option maxHeartbeats 2000000 in
set_option maxRecDepth 100000 in
theorem impl_Timer_step.c3 (k p e dt : Int) (i b o : Bool) (w : World) (hm : p < wrap64 (e + dt)) : Calls Try.prog 72 #[.agg #[.int .i64 2, .int .i64 p, .int .i64 e, .bool b, .bool o], .bool true, .int .i64 dt] w fun x w' => x = .returned (.agg #[.int .i64 2, .int .i64 p, .int .i64 (0), .bool true, .bool true]) ∧ Below w.heap.size w w' := by
  have hu := Try.underlying28
  go_enter Try.func72, Try.ntmps72
  go_wp2_with (go_at_call 61; refine (impl_Timer_step.rise _ _ _).mono ?_; rintro x w' ⟨rfl, rfl⟩)
  refine bodyPost_ret (v := .agg #[.int .i64 2, .int .i64 p, .int .i64 (0), .bool true, .bool true]) (by simp [results, Try.results72, go_sem]) rfl ⟨rfl, ?_⟩
  repeat (first | exact Below.refl _ _ | (refine Below.setCell ?_ (by simp) _) | (apply pw_below_drewN) | (apply below_drew1) | (refine below_alloc ?_ _))
set_option maxHeartbeats 2000000 in
set_option maxRecDepth 100000 in
theorem impl_Timer_step.c4 (k p e dt : Int) (i b o : Bool) (w : World) (hm : p < wrap64 (e + dt)) : Calls Try.prog 72 #[.agg #[.int .i64 2, .int .i64 p, .int .i64 e, .bool b, .bool false], .bool false, .int .i64 dt] w fun x w' => x = .returned (.agg #[.int .i64 2, .int .i64 p, .int .i64 (p), .bool false, .bool false]) ∧ Below w.heap.size w w' := by
  have hu := Try.underlying28
  go_enter Try.func72, Try.ntmps72
  go_wp2_with (go_at_call 61; refine (impl_Timer_step.rise _ _ _).mono ?_; rintro x w' ⟨rfl, rfl⟩)
  refine bodyPost_ret (v := .agg #[.int .i64 2, .int .i64 p, .int .i64 (p), .bool false, .bool false]) (by simp [results, Try.results72, go_sem]) rfl ⟨rfl, ?_⟩
  repeat (first | exact Below.refl _ _ | (refine Below.setCell ?_ (by simp) _) | (apply pw_below_drewN) | (apply below_drew1) | (refine below_alloc ?_ _))
set_option maxHeartbeats 2000000 in
set_option maxRecDepth 100000 in
theorem impl_Timer_step.c5 (k p e dt : Int) (i b o : Bool) (w : World) (hm : p < wrap64 (e + dt)) (hp : decide (0 < p) = true) : Calls Try.prog 72 #[.agg #[.int .i64 3, .int .i64 p, .int .i64 e, .bool false, .bool false], .bool true, .int .i64 dt] w fun x w' => x = .returned (.agg #[.int .i64 3, .int .i64 p, .int .i64 (0), .bool true, .bool true]) ∧ Below w.heap.size w w' := by
  have hu := Try.underlying28
  go_enter Try.func72, Try.ntmps72
  go_wp2_with (go_at_call 61; refine (impl_Timer_step.rise _ _ _).mono ?_; rintro x w' ⟨rfl, rfl⟩)
  refine bodyPost_ret (v := .agg #[.int .i64 3, .int .i64 p, .int .i64 (0), .bool true, .bool true]) (by simp [results, Try.results72, go_sem]) rfl ⟨rfl, ?_⟩
  repeat (first | exact Below.refl _ _ | (refine Below.setCell ?_ (by simp) _) | (apply pw_below_drewN) | (apply below_drew1) | (refine below_alloc ?_ _))
set_option maxHeartbeats 2000000 in
set_option maxRecDepth 100000 in
theorem impl_Timer_step.c6 (k p e dt : Int) (i b o : Bool) (w : World) (hm : p < wrap64 (e + dt)) (hp : decide (0 < p) = false) : Calls Try.prog 72 #[.agg #[.int .i64 3, .int .i64 p, .int .i64 e, .bool false, .bool false], .bool true, .int .i64 dt] w fun x w' => x = .returned (.agg #[.int .i64 3, .int .i64 p, .int .i64 (0), .bool true, .bool false]) ∧ Below w.heap.size w w' := by
  have hu := Try.underlying28
  go_enter Try.func72, Try.ntmps72
  go_wp2_with (go_at_call 61; refine (impl_Timer_step.rise _ _ _).mono ?_; rintro x w' ⟨rfl, rfl⟩)
  refine bodyPost_ret (v := .agg #[.int .i64 3, .int .i64 p, .int .i64 (0), .bool true, .bool false]) (by simp [results, Try.results72, go_sem]) rfl ⟨rfl, ?_⟩
  repeat (first | exact Below.refl _ _ | (refine Below.setCell ?_ (by simp) _) | (apply pw_below_drewN) | (apply below_drew1) | (refine below_alloc ?_ _))
set_option maxHeartbeats 2000000 in
set_option maxRecDepth 100000 in
theorem impl_Timer_step.c7 (k p e dt : Int) (i b o : Bool) (w : World) (hm : p < wrap64 (e + dt)) (he : decide (e < p) = false) (hp : decide (0 < p) = true) : Calls Try.prog 72 #[.agg #[.int .i64 3, .int .i64 p, .int .i64 e, .bool false, .bool true], .bool true, .int .i64 dt] w fun x w' => x = .returned (.agg #[.int .i64 3, .int .i64 p, .int .i64 (0), .bool true, .bool true]) ∧ Below w.heap.size w w' := by
  have hu := Try.underlying28
  go_enter Try.func72, Try.ntmps72
  go_wp2_with (go_at_call 61; refine (impl_Timer_step.rise _ _ _).mono ?_; rintro x w' ⟨rfl, rfl⟩)
  refine bodyPost_ret (v := .agg #[.int .i64 3, .int .i64 p, .int .i64 (0), .bool true, .bool true]) (by simp [results, Try.results72, go_sem]) rfl ⟨rfl, ?_⟩
  repeat (first | exact Below.refl _ _ | (refine Below.setCell ?_ (by simp) _) | (apply pw_below_drewN) | (apply below_drew1) | (refine below_alloc ?_ _))
set_option maxHeartbeats 2000000 in
set_option maxRecDepth 100000 in
theorem impl_Timer_step.c8 (k p e dt : Int) (i b o : Bool) (w : World) (hm : p < wrap64 (e + dt)) (he : decide (e < p) = false) (hp : decide (0 < p) = false) : Calls Try.prog 72 #[.agg #[.int .i64 3, .int .i64 p, .int .i64 e, .bool false, .bool true], .bool true, .int .i64 dt] w fun x w' => x = .returned (.agg #[.int .i64 3, .int .i64 p, .int .i64 (0), .bool true, .bool false]) ∧ Below w.heap.size w w' := by
  have hu := Try.underlying28
  go_enter Try.func72, Try.ntmps72
  go_wp2_with (go_at_call 61; refine (impl_Timer_step.rise _ _ _).mono ?_; rintro x w' ⟨rfl, rfl⟩)
  refine bodyPost_ret (v := .agg #[.int .i64 3, .int .i64 p, .int .i64 (0), .bool true, .bool false]) (by simp [results, Try.results72, go_sem]) rfl ⟨rfl, ?_⟩
  repeat (first | exact Below.refl _ _ | (refine Below.setCell ?_ (by simp) _) | (apply pw_below_drewN) | (apply below_drew1) | (refine below_alloc ?_ _))
set_option maxHeartbeats 2000000 in
set_option maxRecDepth 100000 in
theorem impl_Timer_step.c9 (k p e dt : Int) (i b o : Bool) (w : World) (hm : p < wrap64 (e + dt)) : Calls Try.prog 72 #[.agg #[.int .i64 3, .int .i64 p, .int .i64 e, .bool b, .bool false], .bool false, .int .i64 dt] w fun x w' => x = .returned (.agg #[.int .i64 3, .int .i64 p, .int .i64 (p), .bool false, .bool false]) ∧ Below w.heap.size w w' := by
  have hu := Try.underlying28
  go_enter Try.func72, Try.ntmps72
  go_wp2_with (go_at_call 61; refine (impl_Timer_step.rise _ _ _).mono ?_; rintro x w' ⟨rfl, rfl⟩)
  refine bodyPost_ret (v := .agg #[.int .i64 3, .int .i64 p, .int .i64 (p), .bool false, .bool false]) (by simp [results, Try.results72, go_sem]) rfl ⟨rfl, ?_⟩
  repeat (first | exact Below.refl _ _ | (refine Below.setCell ?_ (by simp) _) | (apply pw_below_drewN) | (apply below_drew1) | (refine below_alloc ?_ _))
set_option maxHeartbeats 2000000 in
set_option maxRecDepth 100000 in
theorem impl_Timer_step.c10 (k p e dt : Int) (i b o : Bool) (w : World) (hm : p < wrap64 (e + dt)) : Calls Try.prog 72 #[.agg #[.int .i64 3, .int .i64 p, .int .i64 e, .bool true, .bool false], .bool true, .int .i64 dt] w fun x w' => x = .returned (.agg #[.int .i64 3, .int .i64 p, .int .i64 (p), .bool true, .bool false]) ∧ Below w.heap.size w w' := by
  have hu := Try.underlying28
  go_enter Try.func72, Try.ntmps72
  go_wp2_with (go_at_call 61; refine (impl_Timer_step.rise _ _ _).mono ?_; rintro x w' ⟨rfl, rfl⟩)
  refine bodyPost_ret (v := .agg #[.int .i64 3, .int .i64 p, .int .i64 (p), .bool true, .bool false]) (by simp [results, Try.results72, go_sem]) rfl ⟨rfl, ?_⟩
  repeat (first | exact Below.refl _ _ | (refine Below.setCell ?_ (by simp) _) | (apply pw_below_drewN) | (apply below_drew1) | (refine below_alloc ?_ _))
set_option maxHeartbeats 2000000 in
set_option maxRecDepth 100000 in
theorem impl_Timer_step.c11 (k p e dt : Int) (i b o : Bool) (w : World) (hm : p < wrap64 (e + dt)) (h1 : (k == 1) = false) (h2 : (k == 2) = false) (h3 : (k == 3) = false) : Calls Try.prog 72 #[.agg #[.int .i64 k, .int .i64 p, .int .i64 e, .bool b, .bool o], .bool i, .int .i64 dt] w fun x w' => x = .returned (.agg #[.int .i64 k, .int .i64 p, .int .i64 (e), .bool i, .bool o]) ∧ Below w.heap.size w w' := by
  have hu := Try.underlying28
  go_enter Try.func72, Try.ntmps72
  go_wp2_with (go_at_call 61; refine (impl_Timer_step.rise _ _ _).mono ?_; rintro x w' ⟨rfl, rfl⟩)
  refine bodyPost_ret (v := .agg #[.int .i64 k, .int .i64 p, .int .i64 (e), .bool i, .bool o]) (by simp [results, Try.results72, go_sem]) rfl ⟨rfl, ?_⟩
  repeat (first | exact Below.refl _ _ | (refine Below.setCell ?_ (by simp) _) | (apply pw_below_drewN) | (apply below_drew1) | (refine below_alloc ?_ _))
set_option maxHeartbeats 2000000 in
set_option maxRecDepth 100000 in
theorem impl_Timer_step.c12 (k p e dt : Int) (i b o : Bool) (w : World) (hm : ¬ p < wrap64 (e + dt)) : Calls Try.prog 72 #[.agg #[.int .i64 1, .int .i64 p, .int .i64 e, .bool b, .bool o], .bool false, .int .i64 dt] w fun x w' => x = .returned (.agg #[.int .i64 1, .int .i64 p, .int .i64 (0), .bool false, .bool false]) ∧ Below w.heap.size w w' := by
  have hu := Try.underlying28
  go_enter Try.func72, Try.ntmps72
  go_wp2_with (go_at_call 61; refine (impl_Timer_step.rise _ _ _).mono ?_; rintro x w' ⟨rfl, rfl⟩)
  refine bodyPost_ret (v := .agg #[.int .i64 1, .int .i64 p, .int .i64 (0), .bool false, .bool false]) (by simp [results, Try.results72, go_sem]) rfl ⟨rfl, ?_⟩
  repeat (first | exact Below.refl _ _ | (refine Below.setCell ?_ (by simp) _) | (apply pw_below_drewN) | (apply below_drew1) | (refine below_alloc ?_ _))
set_option maxHeartbeats 2000000 in
set_option maxRecDepth 100000 in
theorem impl_Timer_step.c13 (k p e dt : Int) (i b o : Bool) (w : World) (hm : ¬ p < wrap64 (e + dt)) (hp : (0 == p) = true) : Calls Try.prog 72 #[.agg #[.int .i64 1, .int .i64 p, .int .i64 e, .bool false, .bool o], .bool true, .int .i64 dt] w fun x w' => x = .returned (.agg #[.int .i64 1, .int .i64 p, .int .i64 (0), .bool true, .bool true]) ∧ Below w.heap.size w w' := by
  have hu := Try.underlying28
  go_enter Try.func72, Try.ntmps72
  go_wp2_with (go_at_call 61; refine (impl_Timer_step.rise _ _ _).mono ?_; rintro x w' ⟨rfl, rfl⟩)
  refine bodyPost_ret (v := .agg #[.int .i64 1, .int .i64 p, .int .i64 (0), .bool true, .bool true]) (by simp [results, Try.results72, go_sem]) rfl ⟨rfl, ?_⟩
  repeat (first | exact Below.refl _ _ | (refine Below.setCell ?_ (by simp) _) | (apply pw_below_drewN) | (apply below_drew1) | (refine below_alloc ?_ _))
set_option maxHeartbeats 2000000 in
set_option maxRecDepth 100000 in
theorem impl_Timer_step.c14 (k p e dt : Int) (i b o : Bool) (w : World) (hm : ¬ p < wrap64 (e + dt)) (hp : (0 == p) = false) : Calls Try.prog 72 #[.agg #[.int .i64 1, .int .i64 p, .int .i64 e, .bool false, .bool o], .bool true, .int .i64 dt] w fun x w' => x = .returned (.agg #[.int .i64 1, .int .i64 p, .int .i64 (0), .bool true, .bool false]) ∧ Below w.heap.size w w' := by
  have hu := Try.underlying28
  go_enter Try.func72, Try.ntmps72
  go_wp2_with (go_at_call 61; refine (impl_Timer_step.rise _ _ _).mono ?_; rintro x w' ⟨rfl, rfl⟩)
  refine bodyPost_ret (v := .agg #[.int .i64 1, .int .i64 p, .int .i64 (0), .bool true, .bool false]) (by simp [results, Try.results72, go_sem]) rfl ⟨rfl, ?_⟩
  repeat (first | exact Below.refl _ _ | (refine Below.setCell ?_ (by simp) _) | (apply pw_below_drewN) | (apply below_drew1) | (refine below_alloc ?_ _))
set_option maxHeartbeats 2000000 in
set_option maxRecDepth 100000 in
theorem impl_Timer_step.c15 (k p e dt : Int) (i b o : Bool) (w : World) (hm : ¬ p < wrap64 (e + dt)) : Calls Try.prog 72 #[.agg #[.int .i64 2, .int .i64 p, .int .i64 e, .bool b, .bool o], .bool true, .int .i64 dt] w fun x w' => x = .returned (.agg #[.int .i64 2, .int .i64 p, .int .i64 (0), .bool true, .bool true]) ∧ Below w.heap.size w w' := by
  have hu := Try.underlying28
  go_enter Try.func72, Try.ntmps72
  go_wp2_with (go_at_call 61; refine (impl_Timer_step.rise _ _ _).mono ?_; rintro x w' ⟨rfl, rfl⟩)
  refine bodyPost_ret (v := .agg #[.int .i64 2, .int .i64 p, .int .i64 (0), .bool true, .bool true]) (by simp [results, Try.results72, go_sem]) rfl ⟨rfl, ?_⟩
  repeat (first | exact Below.refl _ _ | (refine Below.setCell ?_ (by simp) _) | (apply pw_below_drewN) | (apply below_drew1) | (refine below_alloc ?_ _))
set_option maxHeartbeats 2000000 in
set_option maxRecDepth 100000 in
theorem impl_Timer_step.c16 (k p e dt : Int) (i b o : Bool) (w : World) (hm : ¬ p < wrap64 (e + dt)) : Calls Try.prog 72 #[.agg #[.int .i64 2, .int .i64 p, .int .i64 e, .bool b, .bool false], .bool false, .int .i64 dt] w fun x w' => x = .returned (.agg #[.int .i64 2, .int .i64 p, .int .i64 (wrap64 (e + dt)), .bool false, .bool false]) ∧ Below w.heap.size w w' := by
  have hu := Try.underlying28
  go_enter Try.func72, Try.ntmps72
  go_wp2_with (go_at_call 61; refine (impl_Timer_step.rise _ _ _).mono ?_; rintro x w' ⟨rfl, rfl⟩)
  refine bodyPost_ret (v := .agg #[.int .i64 2, .int .i64 p, .int .i64 (wrap64 (e + dt)), .bool false, .bool false]) (by simp [results, Try.results72, go_sem]) rfl ⟨rfl, ?_⟩
  repeat (first | exact Below.refl _ _ | (refine Below.setCell ?_ (by simp) _) | (apply pw_below_drewN) | (apply below_drew1) | (refine below_alloc ?_ _))
set_option maxHeartbeats 2000000 in
set_option maxRecDepth 100000 in
theorem impl_Timer_step.c17 (k p e dt : Int) (i b o : Bool) (w : World) (hm : ¬ p < wrap64 (e + dt)) (hp : decide (0 < p) = true) : Calls Try.prog 72 #[.agg #[.int .i64 3, .int .i64 p, .int .i64 e, .bool false, .bool false], .bool true, .int .i64 dt] w fun x w' => x = .returned (.agg #[.int .i64 3, .int .i64 p, .int .i64 (0), .bool true, .bool true]) ∧ Below w.heap.size w w' := by
  have hu := Try.underlying28
  go_enter Try.func72, Try.ntmps72
  go_wp2_with (go_at_call 61; refine (impl_Timer_step.rise _ _ _).mono ?_; rintro x w' ⟨rfl, rfl⟩)
  refine bodyPost_ret (v := .agg #[.int .i64 3, .int .i64 p, .int .i64 (0), .bool true, .bool true]) (by simp [results, Try.results72, go_sem]) rfl ⟨rfl, ?_⟩
  repeat (first | exact Below.refl _ _ | (refine Below.setCell ?_ (by simp) _) | (apply pw_below_drewN) | (apply below_drew1) | (refine below_alloc ?_ _))
set_option maxHeartbeats 2000000 in
set_option maxRecDepth 100000 in
theorem impl_Timer_step.c18 (k p e dt : Int) (i b o : Bool) (w : World) (hm : ¬ p < wrap64 (e + dt)) (hp : decide (0 < p) = false) : Calls Try.prog 72 #[.agg #[.int .i64 3, .int .i64 p, .int .i64 e, .bool false, .bool false], .bool true, .int .i64 dt] w fun x w' => x = .returned (.agg #[.int .i64 3, .int .i64 p, .int .i64 (0), .bool true, .bool false]) ∧ Below w.heap.size w w' := by
  have hu := Try.underlying28
  go_enter Try.func72, Try.ntmps72
  go_wp2_with (go_at_call 61; refine (impl_Timer_step.rise _ _ _).mono ?_; rintro x w' ⟨rfl, rfl⟩)
  refine bodyPost_ret (v := .agg #[.int .i64 3, .int .i64 p, .int .i64 (0), .bool true, .bool false]) (by simp [results, Try.results72, go_sem]) rfl ⟨rfl, ?_⟩
  repeat (first | exact Below.refl _ _ | (refine Below.setCell ?_ (by simp) _) | (apply pw_below_drewN) | (apply below_drew1) | (refine below_alloc ?_ _))
set_option maxHeartbeats 2000000 in
set_option maxRecDepth 100000 in
theorem impl_Timer_step.c19 (k p e dt : Int) (i b o : Bool) (w : World) (hm : ¬ p < wrap64 (e + dt)) (he : decide (e < p) = false) (hp : decide (0 < p) = true) : Calls Try.prog 72 #[.agg #[.int .i64 3, .int .i64 p, .int .i64 e, .bool false, .bool true], .bool true, .int .i64 dt] w fun x w' => x = .returned (.agg #[.int .i64 3, .int .i64 p, .int .i64 (0), .bool true, .bool true]) ∧ Below w.heap.size w w' := by
  have hu := Try.underlying28
  go_enter Try.func72, Try.ntmps72
  go_wp2_with (go_at_call 61; refine (impl_Timer_step.rise _ _ _).mono ?_; rintro x w' ⟨rfl, rfl⟩)
  refine bodyPost_ret (v := .agg #[.int .i64 3, .int .i64 p, .int .i64 (0), .bool true, .bool true]) (by simp [results, Try.results72, go_sem]) rfl ⟨rfl, ?_⟩
  repeat (first | exact Below.refl _ _ | (refine Below.setCell ?_ (by simp) _) | (apply pw_below_drewN) | (apply below_drew1) | (refine below_alloc ?_ _))
set_option maxHeartbeats 2000000 in
set_option maxRecDepth 100000 in
theorem impl_Timer_step.c20 (k p e dt : Int) (i b o : Bool) (w : World) (hm : ¬ p < wrap64 (e + dt)) (he : decide (e < p) = false) (hp : decide (0 < p) = false) : Calls Try.prog 72 #[.agg #[.int .i64 3, .int .i64 p, .int .i64 e, .bool false, .bool true], .bool true, .int .i64 dt] w fun x w' => x = .returned (.agg #[.int .i64 3, .int .i64 p, .int .i64 (0), .bool true, .bool false]) ∧ Below w.heap.size w w' := by
  have hu := Try.underlying28
  go_enter Try.func72, Try.ntmps72
  go_wp2_with (go_at_call 61; refine (impl_Timer_step.rise _ _ _).mono ?_; rintro x w' ⟨rfl, rfl⟩)
  refine bodyPost_ret (v := .agg #[.int .i64 3, .int .i64 p, .int .i64 (0), .bool true, .bool false]) (by simp [results, Try.results72, go_sem]) rfl ⟨rfl, ?_⟩
  repeat (first | exact Below.refl _ _ | (refine Below.setCell ?_ (by simp) _) | (apply pw_below_drewN) | (apply below_drew1) | (refine below_alloc ?_ _))
set_option maxHeartbeats 2000000 in
set_option maxRecDepth 100000 in
theorem impl_Timer_step.c21 (k p e dt : Int) (i b o : Bool) (w : World) (hm : ¬ p < wrap64 (e + dt)) : Calls Try.prog 72 #[.agg #[.int .i64 3, .int .i64 p, .int .i64 e, .bool b, .bool false], .bool false, .int .i64 dt] w fun x w' => x = .returned (.agg #[.int .i64 3, .int .i64 p, .int .i64 (wrap64 (e + dt)), .bool false, .bool false]) ∧ Below w.heap.size w w' := by
  have hu := Try.underlying28
  go_enter Try.func72, Try.ntmps72
  go_wp2_with (go_at_call 61; refine (impl_Timer_step.rise _ _ _).mono ?_; rintro x w' ⟨rfl, rfl⟩)
  refine bodyPost_ret (v := .agg #[.int .i64 3, .int .i64 p, .int .i64 (wrap64 (e + dt)), .bool false, .bool false]) (by simp [results, Try.results72, go_sem]) rfl ⟨rfl, ?_⟩
  repeat (first | exact Below.refl _ _ | (refine Below.setCell ?_ (by simp) _) | (apply pw_below_drewN) | (apply below_drew1) | (refine below_alloc ?_ _))
set_option maxHeartbeats 2000000 in
set_option maxRecDepth 100000 in
theorem impl_Timer_step.c22 (k p e dt : Int) (i b o : Bool) (w : World) (hm : ¬ p < wrap64 (e + dt)) : Calls Try.prog 72 #[.agg #[.int .i64 3, .int .i64 p, .int .i64 e, .bool true, .bool false], .bool true, .int .i64 dt] w fun x w' => x = .returned (.agg #[.int .i64 3, .int .i64 p, .int .i64 (wrap64 (e + dt)), .bool true, .bool false]) ∧ Below w.heap.size w w' := by
  have hu := Try.underlying28
  go_enter Try.func72, Try.ntmps72
  go_wp2_with (go_at_call 61; refine (impl_Timer_step.rise _ _ _).mono ?_; rintro x w' ⟨rfl, rfl⟩)
  refine bodyPost_ret (v := .agg #[.int .i64 3, .int .i64 p, .int .i64 (wrap64 (e + dt)), .bool true, .bool false]) (by simp [results, Try.results72, go_sem]) rfl ⟨rfl, ?_⟩
  repeat (first | exact Below.refl _ _ | (refine Below.setCell ?_ (by simp) _) | (apply pw_below_drewN) | (apply below_drew1) | (refine below_alloc ?_ _))
set_option maxHeartbeats 2000000 in
set_option maxRecDepth 100000 in
theorem impl_Timer_step.c23 (k p e dt : Int) (i b o : Bool) (w : World) (hm : ¬ p < wrap64 (e + dt)) (h1 : (k == 1) = false) (h2 : (k == 2) = false) (h3 : (k == 3) = false) : Calls Try.prog 72 #[.agg #[.int .i64 k, .int .i64 p, .int .i64 e, .bool b, .bool o], .bool i, .int .i64 dt] w fun x w' => x = .returned (.agg #[.int .i64 k, .int .i64 p, .int .i64 (e), .bool i, .bool o]) ∧ Below w.heap.size w w' := by
  have hu := Try.underlying28
  go_enter Try.func72, Try.ntmps72
  go_wp2_with (go_at_call 61; refine (impl_Timer_step.rise _ _ _).mono ?_; rintro x w' ⟨rfl, rfl⟩)
  refine bodyPost_ret (v := .agg #[.int .i64 k, .int .i64 p, .int .i64 (e), .bool i, .bool o]) (by simp [results, Try.results72, go_sem]) rfl ⟨rfl, ?_⟩
  repeat (first | exact Below.refl _ _ | (refine Below.setCell ?_ (by simp) _) | (apply pw_below_drewN) | (apply below_drew1) | (refine below_alloc ?_ _))
set_option maxHeartbeats 2000000 in
set_option maxRecDepth 100000 in
theorem impl_Timer_step.c24 (k p e dt : Int) (i b o : Bool) (w : World) (hm : p < wrap64 (e + dt)) : Calls Try.prog 72 #[.agg #[.int .i64 1, .int .i64 p, .int .i64 e, .bool true, .bool o], .bool true, .int .i64 dt] w fun x w' => x = .returned (.agg #[.int .i64 1, .int .i64 p, .int .i64 (p), .bool true, .bool true]) ∧ Below w.heap.size w w' := by
  have hu := Try.underlying28
  go_enter Try.func72, Try.ntmps72
  go_wp2_with (go_at_call 61; refine (impl_Timer_step.rise _ _ _).mono ?_; rintro x w' ⟨rfl, rfl⟩)
  refine bodyPost_ret (v := .agg #[.int .i64 1, .int .i64 p, .int .i64 (p), .bool true, .bool true]) (by simp [results, Try.results72, go_sem]) rfl ⟨rfl, ?_⟩
  repeat (first | exact Below.refl _ _ | (refine Below.setCell ?_ (by simp) _) | (apply pw_below_drewN) | (apply below_drew1) | (refine below_alloc ?_ _))
set_option maxHeartbeats 2000000 in
set_option maxRecDepth 100000 in
theorem impl_Timer_step.c25 (k p e dt : Int) (i b o : Bool) (w : World) (hm : p < wrap64 (e + dt)) : Calls Try.prog 72 #[.agg #[.int .i64 2, .int .i64 p, .int .i64 e, .bool b, .bool true], .bool false, .int .i64 dt] w fun x w' => x = .returned (.agg #[.int .i64 2, .int .i64 p, .int .i64 (p), .bool false, .bool false]) ∧ Below w.heap.size w w' := by
  have hu := Try.underlying28
  go_enter Try.func72, Try.ntmps72
  go_wp2_with (go_at_call 61; refine (impl_Timer_step.rise _ _ _).mono ?_; rintro x w' ⟨rfl, rfl⟩)
  refine bodyPost_ret (v := .agg #[.int .i64 2, .int .i64 p, .int .i64 (p), .bool false, .bool false]) (by simp [results, Try.results72, go_sem]) rfl ⟨rfl, ?_⟩
  repeat (first | exact Below.refl _ _ | (refine Below.setCell ?_ (by simp) _) | (apply pw_below_drewN) | (apply below_drew1) | (refine below_alloc ?_ _))
set_option maxHeartbeats 2000000 in
set_option maxRecDepth 100000 in
theorem impl_Timer_step.c26 (k p e dt : Int) (i b o : Bool) (w : World) (hm : p < wrap64 (e + dt)) (he : decide (e < p) = true) : Calls Try.prog 72 #[.agg #[.int .i64 3, .int .i64 p, .int .i64 e, .bool false, .bool true], .bool true, .int .i64 dt] w fun x w' => x = .returned (.agg #[.int .i64 3, .int .i64 p, .int .i64 (p), .bool true, .bool false]) ∧ Below w.heap.size w w' := by
  have hu := Try.underlying28
  go_enter Try.func72, Try.ntmps72
  go_wp2_with (go_at_call 61; refine (impl_Timer_step.rise _ _ _).mono ?_; rintro x w' ⟨rfl, rfl⟩)
  refine bodyPost_ret (v := .agg #[.int .i64 3, .int .i64 p, .int .i64 (p), .bool true, .bool false]) (by simp [results, Try.results72, go_sem]) rfl ⟨rfl, ?_⟩
  repeat (first | exact Below.refl _ _ | (refine Below.setCell ?_ (by simp) _) | (apply pw_below_drewN) | (apply below_drew1) | (refine below_alloc ?_ _))
set_option maxHeartbeats 2000000 in
set_option maxRecDepth 100000 in
theorem impl_Timer_step.c27 (k p e dt : Int) (i b o : Bool) (w : World) (hm : p < wrap64 (e + dt)) : Calls Try.prog 72 #[.agg #[.int .i64 3, .int .i64 p, .int .i64 e, .bool b, .bool true], .bool false, .int .i64 dt] w fun x w' => x = .returned (.agg #[.int .i64 3, .int .i64 p, .int .i64 (p), .bool false, .bool false]) ∧ Below w.heap.size w w' := by
  have hu := Try.underlying28
  go_enter Try.func72, Try.ntmps72
  go_wp2_with (go_at_call 61; refine (impl_Timer_step.rise _ _ _).mono ?_; rintro x w' ⟨rfl, rfl⟩)
  refine bodyPost_ret (v := .agg #[.int .i64 3, .int .i64 p, .int .i64 (p), .bool false, .bool false]) (by simp [results, Try.results72, go_sem]) rfl ⟨rfl, ?_⟩
  repeat (first | exact Below.refl _ _ | (refine Below.setCell ?_ (by simp) _) | (apply pw_below_drewN) | (apply below_drew1) | (refine below_alloc ?_ _))
set_option maxHeartbeats 2000000 in
set_option maxRecDepth 100000 in
theorem impl_Timer_step.c28 (k p e dt : Int) (i b o : Bool) (w : World) (hm : p < wrap64 (e + dt)) : Calls Try.prog 72 #[.agg #[.int .i64 3, .int .i64 p, .int .i64 e, .bool true, .bool true], .bool true, .int .i64 dt] w fun x w' => x = .returned (.agg #[.int .i64 3, .int .i64 p, .int .i64 (p), .bool true, .bool false]) ∧ Below w.heap.size w w' := by
  have hu := Try.underlying28
  go_enter Try.func72, Try.ntmps72
  go_wp2_with (go_at_call 61; refine (impl_Timer_step.rise _ _ _).mono ?_; rintro x w' ⟨rfl, rfl⟩)
  refine bodyPost_ret (v := .agg #[.int .i64 3, .int .i64 p, .int .i64 (p), .bool true, .bool false]) (by simp [results, Try.results72, go_sem]) rfl ⟨rfl, ?_⟩
  repeat (first | exact Below.refl _ _ | (refine Below.setCell ?_ (by simp) _) | (apply pw_below_drewN) | (apply below_drew1) | (refine below_alloc ?_ _))
set_option maxHeartbeats 2000000 in
set_option maxRecDepth 100000 in
theorem impl_Timer_step.c29 (k p e dt : Int) (i b o : Bool) (w : World) (hm : ¬ p < wrap64 (e + dt)) (hq : (wrap64 (e + dt) == p) = true) : Calls Try.prog 72 #[.agg #[.int .i64 1, .int .i64 p, .int .i64 e, .bool true, .bool o], .bool true, .int .i64 dt] w fun x w' => x = .returned (.agg #[.int .i64 1, .int .i64 p, .int .i64 (wrap64 (e + dt)), .bool true, .bool true]) ∧ Below w.heap.size w w' := by
  have hu := Try.underlying28
  go_enter Try.func72, Try.ntmps72
  go_wp2_with (go_at_call 61; refine (impl_Timer_step.rise _ _ _).mono ?_; rintro x w' ⟨rfl, rfl⟩)
  refine bodyPost_ret (v := .agg #[.int .i64 1, .int .i64 p, .int .i64 (wrap64 (e + dt)), .bool true, .bool true]) (by simp [results, Try.results72, go_sem]) rfl ⟨rfl, ?_⟩
  repeat (first | exact Below.refl _ _ | (refine Below.setCell ?_ (by simp) _) | (apply pw_below_drewN) | (apply below_drew1) | (refine below_alloc ?_ _))
set_option maxHeartbeats 2000000 in
set_option maxRecDepth 100000 in
theorem impl_Timer_step.c30 (k p e dt : Int) (i b o : Bool) (w : World) (hm : ¬ p < wrap64 (e + dt)) (hq : decide (wrap64 (e + dt) < p) = true) : Calls Try.prog 72 #[.agg #[.int .i64 2, .int .i64 p, .int .i64 e, .bool b, .bool true], .bool false, .int .i64 dt] w fun x w' => x = .returned (.agg #[.int .i64 2, .int .i64 p, .int .i64 (wrap64 (e + dt)), .bool false, .bool true]) ∧ Below w.heap.size w w' := by
  have hu := Try.underlying28
  go_enter Try.func72, Try.ntmps72
  go_wp2_with (go_at_call 61; refine (impl_Timer_step.rise _ _ _).mono ?_; rintro x w' ⟨rfl, rfl⟩)
  refine bodyPost_ret (v := .agg #[.int .i64 2, .int .i64 p, .int .i64 (wrap64 (e + dt)), .bool false, .bool true]) (by simp [results, Try.results72, go_sem]) rfl ⟨rfl, ?_⟩
  repeat (first | exact Below.refl _ _ | (refine Below.setCell ?_ (by simp) _) | (apply pw_below_drewN) | (apply below_drew1) | (refine below_alloc ?_ _))
set_option maxHeartbeats 2000000 in
set_option maxRecDepth 100000 in
theorem impl_Timer_step.c31 (k p e dt : Int) (i b o : Bool) (w : World) (hm : ¬ p < wrap64 (e + dt)) (he : decide (e < p) = true) (hq : decide (wrap64 (e + dt) < p) = true) : Calls Try.prog 72 #[.agg #[.int .i64 3, .int .i64 p, .int .i64 e, .bool false, .bool true], .bool true, .int .i64 dt] w fun x w' => x = .returned (.agg #[.int .i64 3, .int .i64 p, .int .i64 (wrap64 (e + dt)), .bool true, .bool true]) ∧ Below w.heap.size w w' := by
  have hu := Try.underlying28
  go_enter Try.func72, Try.ntmps72
  go_wp2_with (go_at_call 61; refine (impl_Timer_step.rise _ _ _).mono ?_; rintro x w' ⟨rfl, rfl⟩)
  refine bodyPost_ret (v := .agg #[.int .i64 3, .int .i64 p, .int .i64 (wrap64 (e + dt)), .bool true, .bool true]) (by simp [results, Try.results72, go_sem]) rfl ⟨rfl, ?_⟩
  repeat (first | exact Below.refl _ _ | (refine Below.setCell ?_ (by simp) _) | (apply pw_below_drewN) | (apply below_drew1) | (refine below_alloc ?_ _))
set_option maxHeartbeats 2000000 in
set_option maxRecDepth 100000 in
theorem impl_Timer_step.c32 (k p e dt : Int) (i b o : Bool) (w : World) (hm : ¬ p < wrap64 (e + dt)) (hq : decide (wrap64 (e + dt) < p) = true) : Calls Try.prog 72 #[.agg #[.int .i64 3, .int .i64 p, .int .i64 e, .bool b, .bool true], .bool false, .int .i64 dt] w fun x w' => x = .returned (.agg #[.int .i64 3, .int .i64 p, .int .i64 (wrap64 (e + dt)), .bool false, .bool true]) ∧ Below w.heap.size w w' := by
  have hu := Try.underlying28
  go_enter Try.func72, Try.ntmps72
  go_wp2_with (go_at_call 61; refine (impl_Timer_step.rise _ _ _).mono ?_; rintro x w' ⟨rfl, rfl⟩)
  refine bodyPost_ret (v := .agg #[.int .i64 3, .int .i64 p, .int .i64 (wrap64 (e + dt)), .bool false, .bool true]) (by simp [results, Try.results72, go_sem]) rfl ⟨rfl, ?_⟩
  repeat (first | exact Below.refl _ _ | (refine Below.setCell ?_ (by simp) _) | (apply pw_below_drewN) | (apply below_drew1) | (refine below_alloc ?_ _))
set_option maxHeartbeats 2000000 in
set_option maxRecDepth 100000 in
theorem impl_Timer_step.c33 (k p e dt : Int) (i b o : Bool) (w : World) (hm : ¬ p < wrap64 (e + dt)) (hq : decide (wrap64 (e + dt) < p) = true) : Calls Try.prog 72 #[.agg #[.int .i64 3, .int .i64 p, .int .i64 e, .bool true, .bool true], .bool true, .int .i64 dt] w fun x w' => x = .returned (.agg #[.int .i64 3, .int .i64 p, .int .i64 (wrap64 (e + dt)), .bool true, .bool true]) ∧ Below w.heap.size w w' := by
  have hu := Try.underlying28
  go_enter Try.func72, Try.ntmps72
  go_wp2_with (go_at_call 61; refine (impl_Timer_step.rise _ _ _).mono ?_; rintro x w' ⟨rfl, rfl⟩)
  refine bodyPost_ret (v := .agg #[.int .i64 3, .int .i64 p, .int .i64 (wrap64 (e + dt)), .bool true, .bool true]) (by simp [results, Try.results72, go_sem]) rfl ⟨rfl, ?_⟩
  repeat (first | exact Below.refl _ _ | (refine Below.setCell ?_ (by simp) _) | (apply pw_below_drewN) | (apply below_drew1) | (refine below_alloc ?_ _))
set_option maxHeartbeats 2000000 in
set_option maxRecDepth 100000 in
theorem impl_Timer_step.c34 (k p e dt : Int) (i b o : Bool) (w : World) (hm : ¬ p < wrap64 (e + dt)) (hq : (wrap64 (e + dt) == p) = false) : Calls Try.prog 72 #[.agg #[.int .i64 1, .int .i64 p, .int .i64 e, .bool true, .bool o], .bool true, .int .i64 dt] w fun x w' => x = .returned (.agg #[.int .i64 1, .int .i64 p, .int .i64 (wrap64 (e + dt)), .bool true, .bool false]) ∧ Below w.heap.size w w' := by
  have hu := Try.underlying28
  go_enter Try.func72, Try.ntmps72
  go_wp2_with (go_at_call 61; refine (impl_Timer_step.rise _ _ _).mono ?_; rintro x w' ⟨rfl, rfl⟩)
  refine bodyPost_ret (v := .agg #[.int .i64 1, .int .i64 p, .int .i64 (wrap64 (e + dt)), .bool true, .bool false]) (by simp [results, Try.results72, go_sem]) rfl ⟨rfl, ?_⟩
  repeat (first | exact Below.refl _ _ | (refine Below.setCell ?_ (by simp) _) | (apply pw_below_drewN) | (apply below_drew1) | (refine below_alloc ?_ _))
set_option maxHeartbeats 2000000 in
set_option maxRecDepth 100000 in
theorem impl_Timer_step.c35 (k p e dt : Int) (i b o : Bool) (w : World) (hm : ¬ p < wrap64 (e + dt)) (hq : decide (wrap64 (e + dt) < p) = false) : Calls Try.prog 72 #[.agg #[.int .i64 2, .int .i64 p, .int .i64 e, .bool b, .bool true], .bool false, .int .i64 dt] w fun x w' => x = .returned (.agg #[.int .i64 2, .int .i64 p, .int .i64 (wrap64 (e + dt)), .bool false, .bool false]) ∧ Below w.heap.size w w' := by
  have hu := Try.underlying28
  go_enter Try.func72, Try.ntmps72
  go_wp2_with (go_at_call 61; refine (impl_Timer_step.rise _ _ _).mono ?_; rintro x w' ⟨rfl, rfl⟩)
  refine bodyPost_ret (v := .agg #[.int .i64 2, .int .i64 p, .int .i64 (wrap64 (e + dt)), .bool false, .bool false]) (by simp [results, Try.results72, go_sem]) rfl ⟨rfl, ?_⟩
  repeat (first | exact Below.refl _ _ | (refine Below.setCell ?_ (by simp) _) | (apply pw_below_drewN) | (apply below_drew1) | (refine below_alloc ?_ _))
set_option maxHeartbeats 2000000 in
set_option maxRecDepth 100000 in
theorem impl_Timer_step.c36 (k p e dt : Int) (i b o : Bool) (w : World) (hm : ¬ p < wrap64 (e + dt)) (he : decide (e < p) = true) (hq : decide (wrap64 (e + dt) < p) = false) : Calls Try.prog 72 #[.agg #[.int .i64 3, .int .i64 p, .int .i64 e, .bool false, .bool true], .bool true, .int .i64 dt] w fun x w' => x = .returned (.agg #[.int .i64 3, .int .i64 p, .int .i64 (wrap64 (e + dt)), .bool true, .bool false]) ∧ Below w.heap.size w w' := by
  have hu := Try.underlying28
  go_enter Try.func72, Try.ntmps72
  go_wp2_with (go_at_call 61; refine (impl_Timer_step.rise _ _ _).mono ?_; rintro x w' ⟨rfl, rfl⟩)
  refine bodyPost_ret (v := .agg #[.int .i64 3, .int .i64 p, .int .i64 (wrap64 (e + dt)), .bool true, .bool false]) (by simp [results, Try.results72, go_sem]) rfl ⟨rfl, ?_⟩
  repeat (first | exact Below.refl _ _ | (refine Below.setCell ?_ (by simp) _) | (apply pw_below_drewN) | (apply below_drew1) | (refine below_alloc ?_ _))
set_option maxHeartbeats 2000000 in
set_option maxRecDepth 100000 in
theorem impl_Timer_step.c37 (k p e dt : Int) (i b o : Bool) (w : World) (hm : ¬ p < wrap64 (e + dt)) (hq : decide (wrap64 (e + dt) < p) = false) : Calls Try.prog 72 #[.agg #[.int .i64 3, .int .i64 p, .int .i64 e, .bool b, .bool true], .bool false, .int .i64 dt] w fun x w' => x = .returned (.agg #[.int .i64 3, .int .i64 p, .int .i64 (wrap64 (e + dt)), .bool false, .bool false]) ∧ Below w.heap.size w w' := by
  have hu := Try.underlying28
  go_enter Try.func72, Try.ntmps72
  go_wp2_with (go_at_call 61; refine (impl_Timer_step.rise _ _ _).mono ?_; rintro x w' ⟨rfl, rfl⟩)
  refine bodyPost_ret (v := .agg #[.int .i64 3, .int .i64 p, .int .i64 (wrap64 (e + dt)), .bool false, .bool false]) (by simp [results, Try.results72, go_sem]) rfl ⟨rfl, ?_⟩
  repeat (first | exact Below.refl _ _ | (refine Below.setCell ?_ (by simp) _) | (apply pw_below_drewN) | (apply below_drew1) | (refine below_alloc ?_ _))
set_option maxHeartbeats 2000000 in
set_option maxRecDepth 100000 in
theorem impl_Timer_step.c38 (k p e dt : Int) (i b o : Bool) (w : World) (hm : ¬ p < wrap64 (e + dt)) (hq : decide (wrap64 (e + dt) < p) = false) : Calls Try.prog 72 #[.agg #[.int .i64 3, .int .i64 p, .int .i64 e, .bool true, .bool true], .bool true, .int .i64 dt] w fun x w' => x = .returned (.agg #[.int .i64 3, .int .i64 p, .int .i64 (wrap64 (e + dt)), .bool true, .bool false]) ∧ Below w.heap.size w w' := by
  have hu := Try.underlying28
  go_enter Try.func72, Try.ntmps72
  go_wp2_with (go_at_call 61; refine (impl_Timer_step.rise _ _ _).mono ?_; rintro x w' ⟨rfl, rfl⟩)
  refine bodyPost_ret (v := .agg #[.int .i64 3, .int .i64 p, .int .i64 (wrap64 (e + dt)), .bool true, .bool false]) (by simp [results, Try.results72, go_sem]) rfl ⟨rfl, ?_⟩
  repeat (first | exact Below.refl _ _ | (refine Below.setCell ?_ (by simp) _) | (apply pw_below_drewN) | (apply below_drew1) | (refine below_alloc ?_ _))
/-- A step of a timer: the elapsed time and the output behind it. -/
def impl_Timer_step.pair (k p e : Int) (b o i : Bool) (dt : Int) : Int × Bool :=
  if k = 1 then (if i = true ∧ b = true then (mn (wrap64 (e + dt)) p, mn (wrap64 (e + dt)) p == p) else if i = true then (0, 0 == p) else (0, false))
  else if k = 2 then (if i = true then (0, true) else (mn (wrap64 (e + dt)) p, o && decide (mn (wrap64 (e + dt)) p < p)))
  else if k = 3 then (if i = true ∧ b = false ∧ ¬ (o = true ∧ e < p) then (0, decide (0 < p)) else (mn (wrap64 (e + dt)) p, o && decide (mn (wrap64 (e + dt)) p < p)))
  else (e, o)
def impl_Timer_step.f (a0_0 : Int) (a0_1 : Int) (a0_2 : Int) (a0_3 : Bool) (a0_4 : Bool) (a1 : Bool) (a2 : Int) : Option (Int × Int × Int × Bool × Bool) := some (a0_0, a0_1, (impl_Timer_step.pair a0_0 a0_1 a0_2 a0_3 a0_4 a1 a2).1, a1, (impl_Timer_step.pair a0_0 a0_1 a0_2 a0_3 a0_4 a1 a2).2)
theorem impl_Timer_step.all (k p e dt : Int) (i b o : Bool) (w : World) : Calls Try.prog 72 #[.agg #[.int .i64 k, .int .i64 p, .int .i64 e, .bool b, .bool o], .bool i, .int .i64 dt] w fun x w' => x = .returned (.agg #[.int .i64 k, .int .i64 p, .int .i64 (impl_Timer_step.pair k p e b o i dt).1, .bool i, .bool (impl_Timer_step.pair k p e b o i dt).2]) ∧ Below w.heap.size w w' := by
  have use : ∀ (el : Int) (out : Bool), impl_Timer_step.pair k p e b o i dt = (el, out) → (Calls Try.prog 72 #[.agg #[.int .i64 k, .int .i64 p, .int .i64 e, .bool b, .bool o], .bool i, .int .i64 dt] w fun x w' => x = .returned (.agg #[.int .i64 k, .int .i64 p, .int .i64 el, .bool i, .bool out]) ∧ Below w.heap.size w w') → Calls Try.prog 72 #[.agg #[.int .i64 k, .int .i64 p, .int .i64 e, .bool b, .bool o], .bool i, .int .i64 dt] w fun x w' => x = .returned (.agg #[.int .i64 k, .int .i64 p, .int .i64 (impl_Timer_step.pair k p e b o i dt).1, .bool i, .bool (impl_Timer_step.pair k p e b o i dt).2]) ∧ Below w.heap.size w w' := by
    intro el out he h
    rw [he]
    exact h
  have mnl : p < wrap64 (e + dt) → mn (wrap64 (e + dt)) p = p := fun h => by unfold mn; rw [if_pos h]
  have mng : ¬ p < wrap64 (e + dt) → mn (wrap64 (e + dt)) p = wrap64 (e + dt) := fun h => by unfold mn; rw [if_neg h]
  by_cases k1 : k = 1
  · subst k1
    cases i
    · skip
      by_cases hm : p < wrap64 (e + dt)
      · have hL := mnl hm
        exact use (0) false (by simp [impl_Timer_step.pair, *]) (impl_Timer_step.c0 1 p e dt false b o w hm)
      · have hL := mng hm
        exact use (0) false (by simp [impl_Timer_step.pair, *]) (impl_Timer_step.c12 1 p e dt false b o w hm)
    · cases b
      · skip
        by_cases hm : p < wrap64 (e + dt)
        · have hL := mnl hm
          cases hp : (0 == p)
          · skip
            exact use (0) false (by simp [impl_Timer_step.pair, *]) (impl_Timer_step.c2 1 p e dt true false o w hm hp)
          · skip
            exact use (0) true (by simp [impl_Timer_step.pair, *]) (impl_Timer_step.c1 1 p e dt true false o w hm hp)
        · have hL := mng hm
          cases hp : (0 == p)
          · skip
            exact use (0) false (by simp [impl_Timer_step.pair, *]) (impl_Timer_step.c14 1 p e dt true false o w hm hp)
          · skip
            exact use (0) true (by simp [impl_Timer_step.pair, *]) (impl_Timer_step.c13 1 p e dt true false o w hm hp)
      · skip
        by_cases hm : p < wrap64 (e + dt)
        · have hL := mnl hm
          exact use (p) true (by simp [impl_Timer_step.pair, *]) (impl_Timer_step.c24 1 p e dt true true o w hm)
        · have hL := mng hm
          cases hq : (wrap64 (e + dt) == p)
          · skip
            exact use (wrap64 (e + dt)) false (by simp [impl_Timer_step.pair, *]) (impl_Timer_step.c34 1 p e dt true true o w hm hq)
          · skip
            exact use (wrap64 (e + dt)) true (by simp [impl_Timer_step.pair, *]) (impl_Timer_step.c29 1 p e dt true true o w hm hq)
  by_cases k2 : k = 2
  · subst k2
    cases i
    · cases o
      · skip
        by_cases hm : p < wrap64 (e + dt)
        · have hL := mnl hm
          exact use (p) false (by simp [impl_Timer_step.pair, *]) (impl_Timer_step.c4 2 p e dt false b false w hm)
        · have hL := mng hm
          exact use (wrap64 (e + dt)) false (by simp [impl_Timer_step.pair, *]) (impl_Timer_step.c16 2 p e dt false b false w hm)
      · skip
        by_cases hm : p < wrap64 (e + dt)
        · have hL := mnl hm
          exact use (p) false (by simp [impl_Timer_step.pair, *]) (impl_Timer_step.c25 2 p e dt false b true w hm)
        · have hL := mng hm
          cases hq : (decide (wrap64 (e + dt) < p))
          · skip
            exact use (wrap64 (e + dt)) false (by simp [impl_Timer_step.pair, *]) (impl_Timer_step.c35 2 p e dt false b true w hm hq)
          · skip
            exact use (wrap64 (e + dt)) true (by simp [impl_Timer_step.pair, *]) (impl_Timer_step.c30 2 p e dt false b true w hm hq)
    · skip
      by_cases hm : p < wrap64 (e + dt)
      · have hL := mnl hm
        exact use (0) true (by simp [impl_Timer_step.pair, *]) (impl_Timer_step.c3 2 p e dt true b o w hm)
      · have hL := mng hm
        exact use (0) true (by simp [impl_Timer_step.pair, *]) (impl_Timer_step.c15 2 p e dt true b o w hm)
  by_cases k3 : k = 3
  · subst k3
    cases i
    · skip
      cases o
      · skip
        by_cases hm : p < wrap64 (e + dt)
        · have hL := mnl hm
          exact use (p) false (by simp [impl_Timer_step.pair, *]) (impl_Timer_step.c9 3 p e dt false b false w hm)
        · have hL := mng hm
          exact use (wrap64 (e + dt)) false (by simp [impl_Timer_step.pair, *]) (impl_Timer_step.c21 3 p e dt false b false w hm)
      · skip
        by_cases hm : p < wrap64 (e + dt)
        · have hL := mnl hm
          exact use (p) false (by simp [impl_Timer_step.pair, *]) (impl_Timer_step.c27 3 p e dt false b true w hm)
        · have hL := mng hm
          cases hq : (decide (wrap64 (e + dt) < p))
          · skip
            exact use (wrap64 (e + dt)) false (by simp [impl_Timer_step.pair, *]) (impl_Timer_step.c37 3 p e dt false b true w hm hq)
          · skip
            exact use (wrap64 (e + dt)) true (by simp [impl_Timer_step.pair, *]) (impl_Timer_step.c32 3 p e dt false b true w hm hq)
    · cases b
      · cases o
        · skip
          by_cases hm : p < wrap64 (e + dt)
          · have hL := mnl hm
            cases hp : (decide (0 < p))
            · skip
              exact use (0) false (by simp [impl_Timer_step.pair, *]) (impl_Timer_step.c6 3 p e dt true false false w hm hp)
            · skip
              exact use (0) true (by simp [impl_Timer_step.pair, *]) (impl_Timer_step.c5 3 p e dt true false false w hm hp)
          · have hL := mng hm
            cases hp : (decide (0 < p))
            · skip
              exact use (0) false (by simp [impl_Timer_step.pair, *]) (impl_Timer_step.c18 3 p e dt true false false w hm hp)
            · skip
              exact use (0) true (by simp [impl_Timer_step.pair, *]) (impl_Timer_step.c17 3 p e dt true false false w hm hp)
        · skip
          cases he : decide (e < p)
          · have he2 : ¬ e < p := of_decide_eq_false he
            have he3 : p ≤ e := by omega
            by_cases hm : p < wrap64 (e + dt)
            · have hL := mnl hm
              cases hp : (decide (0 < p))
              · skip
                exact use (0) false (by simp [impl_Timer_step.pair, *]) (impl_Timer_step.c8 3 p e dt true false true w hm he hp)
              · skip
                exact use (0) true (by simp [impl_Timer_step.pair, *]) (impl_Timer_step.c7 3 p e dt true false true w hm he hp)
            · have hL := mng hm
              cases hp : (decide (0 < p))
              · skip
                exact use (0) false (by simp [impl_Timer_step.pair, *]) (impl_Timer_step.c20 3 p e dt true false true w hm he hp)
              · skip
                exact use (0) true (by simp [impl_Timer_step.pair, *]) (impl_Timer_step.c19 3 p e dt true false true w hm he hp)
          · have he2 : e < p := of_decide_eq_true he
            have he3 : ¬ p ≤ e := by omega
            by_cases hm : p < wrap64 (e + dt)
            · have hL := mnl hm
              exact use (p) false (by simp [impl_Timer_step.pair, *]) (impl_Timer_step.c26 3 p e dt true false true w hm he)
            · have hL := mng hm
              cases hq : (decide (wrap64 (e + dt) < p))
              · skip
                exact use (wrap64 (e + dt)) false (by simp [impl_Timer_step.pair, *]) (impl_Timer_step.c36 3 p e dt true false true w hm he hq)
              · skip
                exact use (wrap64 (e + dt)) true (by simp [impl_Timer_step.pair, *]) (impl_Timer_step.c31 3 p e dt true false true w hm he hq)
      · skip
        cases o
        · skip
          by_cases hm : p < wrap64 (e + dt)
          · have hL := mnl hm
            exact use (p) false (by simp [impl_Timer_step.pair, *]) (impl_Timer_step.c10 3 p e dt true true false w hm)
          · have hL := mng hm
            exact use (wrap64 (e + dt)) false (by simp [impl_Timer_step.pair, *]) (impl_Timer_step.c22 3 p e dt true true false w hm)
        · skip
          by_cases hm : p < wrap64 (e + dt)
          · have hL := mnl hm
            exact use (p) false (by simp [impl_Timer_step.pair, *]) (impl_Timer_step.c28 3 p e dt true true true w hm)
          · have hL := mng hm
            cases hq : (decide (wrap64 (e + dt) < p))
            · skip
              exact use (wrap64 (e + dt)) false (by simp [impl_Timer_step.pair, *]) (impl_Timer_step.c38 3 p e dt true true true w hm hq)
            · skip
              exact use (wrap64 (e + dt)) true (by simp [impl_Timer_step.pair, *]) (impl_Timer_step.c33 3 p e dt true true true w hm hq)
  by_cases hm : p < wrap64 (e + dt)
  · have hL := mnl hm
    exact use (e) o (by simp [impl_Timer_step.pair, *]) (impl_Timer_step.c11 k p e dt i b o w hm (by simpa using k1) (by simpa using k2) (by simpa using k3))
  · have hL := mng hm
    exact use (e) o (by simp [impl_Timer_step.pair, *]) (impl_Timer_step.c23 k p e dt i b o w hm (by simpa using k1) (by simpa using k2) (by simpa using k3))
theorem impl_Timer_step.calls (a0_0 : Int) (a0_1 : Int) (a0_2 : Int) (a0_3 : Bool) (a0_4 : Bool) (a1 : Bool) (a2 : Int) (r1 : Int) (r2 : Int) (r3 : Int) (r4 : Bool) (r5 : Bool) (w : World) (h : impl_Timer_step.f a0_0 a0_1 a0_2 a0_3 a0_4 a1 a2 = some (r1, r2, r3, r4, r5)) :
    Calls Try.prog 72 #[.agg #[.int .i64 a0_0, .int .i64 a0_1, .int .i64 a0_2, .bool a0_3, .bool a0_4], .bool a1, .int .i64 a2] w fun e w' => e = .returned (.agg #[.int .i64 r1, .int .i64 r2, .int .i64 r3, .bool r4, .bool r5]) ∧ Below w.heap.size w w' := by
  have h1 := Option.some.inj h
  simp only [Prod.mk.injEq] at h1
  obtain ⟨rfl, rfl, rfl, rfl, rfl⟩ := h1
  exact impl_Timer_step.all a0_0 a0_1 a0_2 a2 a1 a0_3 a0_4 w


/-! ### impl_TimerTrace: function 49 -/
mutual
def impl_TimerTrace.j0 : Nat → List Bool → Int → Bool → Int → Int → Int → Bool → Bool → Option (List Bool)
  | 0, _, _, _, _, _, _, _, _ => none
  | k + 1, x1, x2, x22, x130000, x130001, x130002, x130003, x130004 => if x22 = true then (some ([] : List Bool)) else (if 0 ≤ (x1.length : Int) then (if ((x1.length : Int) : Int).toNat ≤ 281474976710656 then (impl_TimerTrace.l0 k x2 (List.replicate ((x1.length : Int) : Int).toNat false) x1 (x1.length : Int) 0 x130000 x130001 x130002 x130003 x130004) else (none)) else (none))
def impl_TimerTrace.l0 : Nat → Int → List Bool → List Bool → Int → Int → Int → Int → Int → Bool → Bool → Option (List Bool)
  | 0, _, _, _, _, _, _, _, _, _, _ => none
  | k + 1, x2, x7, x26, x27, x28, x130000, x130001, x130002, x130003, x130004 => if x28 < x27 then (if 0 ≤ x28 then (if x28 < (x26.length : Int) then ((impl_Timer_step.f x130000 x130001 x130002 x130003 x130004 (rdOf false x26 x28) x2).bind fun bt136 => (if x28 < (x7.length : Int) then (impl_TimerTrace.l0 k x2 (x7.set (x28 : Int).toNat bt136.2.2.2.2) x26 x27 (wrap64 (x28 + 1)) bt136.1 bt136.2.1 bt136.2.2.1 bt136.2.2.2.1 bt136.2.2.2.2) else (none))) else (none)) else (none)) else (some x7)
end
def impl_TimerTrace.f (k : Nat) (a0_0 : Int) (a0_1 : Int) (a0_2 : Int) (a0_3 : Bool) (a0_4 : Bool) (l1 : List Bool) (a2 : Int) : Option (List Bool) := (impl_TimerValid.f a0_0 a0_1 a0_2 a0_3 a0_4).bind fun t130 => (if t130 = true then (if (l1.length : Int) > 200 then (impl_TimerTrace.j0 k l1 a2 true a0_0 a0_1 a0_2 a0_3 a0_4) else ((impl_in.f a2 0 1000).bind fun t131 => (impl_TimerTrace.j0 k l1 a2 (!t131) a0_0 a0_1 a0_2 a0_3 a0_4))) else (impl_TimerTrace.j0 k l1 a2 true a0_0 a0_1 a0_2 a0_3 a0_4))
theorem impl_TimerTrace.mono_l : ∀ k, (∀ y0 y1 y2 y3 y4 y5 y6 y7, LeO (impl_TimerTrace.j0 k y0 y1 y2 y3 y4 y5 y6 y7) (impl_TimerTrace.j0 (k + 1) y0 y1 y2 y3 y4 y5 y6 y7)) ∧ (∀ y0 y1 y2 y3 y4 y5 y6 y7 y8 y9, LeO (impl_TimerTrace.l0 k y0 y1 y2 y3 y4 y5 y6 y7 y8 y9) (impl_TimerTrace.l0 (k + 1) y0 y1 y2 y3 y4 y5 y6 y7 y8 y9))
  | 0 => ⟨fun _ _ _ _ _ _ _ _ r h => by simp [impl_TimerTrace.j0] at h, fun _ _ _ _ _ _ _ _ _ _ r h => by simp [impl_TimerTrace.l0] at h⟩
  | k + 1 => by
    obtain ⟨ih0, ih1⟩ := impl_TimerTrace.mono_l k
    refine ⟨?_, ?_⟩
    · intro y0 y1 y2 y3 y4 y5 y6 y7
      unfold impl_TimerTrace.j0
      repeat' first
      | (with_reducible exact ih0 _ _ _ _ _ _ _ _)
      | (with_reducible exact ih1 _ _ _ _ _ _ _ _ _ _)
      | (with_reducible exact LeO.refl _)
      | (with_reducible exact LeO.none _)
      | (with_reducible refine LeO.ite ?_ ?_)
      | (with_reducible refine LeO.bind ?_ (fun _ => ?_))
      | exact ih0 _ _ _ _ _ _ _ _
      | exact ih1 _ _ _ _ _ _ _ _ _ _
      | exact LeO.none _
      | refine LeO.ite ?_ ?_
      | refine LeO.bind ?_ (fun _ => ?_)
    · intro y0 y1 y2 y3 y4 y5 y6 y7 y8 y9
      unfold impl_TimerTrace.l0
      repeat' first
      | (with_reducible exact ih0 _ _ _ _ _ _ _ _)
      | (with_reducible exact ih1 _ _ _ _ _ _ _ _ _ _)
      | (with_reducible exact LeO.refl _)
      | (with_reducible exact LeO.none _)
      | (with_reducible refine LeO.ite ?_ ?_)
      | (with_reducible refine LeO.bind ?_ (fun _ => ?_))
      | exact ih0 _ _ _ _ _ _ _ _
      | exact ih1 _ _ _ _ _ _ _ _ _ _
      | exact LeO.none _
      | refine LeO.ite ?_ ?_
      | refine LeO.bind ?_ (fun _ => ?_)
theorem impl_TimerTrace.mono : ∀ a0 a1 a2 a3 a4 a5 a6 k, LeO (impl_TimerTrace.f k a0 a1 a2 a3 a4 a5 a6) (impl_TimerTrace.f (k + 1) a0 a1 a2 a3 a4 a5 a6) := by
  intro a0 a1 a2 a3 a4 a5 a6 k
  obtain ⟨ih0, ih1⟩ := impl_TimerTrace.mono_l k
  unfold impl_TimerTrace.f
  repeat' first
      | (with_reducible exact ih0 _ _ _ _ _ _ _ _)
      | (with_reducible exact ih1 _ _ _ _ _ _ _ _ _ _)
      | (with_reducible exact LeO.refl _)
      | (with_reducible exact LeO.none _)
      | (with_reducible refine LeO.ite ?_ ?_)
      | (with_reducible refine LeO.bind ?_ (fun _ => ?_))
      | exact ih0 _ _ _ _ _ _ _ _
      | exact ih1 _ _ _ _ _ _ _ _ _ _
      | exact LeO.none _
      | refine LeO.ite ?_ ?_
      | refine LeO.bind ?_ (fun _ => ?_)
set_option maxHeartbeats 8000000 in
set_option maxRecDepth 100000 in
theorem impl_TimerTrace.calls (k : Nat) (a0_0 : Int) (a0_1 : Int) (a0_2 : Int) (a0_3 : Bool) (a0_4 : Bool) (A1 : Option Addr) (c1 : Nat) (l1 : List Bool) (a2 : Int) (r : List Bool) (w : World) (hr1 : Kd.C Kd.bool w A1 l1.length l1) (hc1 : l1.length ≤ c1) (h : impl_TimerTrace.f k a0_0 a0_1 a0_2 a0_3 a0_4 l1 a2 = some r) :
    Calls Try.prog 49 #[.agg #[.int .i64 a0_0, .int .i64 a0_1, .int .i64 a0_2, .bool a0_3, .bool a0_4], .slice A1 l1.length c1, .int .i64 a2] w fun e w' => ∃ v0_ : Value, e = .returned (v0_) ∧ Kd.R Kd.bool 4 w' w.heap.size (fun _ => True) v0_ r ∧ Below w.heap.size w w' := by
  have hu28 := Try.underlying28
  have HR1 := Aside0.mk hr1
  have HC1 := Aside0.mk hc1
  clear hr1 hc1
  have HB := Aside0.mk (Below.refl w.heap.size w)
  have H : ((impl_TimerValid.f a0_0 a0_1 a0_2 a0_3 a0_4).bind fun t130 => (if t130 = true then (if (l1.length : Int) > 200 then (impl_TimerTrace.j0 k l1 a2 true a0_0 a0_1 a0_2 a0_3 a0_4) else ((impl_in.f a2 0 1000).bind fun t131 => (impl_TimerTrace.j0 k l1 a2 (!t131) a0_0 a0_1 a0_2 a0_3 a0_4))) else (impl_TimerTrace.j0 k l1 a2 true a0_0 a0_1 a0_2 a0_3 a0_4))) = some r := h
  clear h
  have HC4 := Aside0.mk H
  clear H
  go_enter Try.func49, Try.ntmps49
  go_upto_region 1 with (first | ((with_reducible refine gate_dst (N := 3) rfl ?_); (try (refine gate_guard (by rfl) ?_; dsimp only)); refine box_event ?hg (N := 3) ?hd (cs := #[.int .i64 a0_0, .int .i64 a0_1, .int .i64 a0_2, .bool a0_3, .bool a0_4]) (t := 28) ?hr ?_; (case hd => rfl); (case hg => rfl); (case hr => first | (go_simp; done) | (go_simp; rfl)); intro gb129 hg w5 hbox hb; have n0_ := Aside0.mk (below_step (by repeat (first | (with_reducible first | exact HB.out | apply below_alloc | apply pw_below_drewN | apply below_drew1) | exact HB.out)) hb); have n1_ := Aside0.mk (hbox); have n2_ := Aside0.mk ((by rw [hg]; exact (below_size (by repeat (first | (with_reducible first | exact HB.out | apply below_alloc | apply pw_below_drewN | apply below_drew1) | exact HB.out))) : w.heap.size ≤ gb129)); have n3_ := Aside0.mk ((by rw [hg]; exact (below_size (by repeat (first | (with_reducible first | exact HB.out | apply below_alloc | apply pw_below_drewN | apply below_drew1) | exact HB.out))) : w.heap.size ≤ gb129)); clear HB; have HB := n0_; have BK129 := n1_; have GW129 := n2_; have GE129 := n3_; clear n0_ n1_ n2_ n3_; clear hb hbox hg))
  (try simp only [Act.put, List.setIfInBounds_toArray, List.set_cons_zero, List.set_cons_succ])
  go_cut [22] (fun v22 wc => ∃ (kq : Nat) (x22_3 : Bool), v22 = .bool x22_3 ∧ Aside0 (impl_TimerTrace.j0 kq l1 a2 x22_3 a0_0 a0_1 a0_2 a0_3 a0_4 = some r) ∧ Aside0 (kq ≤ k) ∧ Aside0 (wc.heap[gb129]? = some (.cells #[.int .i64 a0_0, .int .i64 a0_1, .int .i64 a0_2, .bool a0_3, .bool a0_4] 28 (0, 0))) ∧ Aside0 (Below w.heap.size w wc))
  case first =>
    have H := HC4.out
    clear HC4
    replace H := Option.bind_eq_some_iff.mp H
    obtain ⟨t130, A60, H⟩ := H
    replace H : (if t130 = true then (if (l1.length : Int) > 200 then (impl_TimerTrace.j0 k l1 a2 true a0_0 a0_1 a0_2 a0_3 a0_4) else ((impl_in.f a2 0 1000).bind fun t131 => (impl_TimerTrace.j0 k l1 a2 (!t131) a0_0 a0_1 a0_2 a0_3 a0_4))) else (impl_TimerTrace.j0 k l1 a2 true a0_0 a0_1 a0_2 a0_3 a0_4)) = some r := H
    have A6 := Aside0.mk A60
    clear A60
    by_cases c7 : t130 = true
    · subst c7
      have H1 : (if (l1.length : Int) > 200 then (impl_TimerTrace.j0 k l1 a2 true a0_0 a0_1 a0_2 a0_3 a0_4) else ((impl_in.f a2 0 1000).bind fun t131 => (impl_TimerTrace.j0 k l1 a2 (!t131) a0_0 a0_1 a0_2 a0_3 a0_4))) = some r := by rw [if_pos rfl] at H; exact H
      clear H
      have H := H1
      clear H1
      by_cases c8 : (l1.length : Int) > 200
      · rw [if_pos c8] at H
        have c8b0 : decide (200 < (l1.length : Int)) = true := decide_eq_true c8
        have c8b1 : decide (200 < l1.length) = true := decide_eq_true (by omega)
        clear c8
        (first | rw [c8b0] | (simp only [i64_w, i32_w]; rw [c8b0]) | skip)
        have H' := Aside0.mk H
        clear H
        have hcz9_0 : w5.cell? ⟨gb129, 0, none⟩ = some (.int .i64 a0_0) := (blk_cell BK129.out 0).trans rfl
        have hcz9_1 : w5.cell? ⟨gb129, 1, none⟩ = some (.int .i64 a0_1) := (blk_cell BK129.out 1).trans rfl
        have hcz9_2 : w5.cell? ⟨gb129, 2, none⟩ = some (.int .i64 a0_2) := (blk_cell BK129.out 2).trans rfl
        have hcz9_3 : w5.cell? ⟨gb129, 3, none⟩ = some (.bool a0_3) := (blk_cell BK129.out 3).trans rfl
        have hcz9_4 : w5.cell? ⟨gb129, 4, none⟩ = some (.bool a0_4) := (blk_cell BK129.out 4).trans rfl
        have hfz9_0 := blk_frozen BK129.out 0
        have hfz9_1 := blk_frozen BK129.out 1
        have hfz9_2 := blk_frozen BK129.out 2
        have hfz9_3 := blk_frozen BK129.out 3
        have hfz9_4 := blk_frozen BK129.out 4
        go_wp2_with (first | ((with_reducible refine gate_callee (f := 59) rfl ?_); refine goesL_ (some 11) rfl rfl Try.func59 (by kernel_rfl) rfl #[.agg #[.int .i64 a0_0, .int .i64 a0_1, .int .i64 a0_2, .bool a0_3, .bool a0_4]] rfl (by (try simp only [List.map_toArray, List.map_cons, List.map_nil]); first | done | rfl | (simp only [List.length_drop, List.length_take]; rfl)) ?_; (with_reducible refine (impl_TimerValid.calls a0_0 a0_1 a0_2 a0_3 a0_4 true _ A6.out).mono ?_); rintro e w10 ⟨rfl, hb⟩; refine ⟨_, rfl, ?_⟩; have n0_ := Aside0.mk (blk_below (g := gb129) (o := .cells #[.int .i64 a0_0, .int .i64 a0_1, .int .i64 a0_2, .bool a0_3, .bool a0_4] 28 (0, 0)) (by (with_reducible repeat (first | refine blk_drewN ?_ _ | refine blk_drew ?_ | refine blk_alloc ?_ _)); exact BK129.out) hb); have n1_ := Aside0.mk (below_step (by repeat (first | (with_reducible first | exact HB.out | apply below_alloc | apply pw_below_drewN | apply below_drew1 | refine below_set ?_ GE129.out) | exact HB.out)) hb); clear BK129; clear HB; have BK129 := n0_; have HB := n1_; clear n0_ n1_; (try clear hb); (try clear hb2); (try clear hk); (try clear hi)))
        go_meet
        case rel => exact ⟨_, (true), (by first | rfl | (simp; done) | (simp [*]; done)), H', ⟨by first | omega | exact Nat.le_refl _⟩, ⟨by (with_reducible repeat (first | refine blk_drewN ?_ _ | refine blk_drew ?_ | refine blk_alloc ?_ _)); exact BK129.out⟩, ⟨by repeat (first | (with_reducible first | exact HB.out | apply below_alloc | apply pw_below_drewN | apply below_drew1 | refine below_set ?_ GE129.out) | exact HB.out)⟩⟩
      · rw [if_neg c8] at H
        have c8b0 : decide (200 < (l1.length : Int)) = false := decide_eq_false c8
        have c8b1 : decide (200 < l1.length) = false := decide_eq_false (by omega)
        clear c8
        (first | rw [c8b0] | (simp only [i64_w, i32_w]; rw [c8b0]) | skip)
        replace H := Option.bind_eq_some_iff.mp H
        obtain ⟨t131, A110, H⟩ := H
        replace H : (impl_TimerTrace.j0 k l1 a2 (!t131) a0_0 a0_1 a0_2 a0_3 a0_4) = some r := H
        have A11 := Aside0.mk A110
        clear A110
        have H' := Aside0.mk H
        clear H
        have hcz12_0 : w5.cell? ⟨gb129, 0, none⟩ = some (.int .i64 a0_0) := (blk_cell BK129.out 0).trans rfl
        have hcz12_1 : w5.cell? ⟨gb129, 1, none⟩ = some (.int .i64 a0_1) := (blk_cell BK129.out 1).trans rfl
        have hcz12_2 : w5.cell? ⟨gb129, 2, none⟩ = some (.int .i64 a0_2) := (blk_cell BK129.out 2).trans rfl
        have hcz12_3 : w5.cell? ⟨gb129, 3, none⟩ = some (.bool a0_3) := (blk_cell BK129.out 3).trans rfl
        have hcz12_4 : w5.cell? ⟨gb129, 4, none⟩ = some (.bool a0_4) := (blk_cell BK129.out 4).trans rfl
        have hfz12_0 := blk_frozen BK129.out 0
        have hfz12_1 := blk_frozen BK129.out 1
        have hfz12_2 := blk_frozen BK129.out 2
        have hfz12_3 := blk_frozen BK129.out 3
        have hfz12_4 := blk_frozen BK129.out 4
        go_wp2_with (first | ((with_reducible refine gate_callee (f := 59) rfl ?_); refine goesL_ (some 11) rfl rfl Try.func59 (by kernel_rfl) rfl #[.agg #[.int .i64 a0_0, .int .i64 a0_1, .int .i64 a0_2, .bool a0_3, .bool a0_4]] rfl (by (try simp only [List.map_toArray, List.map_cons, List.map_nil]); first | done | rfl | (simp only [List.length_drop, List.length_take]; rfl)) ?_; (with_reducible refine (impl_TimerValid.calls a0_0 a0_1 a0_2 a0_3 a0_4 true _ A6.out).mono ?_); rintro e w13 ⟨rfl, hb⟩; refine ⟨_, rfl, ?_⟩; have n0_ := Aside0.mk (blk_below (g := gb129) (o := .cells #[.int .i64 a0_0, .int .i64 a0_1, .int .i64 a0_2, .bool a0_3, .bool a0_4] 28 (0, 0)) (by (with_reducible repeat (first | refine blk_drewN ?_ _ | refine blk_drew ?_ | refine blk_alloc ?_ _)); exact BK129.out) hb); have n1_ := Aside0.mk (below_step (by repeat (first | (with_reducible first | exact HB.out | apply below_alloc | apply pw_below_drewN | apply below_drew1 | refine below_set ?_ GE129.out) | exact HB.out)) hb); clear BK129; clear HB; have BK129 := n0_; have HB := n1_; clear n0_ n1_; (try clear hb); (try clear hb2); (try clear hk); (try clear hi)) | (go_at_call 66; (with_reducible refine (impl_in.calls a2 0 1000 t131 _ A11.out).mono ?_); rintro e w' ⟨rfl, ⟨nd, rfl⟩⟩))
        go_meet
        case rel => exact ⟨_, (!t131), (by first | rfl | (simp; done) | (simp [*]; done)), H', ⟨by first | omega | exact Nat.le_refl _⟩, ⟨by (with_reducible repeat (first | refine blk_drewN ?_ _ | refine blk_drew ?_ | refine blk_alloc ?_ _)); exact BK129.out⟩, ⟨by repeat (first | (with_reducible first | exact HB.out | apply below_alloc | apply pw_below_drewN | apply below_drew1 | refine below_set ?_ GE129.out) | exact HB.out)⟩⟩
    · replace c7 := Bool.eq_false_iff.mpr c7
      subst c7
      have H1 : (impl_TimerTrace.j0 k l1 a2 true a0_0 a0_1 a0_2 a0_3 a0_4) = some r := by rw [if_neg (show ¬ (false = true) by decide)] at H; exact H
      clear H
      have H := H1
      clear H1
      have H' := Aside0.mk H
      clear H
      have hcz14_0 : w5.cell? ⟨gb129, 0, none⟩ = some (.int .i64 a0_0) := (blk_cell BK129.out 0).trans rfl
      have hcz14_1 : w5.cell? ⟨gb129, 1, none⟩ = some (.int .i64 a0_1) := (blk_cell BK129.out 1).trans rfl
      have hcz14_2 : w5.cell? ⟨gb129, 2, none⟩ = some (.int .i64 a0_2) := (blk_cell BK129.out 2).trans rfl
      have hcz14_3 : w5.cell? ⟨gb129, 3, none⟩ = some (.bool a0_3) := (blk_cell BK129.out 3).trans rfl
      have hcz14_4 : w5.cell? ⟨gb129, 4, none⟩ = some (.bool a0_4) := (blk_cell BK129.out 4).trans rfl
      have hfz14_0 := blk_frozen BK129.out 0
      have hfz14_1 := blk_frozen BK129.out 1
      have hfz14_2 := blk_frozen BK129.out 2
      have hfz14_3 := blk_frozen BK129.out 3
      have hfz14_4 := blk_frozen BK129.out 4
      go_wp2_with (first | ((with_reducible refine gate_callee (f := 59) rfl ?_); refine goesL_ (some 11) rfl rfl Try.func59 (by kernel_rfl) rfl #[.agg #[.int .i64 a0_0, .int .i64 a0_1, .int .i64 a0_2, .bool a0_3, .bool a0_4]] rfl (by (try simp only [List.map_toArray, List.map_cons, List.map_nil]); first | done | rfl | (simp only [List.length_drop, List.length_take]; rfl)) ?_; (with_reducible refine (impl_TimerValid.calls a0_0 a0_1 a0_2 a0_3 a0_4 false _ A6.out).mono ?_); rintro e w15 ⟨rfl, hb⟩; refine ⟨_, rfl, ?_⟩; have n0_ := Aside0.mk (blk_below (g := gb129) (o := .cells #[.int .i64 a0_0, .int .i64 a0_1, .int .i64 a0_2, .bool a0_3, .bool a0_4] 28 (0, 0)) (by (with_reducible repeat (first | refine blk_drewN ?_ _ | refine blk_drew ?_ | refine blk_alloc ?_ _)); exact BK129.out) hb); have n1_ := Aside0.mk (below_step (by repeat (first | (with_reducible first | exact HB.out | apply below_alloc | apply pw_below_drewN | apply below_drew1 | refine below_set ?_ GE129.out) | exact HB.out)) hb); clear BK129; clear HB; have BK129 := n0_; have HB := n1_; clear n0_ n1_; (try clear hb); (try clear hb2); (try clear hk); (try clear hi)))
      go_meet
      case rel => exact ⟨_, (true), (by first | rfl | (simp; done) | (simp [*]; done)), H', ⟨by first | omega | exact Nat.le_refl _⟩, ⟨by (with_reducible repeat (first | refine blk_drewN ?_ _ | refine blk_drew ?_ | refine blk_alloc ?_ _)); exact BK129.out⟩, ⟨by repeat (first | (with_reducible first | exact HB.out | apply below_alloc | apply pw_below_drewN | apply below_drew1 | refine below_set ?_ GE129.out) | exact HB.out)⟩⟩
  case rest =>
    clear HC4
    try clear c1
    try clear p2
    try clear c4
    try clear c5
    try clear c7
    try clear c8
    try clear c8b0
    try clear c8b1
    try clear hcz12_0
    try clear hcz12_1
    try clear hcz12_2
    try clear hcz12_3
    try clear hcz12_4
    try clear hcz14_0
    try clear hcz14_1
    try clear hcz14_2
    try clear hcz14_3
    try clear hcz14_4
    try clear hcz9_0
    try clear hcz9_1
    try clear hcz9_2
    try clear hcz9_3
    try clear hcz9_4
    try clear hfz12_0
    try clear hfz12_1
    try clear hfz12_2
    try clear hfz12_3
    try clear hfz12_4
    try clear hfz14_0
    try clear hfz14_1
    try clear hfz14_2
    try clear hfz14_3
    try clear hfz14_4
    try clear hfz9_0
    try clear hfz9_1
    try clear hfz9_2
    try clear hfz9_3
    try clear hfz9_4
    obtain ⟨kq, x22_3, rfl, HA, HJ3, BK129, HB⟩ := hcut
    cases kq with
    | zero => exact absurd HA.out (by simp [impl_TimerTrace.j0])
    | succ kj3 =>
      have H := HA.out
      clear HA
      simp only [impl_TimerTrace.j0] at H
      by_cases c16 : x22_3 = true
      · subst c16
        have H1 : (some ([] : List Bool)) = some r := by rw [if_pos rfl] at H; exact H
        clear H
        have H := H1
        clear H1
        obtain rfl := Option.some.inj H
        go_wp2
        go_ret
        exact ⟨_, by first | rfl | (simp [errW_none, errW_some] <;> rfl) | (simp [*, errW_none, errW_some] <;> rfl), by first | exact Kd.R_nil _ _ _ _ _ | exact Kd.N_nil _ _ _ _ _ | exact Kd.V_nil _ _ _ _ _ | exact Kd.Q_nil _ _ _ _ _ | exact Kd.S_nil _ _ _ _ _, by repeat (first | (with_reducible first | exact HB.out | apply below_alloc | apply pw_below_drewN | apply below_drew1 | refine below_set ?_ GE129.out) | exact HB.out)⟩
      · replace c16 := Bool.eq_false_iff.mpr c16
        subst c16
        have H1 : (if 0 ≤ (l1.length : Int) then (if ((l1.length : Int) : Int).toNat ≤ 281474976710656 then (impl_TimerTrace.l0 kj3 a2 (List.replicate ((l1.length : Int) : Int).toNat false) l1 (l1.length : Int) 0 a0_0 a0_1 a0_2 a0_3 a0_4) else (none)) else (none)) = some r := by rw [if_neg (show ¬ (false = true) by decide)] at H; exact H
        clear H
        have H := H1
        clear H1
        by_cases c17 : 0 ≤ (l1.length : Int)
        · rw [if_pos c17] at H
          have c17b0 := eq_true c17
          have c17b1 : decide (0 ≤ (l1.length : Int)) = true := decide_eq_true c17
          clear c17
          by_cases c18 : ((l1.length : Int) : Int).toNat ≤ 281474976710656
          · rw [if_pos c18] at H
            have c18b0 := eq_true c18
            have c18b1 : decide (((l1.length : Int) : Int).toNat ≤ 281474976710656) = true := decide_eq_true c18
            clear c18
            obtain ⟨y132, hy132⟩ : ∃ y_ : List Bool, y_ = (List.replicate ((l1.length : Int) : Int).toNat false) := ⟨_, rfl⟩
            replace H : (impl_TimerTrace.l0 kj3 a2 y132 l1 (l1.length : Int) 0 a0_0 a0_1 a0_2 a0_3 a0_4) = some r := by first | (rw [hy132]; with_reducible exact H) | (have H2_ := (Option.bind_some _ _).symm.trans H; rw [hy132]; with_reducible exact H2_) | (have H2_ := (Option.bind_some _ _).symm.trans H; with_reducible exact H2_) | with_reducible exact H | (rw [hy132]; exact H) | exact H
            have Ny132 := Aside0.mk hy132
            clear hy132
            have H' := Aside0.mk H
            clear H
            go_wp2_with (first | ((with_reducible refine gate_dst (N := 25) rfl ?_); (try (refine gate_guard (by rfl) ?_; dsimp only)); refine Kd.R_make Kd.bool _ 4 rfl (N := 25) rfl 32 _ _ rfl (l1.length : Int) rfl rfl Try.underlying32 (.bool false) 1 info4 rfl (by decide) (by omega) false (ok := fun _ => True) (okp := fun _ => True) rfl (fun _ hk => hk) trivial (of_decide_eq_true (by first | (with_reducible assumption) | assumption)) (Nat.le_trans (Nat.mul_le_mul_right _ (of_decide_eq_true (by first | (with_reducible assumption) | assumption) : (l1.length : Int).toNat ≤ 281474976710656)) (by omega)) (Below.refl _ _) (Nat.le_refl _) ?_; intro v133 w19 ho20 hb hg_ hnew_; clear hg_ hnew_; (first | rw [← Ny132.out] at ho20 | (simp only [Int.reduceToNat] at ho20; rw [← Ny132.out] at ho20)); have n0_ := Aside0.mk (Kd.R_lower ho20 (below_size (by repeat (first | (with_reducible first | exact HB.out | apply below_alloc | apply pw_below_drewN | apply below_drew1 | refine below_set ?_ GE129.out) | exact HB.out)))); have n1_ := Aside0.mk (blk_below (g := gb129) (o := .cells #[.int .i64 a0_0, .int .i64 a0_1, .int .i64 a0_2, .bool a0_3, .bool a0_4] 28 (0, 0)) (by (with_reducible repeat (first | refine blk_drewN ?_ _ | refine blk_drew ?_ | refine blk_alloc ?_ _)); exact BK129.out) hb); have n2_ := Aside0.mk (below_step (by repeat (first | (with_reducible first | exact HB.out | apply below_alloc | apply pw_below_drewN | apply below_drew1 | refine below_set ?_ GE129.out) | exact HB.out)) hb); clear BK129; clear HB; have HO134 := n0_; have BK129 := n1_; have HB := n2_; clear n0_ n1_ n2_; clear hb ho20))
            go_loopg [28] kj3 (fun kq v28 w' => ∃ (x7_2 : List Bool) (x28_2 : Int) (x130000_2 : Int) (x130001_2 : Int) (x130002_2 : Int) (x130003_2 : Bool) (x130004_2 : Bool), v28 = .int .i64 x28_2 ∧ Aside0 (impl_TimerTrace.l0 kq a2 x7_2 l1 (l1.length : Int) x28_2 x130000_2 x130001_2 x130002_2 x130003_2 x130004_2 = some r) ∧ Aside0 (kq ≤ kj3) ∧ Aside0 (Kd.R Kd.bool 4 w' w.heap.size (fun _ => True) v133 x7_2) ∧ Aside0 (w'.heap[gb129]? = some (.cells #[.int .i64 x130000_2, .int .i64 x130001_2, .int .i64 x130002_2, .bool x130003_2, .bool x130004_2] 28 (0, 0))) ∧ Aside0 (Below w.heap.size w w'))
            case atStart => exact ⟨(y132), (0), (a0_0), (a0_1), (a0_2), (a0_3), (a0_4), (by first | rfl | (simp; done) | (simp [*]; done)), H', ⟨Nat.le_refl _⟩, ⟨by (with_reducible repeat (first | apply Kd.R_alloc | apply Kd.R_drewN | apply Kd.R_drew)); exact HO134.out⟩, ⟨by (with_reducible repeat (first | refine blk_drewN ?_ _ | refine blk_drew ?_ | refine blk_alloc ?_ _)); exact BK129.out⟩, ⟨by repeat (first | (with_reducible first | exact HB.out | apply below_alloc | apply pw_below_drewN | apply below_drew1 | refine below_set ?_ GE129.out) | exact HB.out)⟩⟩
            case round =>
              clear H'
              try clear c1
              try clear p2
              try clear c4
              try clear c5
              try clear c7
              try clear c8
              try clear c8b0
              try clear c8b1
              try clear c16
              try clear c17
              try clear c17b0
              try clear c17b1
              try clear c18
              try clear c18b0
              try clear c18b1
              try clear hcz12_0
              try clear hcz12_1
              try clear hcz12_2
              try clear hcz12_3
              try clear hcz12_4
              try clear hcz14_0
              try clear hcz14_1
              try clear hcz14_2
              try clear hcz14_3
              try clear hcz14_4
              try clear hcz9_0
              try clear hcz9_1
              try clear hcz9_2
              try clear hcz9_3
              try clear hcz9_4
              try clear hfz12_0
              try clear hfz12_1
              try clear hfz12_2
              try clear hfz12_3
              try clear hfz12_4
              try clear hfz14_0
              try clear hfz14_1
              try clear hfz14_2
              try clear hfz14_3
              try clear hfz14_4
              try clear hfz9_0
              try clear hfz9_1
              try clear hfz9_2
              try clear hfz9_3
              try clear hfz9_4
              try clear p2
              obtain ⟨x7_2, x28_2, x130000_2, x130001_2, x130002_2, x130003_2, x130004_2, rfl, HA, HK2, HO_7, BK129, HB⟩ := hrel
              cases gk with
              | zero => exact absurd HA.out (by simp [impl_TimerTrace.l0])
              | succ k2 =>
                have H := HA.out
                clear HA
                simp only [impl_TimerTrace.l0] at H
                by_cases c21 : x28_2 < (l1.length : Int)
                · rw [if_pos c21] at H
                  have c21b0 : decide (x28_2 < (l1.length : Int)) = true := decide_eq_true c21
                  clear c21
                  by_cases c22 : 0 ≤ x28_2
                  · rw [if_pos c22] at H
                    have c22b0 : decide (0 ≤ x28_2) = true := decide_eq_true c22
                    clear c22
                    by_cases c23 : x28_2 < (l1.length : Int)
                    · rw [if_pos c23] at H
                      have c23b0 : decide (x28_2 < (l1.length : Int)) = true := decide_eq_true c23
                      clear c23
                      replace H := Option.bind_eq_some_iff.mp H
                      obtain ⟨⟨t136, t137, t138, t139, t140⟩, A240, H⟩ := H
                      replace H : (if x28_2 < (x7_2.length : Int) then (impl_TimerTrace.l0 k2 a2 (x7_2.set (x28_2 : Int).toNat t140) l1 (l1.length : Int) (wrap64 (x28_2 + 1)) t136 t137 t138 t139 t140) else (none)) = some r := H
                      have A24 := Aside0.mk A240
                      clear A240
                      by_cases c25 : x28_2 < (x7_2.length : Int)
                      · rw [if_pos c25] at H
                        have c25b0 : decide (x28_2 < (x7_2.length : Int)) = true := decide_eq_true c25
                        clear c25
                        obtain ⟨y141, hy141⟩ : ∃ y_ : List Bool, y_ = (x7_2.set (x28_2 : Int).toNat t140) := ⟨_, rfl⟩
                        replace H : (impl_TimerTrace.l0 k2 a2 y141 l1 (l1.length : Int) (wrap64 (x28_2 + 1)) t136 t137 t138 t139 t140) = some r := by first | (rw [hy141]; with_reducible exact H) | (have H2_ := (Option.bind_some _ _).symm.trans H; rw [hy141]; with_reducible exact H2_) | (have H2_ := (Option.bind_some _ _).symm.trans H; with_reducible exact H2_) | with_reducible exact H | (rw [hy141]; exact H) | exact H
                        have Ny141 := Aside0.mk hy141
                        clear hy141
                        have H' := Aside0.mk H
                        clear H
                        have p135 : 0 ≤ (x28_2 : Int) := of_decide_eq_true (by first | (with_reducible assumption) | assumption)
                        have q135 : x28_2 < (l1.length : Int) := of_decide_eq_true (by first | (with_reducible assumption) | assumption)
                        obtain ⟨ad135, e135, hx135_0⟩ := Kd.at_bool HR1.out x28_2 p135 q135
                        cases e135
                        replace hx135_0 := (HB.out.cell (World.block_lt_of_cell? w _ hx135_0)).trans hx135_0
                        replace p135 := eq_true p135
                        replace q135 := eq_true q135
                        have hcz27_0 : wr.cell? ⟨gb129, 0, none⟩ = some (.int .i64 x130000_2) := (blk_cell BK129.out 0).trans rfl
                        have hcz27_1 : wr.cell? ⟨gb129, 1, none⟩ = some (.int .i64 x130001_2) := (blk_cell BK129.out 1).trans rfl
                        have hcz27_2 : wr.cell? ⟨gb129, 2, none⟩ = some (.int .i64 x130002_2) := (blk_cell BK129.out 2).trans rfl
                        have hcz27_3 : wr.cell? ⟨gb129, 3, none⟩ = some (.bool x130003_2) := (blk_cell BK129.out 3).trans rfl
                        have hcz27_4 : wr.cell? ⟨gb129, 4, none⟩ = some (.bool x130004_2) := (blk_cell BK129.out 4).trans rfl
                        have hfz27_0 := blk_frozen BK129.out 0
                        have hfz27_1 := blk_frozen BK129.out 1
                        have hfz27_2 := blk_frozen BK129.out 2
                        have hfz27_3 := blk_frozen BK129.out 3
                        have hfz27_4 := blk_frozen BK129.out 4
                        go_wp2_with (first | ((with_reducible refine gate_callee (f := 72) rfl ?_); refine goesL_ (some 36) rfl rfl Try.func72 (by kernel_rfl) rfl #[.agg #[.int .i64 x130000_2, .int .i64 x130001_2, .int .i64 x130002_2, .bool x130003_2, .bool x130004_2], .bool (rdOf false l1 x28_2), .int .i64 a2] rfl (by (try simp only [List.map_toArray, List.map_cons, List.map_nil]); first | done | rfl | (simp only [List.length_drop, List.length_take]; rfl)) ?_; (with_reducible refine (impl_Timer_step.calls x130000_2 x130001_2 x130002_2 x130003_2 x130004_2 (rdOf false l1 x28_2) a2 t136 t137 t138 t139 t140 _ A24.out).mono ?_); rintro e w28 ⟨rfl, hb⟩; refine ⟨_, rfl, ?_⟩; have n0_ := Aside0.mk (Kd.R_below (by (with_reducible repeat (first | apply Kd.R_alloc | apply Kd.R_drewN | apply Kd.R_drew)); exact HO_7.out) hb); have n1_ := Aside0.mk (blk_below (g := gb129) (o := .cells #[.int .i64 x130000_2, .int .i64 x130001_2, .int .i64 x130002_2, .bool x130003_2, .bool x130004_2] 28 (0, 0)) (by (with_reducible repeat (first | refine blk_drewN ?_ _ | refine blk_drew ?_ | refine blk_alloc ?_ _)); exact BK129.out) hb); have n2_ := Aside0.mk (below_step (by repeat (first | (with_reducible first | exact HB.out | apply below_alloc | apply pw_below_drewN | apply below_drew1 | refine below_set ?_ GE129.out) | exact HB.out)) hb); clear HO_7; clear BK129; clear HB; have HO_7 := n0_; have BK129 := n1_; have HB := n2_; clear n0_ n1_ n2_; (try clear hb); (try clear hb2); (try clear hk); (try clear hi); have hcz29_0 : w28.cell? ⟨gb129, 0, none⟩ = some (.int .i64 x130000_2) := (blk_cell BK129.out 0).trans rfl; have hcz29_1 : w28.cell? ⟨gb129, 1, none⟩ = some (.int .i64 x130001_2) := (blk_cell BK129.out 1).trans rfl; have hcz29_2 : w28.cell? ⟨gb129, 2, none⟩ = some (.int .i64 x130002_2) := (blk_cell BK129.out 2).trans rfl; have hcz29_3 : w28.cell? ⟨gb129, 3, none⟩ = some (.bool x130003_2) := (blk_cell BK129.out 3).trans rfl; have hcz29_4 : w28.cell? ⟨gb129, 4, none⟩ = some (.bool x130004_2) := (blk_cell BK129.out 4).trans rfl; have hfz29_0 := blk_frozen BK129.out 0; have hfz29_1 := blk_frozen BK129.out 1; have hfz29_2 := blk_frozen BK129.out 2; have hfz29_3 := blk_frozen BK129.out 3; have hfz29_4 := blk_frozen BK129.out 4) | ((with_reducible refine gate_store (t := 28) (p := 3) rfl ?_); refine store_event (t := 28) (p := 3) (v := ?vo_w30) (w1 := (((((w28.setCell ⟨gb129, 0, none⟩ (.int .i64 t136)).setCell ⟨gb129, 1, none⟩ (.int .i64 t137)).setCell ⟨gb129, 2, none⟩ (.int .i64 t138)).setCell ⟨gb129, 3, none⟩ (.bool t139)).setCell ⟨gb129, 4, none⟩ (.bool t140))) ?hg ?ho ?hn ?hr ?_; (case ho => rfl); (case hg => rfl); (case hn => rfl); (case hr => first | (go_simp; done) | (go_simp; rfl)); intro w30 hw; have n0_ : Aside0 (Kd.R Kd.bool 4 w30 w.heap.size (fun _ => True) v133 x7_2) := ⟨(by rw [hw]; exact (by (with_reducible repeat (first | apply Kd.R_alloc | apply Kd.R_drewN | apply Kd.R_drew)); exact Kd.R_mono (Kd.R_far (p := ⟨gb129, 4, none⟩) (Kd.R_far (p := ⟨gb129, 3, none⟩) (Kd.R_far (p := ⟨gb129, 2, none⟩) (Kd.R_far (p := ⟨gb129, 1, none⟩) (Kd.R_far (p := ⟨gb129, 0, none⟩) (Kd.R_types HO_7.out BK129.out (by decide)) (fun _ hk => hk.2) (.int .i64 t136)) (fun _ hk => hk.2) (.int .i64 t137)) (fun _ hk => hk.2) (.int .i64 t138)) (fun _ hk => hk.2) (.bool t139)) (fun _ hk => hk.2) (.bool t140)) (fun _ hk => trivial)))⟩; have n1_ : Aside0 (w30.heap[gb129]? = some (.cells #[.int .i64 t136, .int .i64 t137, .int .i64 t138, .bool t139, .bool t140] 28 (0, 0))) := ⟨(by rw [hw]; exact (by (with_reducible repeat (first | refine blk_drewN ?_ _ | refine blk_drew ?_ | refine blk_alloc ?_ _)); refine blk_put (cs := #[.int .i64 t136, .int .i64 t137, .int .i64 t138, .bool t139, .bool x130004_2]) ?_ 4 _ rfl; (with_reducible repeat (first | refine blk_drewN ?_ _ | refine blk_drew ?_ | refine blk_alloc ?_ _)); refine blk_put (cs := #[.int .i64 t136, .int .i64 t137, .int .i64 t138, .bool x130003_2, .bool x130004_2]) ?_ 3 _ rfl; (with_reducible repeat (first | refine blk_drewN ?_ _ | refine blk_drew ?_ | refine blk_alloc ?_ _)); refine blk_put (cs := #[.int .i64 t136, .int .i64 t137, .int .i64 x130002_2, .bool x130003_2, .bool x130004_2]) ?_ 2 _ rfl; (with_reducible repeat (first | refine blk_drewN ?_ _ | refine blk_drew ?_ | refine blk_alloc ?_ _)); refine blk_put (cs := #[.int .i64 t136, .int .i64 x130001_2, .int .i64 x130002_2, .bool x130003_2, .bool x130004_2]) ?_ 1 _ rfl; (with_reducible repeat (first | refine blk_drewN ?_ _ | refine blk_drew ?_ | refine blk_alloc ?_ _)); refine blk_put (cs := #[.int .i64 x130000_2, .int .i64 x130001_2, .int .i64 x130002_2, .bool x130003_2, .bool x130004_2]) ?_ 0 _ rfl; (with_reducible repeat (first | refine blk_drewN ?_ _ | refine blk_drew ?_ | refine blk_alloc ?_ _)); exact BK129.out))⟩; have n2_ : Aside0 (Below w.heap.size w w30) := ⟨(by rw [hw]; exact (by repeat (first | (with_reducible first | exact HB.out | apply below_alloc | apply pw_below_drewN | apply below_drew1 | refine below_set ?_ GE129.out) | exact HB.out)))⟩; clear hw; clear HO_7; clear BK129; clear HB; have HO_7 := n0_; have BK129 := n1_; have HB := n2_; clear n0_ n1_ n2_; have hcz31_0 : w30.cell? ⟨gb129, 0, none⟩ = some (.int .i64 t136) := (blk_cell BK129.out 0).trans rfl; have hcz31_1 : w30.cell? ⟨gb129, 1, none⟩ = some (.int .i64 t137) := (blk_cell BK129.out 1).trans rfl; have hcz31_2 : w30.cell? ⟨gb129, 2, none⟩ = some (.int .i64 t138) := (blk_cell BK129.out 2).trans rfl; have hcz31_3 : w30.cell? ⟨gb129, 3, none⟩ = some (.bool t139) := (blk_cell BK129.out 3).trans rfl; have hcz31_4 : w30.cell? ⟨gb129, 4, none⟩ = some (.bool t140) := (blk_cell BK129.out 4).trans rfl; have hfz31_0 := blk_frozen BK129.out 0; have hfz31_1 := blk_frozen BK129.out 1; have hfz31_2 := blk_frozen BK129.out 2; have hfz31_3 := blk_frozen BK129.out 3; have hfz31_4 := blk_frozen BK129.out 4; have p26 : 0 ≤ (x28_2 : Int) := of_decide_eq_true (by first | (with_reducible assumption) | assumption); have q26 : (x28_2 : Int) < ((x7_2.length : Int) : Int) := of_decide_eq_true (by first | (with_reducible assumption) | assumption); obtain ⟨go26, co26, eo26, gb26, gl26, cl26, HG26⟩ := Kd.R_form HO_7.out (by omega); (first | cases eo26 | (injection eo26 with ea_ en_ ec_; (first | subst ea_ | (injection ea_ with ea_; subst ea_)); subst ec_; clear en_)); have GB26 := Aside0.mk gb26; have GG26 := Aside0.mk HG26; clear gb26 gl26 HG26; obtain ⟨hx26_0, hf26_0⟩ := Kd.R_celln false HO_7.out (x28_2 : Int) p26 q26; replace p26 := eq_true p26; replace q26 := eq_true q26; obtain ⟨hy32_, hz32_⟩ := Kd.R_celln false HO_7.out (x28_2 : Int) (of_decide_eq_true (by first | (with_reducible assumption) | assumption)) (of_decide_eq_true (by first | (with_reducible assumption) | assumption)); have HP32 := Kd.R_putg HO_7.out (x28_2 : Int) t140) | ((with_reducible refine gate_store (t := 4) (p := 41) rfl ?_); refine store_event (t := 4) (p := 41) (v := ?vo_w33) (w1 := (w30.setCell ⟨go26, (x28_2 : Int).toNat, none⟩ (.bool t140))) ?hg ?ho ?hn ?hr ?_; (case ho => rfl); (case hg => rfl); (case hn => rfl); (case hr => first | (go_simp; done) | (go_simp; rfl)); intro w33 hw; have hg : w30.grownBy w33 (some go26) := (by rw [hw]; exact HP32.2); have hp_ : Kd.R Kd.bool 4 w33 w.heap.size (fun _ => True) (.slice (some ⟨go26, 0, none⟩) x7_2.length co26) y141 := (by rw [hw, Ny141.out]; exact HP32.1); clear HP32; have n0_ := Aside0.mk (hp_); have n1_ := Aside0.mk (blk_grown (g := gb129) (o := .cells #[.int .i64 t136, .int .i64 t137, .int .i64 t138, .bool t139, .bool t140] 28 (0, 0)) (by (with_reducible repeat (first | refine blk_drewN ?_ _ | refine blk_drew ?_ | refine blk_alloc ?_ _)); exact BK129.out) hg (Kd.R_ne HO_7.out BK129.out (by decide))); have n2_ := Aside0.mk ((by rw [hw]; exact below_set (HB.out) GB26.out : Below w.heap.size w w33)); clear HO_7; clear BK129; clear HB; have HO_7 := n0_; have BK129 := n1_; have HB := n2_; clear n0_ n1_ n2_; clear hg hw hp_))
                        go_roundg k2
                        case measure => have := HJ3.out; have := HK2.out; omega
                        case rel => exact ⟨(y141), (wrap64 (x28_2 + 1)), (t136), (t137), (t138), (t139), (t140), (by first | rfl | (simp; done) | (simp [*]; done)), H', ⟨by have := HJ3.out; have := HK2.out; omega⟩, ⟨by (with_reducible repeat (first | apply Kd.R_alloc | apply Kd.R_drewN | apply Kd.R_drew)); exact HO_7.out⟩, ⟨by (with_reducible repeat (first | refine blk_drewN ?_ _ | refine blk_drew ?_ | refine blk_alloc ?_ _)); exact BK129.out⟩, ⟨by repeat (first | (with_reducible first | exact HB.out | apply below_alloc | apply pw_below_drewN | apply below_drew1 | refine below_set ?_ GE129.out) | exact HB.out)⟩⟩
                      · rw [if_neg c25] at H
                        exact absurd H (by simp)
                    · rw [if_neg c23] at H
                      exact absurd H (by simp)
                  · rw [if_neg c22] at H
                    exact absurd H (by simp)
                · rw [if_neg c21] at H
                  have c21b0 : decide (x28_2 < (l1.length : Int)) = false := decide_eq_false c21
                  clear c21
                  obtain rfl := Option.some.inj H
                  go_wp2
                  go_ret
                  exact ⟨_, by first | rfl | (simp [errW_none, errW_some] <;> rfl) | (simp [*, errW_none, errW_some] <;> rfl), by (with_reducible repeat (first | apply Kd.R_alloc | apply Kd.R_drewN | apply Kd.R_drew)); exact HO_7.out, by repeat (first | (with_reducible first | exact HB.out | apply below_alloc | apply pw_below_drewN | apply below_drew1 | refine below_set ?_ GE129.out) | exact HB.out)⟩
          · rw [if_neg c18] at H
            exact absurd H (by simp)
        · rw [if_neg c17] at H
          exact absurd H (by simp)

end Go.Proofs.Ytflemeaaiokjmaa.GFnTimerPulse

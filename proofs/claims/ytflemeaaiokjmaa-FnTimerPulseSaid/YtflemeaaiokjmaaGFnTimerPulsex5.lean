/- Functions of the program as Lean functions, with proofs that the machine comes to their answers; written by this session's program mkprint.py; no condition beyond each theorem's own. -/
import Derived.Test.YtflemeaaiokjmaaGFnTimerPulsex0
import Derived.Test.YtflemeaaiokjmaaGFnTimerPulsex1
import Derived.Test.YtflemeaaiokjmaaGFnTimerPulsex2
import Derived.Test.YtflemeaaiokjmaaGFnTimerPulsex3
import Derived.Test.YtflemeaaiokjmaaGFnTimerPulsex4
namespace Go.Proofs.Ytflemeaaiokjmaa.GFnTimerPulse
open Go.RowKit Go.Proofs.YtflemeaaiokjmaaV.PrintWords Go.Proofs.YtflemeaaiokjmaaV.PrintLast Go.Proofs.YtflemeaaiokjmaaV.PrintMore
attribute [local go_sem] max2_int min2_int max_two min_two max_three min_three max_four min_four   -- for this text's walks alone
set_option linter.unusedVariables false
set_option linter.unusedSimpArgs false

/-! ### laws_FnTimerPulse: function 14 -/
mutual
def laws_FnTimerPulse.j0 : Nat → List Int → List Int → Bool → Option (Bool)
  | 0, _, _, _ => none
  | k + 1, x0, x1, x25 => if x25 = true then (some true) else ((spec_DrawNewTimer.f k x0).bind fun bt167 => ((impl_NewTimer.f 3 (wrap64 ((1 + ((mx 0 bt167.2) % 40)) * (1 + ((x1.length : Int) % 50))))).bind fun bt169 => (laws_FnTimerPulse.l0 k x1 (1 + ((x1.length : Int) % 50)) (1 + ((mx 0 bt167.2) % 40)) (([true] : List Bool)) 1 bt169.1 bt169.2.1 bt169.2.2.1 bt169.2.2.2.1 bt169.2.2.2.2)))
def laws_FnTimerPulse.l0 : Nat → List Int → Int → Int → List Bool → Int → Int → Int → Int → Bool → Bool → Option (Bool)
  | 0, _, _, _, _, _, _, _, _, _, _ => none
  | k + 1, x1, x7, x8, x10, x11, x175000, x175001, x175002, x175003, x175004 => if x11 < x8 then (if x11 < (x1.length : Int) then (if 0 ≤ x11 then (if x10.length < 140737488355328 then (laws_FnTimerPulse.l0 k x1 x7 x8 (x10 ++ [((Int.tmod (rd x1 x11) 2) == 1)]) (wrap64 (x11 + 1)) x175000 x175001 x175002 x175003 x175004) else (none)) else (none)) else (if x10.length < 140737488355328 then (laws_FnTimerPulse.l0 k x1 x7 x8 (x10 ++ [false]) (wrap64 (x11 + 1)) x175000 x175001 x175002 x175003 x175004) else (none))) else ((impl_TimerTrace.f k x175000 x175001 x175002 x175003 x175004 x10 x7).bind fun t185 => (laws_FnTimerPulse.l1 k x7 x8 x10 t185 0 x175000 x175001 x175002 x175003 x175004))
def laws_FnTimerPulse.l1 : Nat → Int → Int → List Bool → List Bool → Int → Int → Int → Int → Bool → Bool → Option (Bool)
  | 0, _, _, _, _, _, _, _, _, _, _ => none
  | k + 1, x7, x8, x10, x12, x13, x175000, x175001, x175002, x175003, x175004 => if x13 < (x12.length : Int) then (if 0 ≤ x13 then (if rdOf false x12 x13 = true then (laws_FnTimerPulse.l1 k x7 x8 x10 x12 (wrap64 (x13 + 1)) x175000 x175001 x175002 x175003 x175004) else (some false)) else (none)) else (if 0 ≤ (wrap64 (x8 + 3)) then (if (wrap64 (x8 + 3) : Int).toNat ≤ 281474976710656 then (laws_FnTimerPulse.l2 k x7 x8 x10 x12 (List.replicate (wrap64 (x8 + 3) : Int).toNat false) 0 x175000 x175001 x175002 x175003 x175004) else (none)) else (none))
def laws_FnTimerPulse.l2 : Nat → Int → Int → List Bool → List Bool → List Bool → Int → Int → Int → Int → Bool → Bool → Option (Bool)
  | 0, _, _, _, _, _, _, _, _, _, _, _ => none
  | k + 1, x7, x8, x10, x12, x14, x15, x175000, x175001, x175002, x175003, x175004 => if x15 < (x14.length : Int) then (if 0 ≤ x15 then (laws_FnTimerPulse.l2 k x7 x8 x10 x12 (x14.set (x15 : Int).toNat true) (wrap64 (x15 + 1)) x175000 x175001 x175002 x175003 x175004) else (none)) else ((impl_TimerTrace.f k x175000 x175001 x175002 x175003 x175004 x14 x7).bind fun t193 => (laws_FnTimerPulse.l3 k x7 x8 x10 x12 t193 0 x175000 x175001 x175002 x175003 x175004))
def laws_FnTimerPulse.l3 : Nat → Int → Int → List Bool → List Bool → List Bool → Int → Int → Int → Int → Bool → Bool → Option (Bool)
  | 0, _, _, _, _, _, _, _, _, _, _, _ => none
  | k + 1, x7, x8, x10, x12, x16, x17, x175000, x175001, x175002, x175003, x175004 => if x17 < (x16.length : Int) then (if 0 ≤ x17 then (if ((rdOf false x16 x17) != (decide (x17 < x8))) = true then (some false) else (laws_FnTimerPulse.l3 k x7 x8 x10 x12 x16 (wrap64 (x17 + 1)) x175000 x175001 x175002 x175003 x175004)) else (none)) else (if (x12.length : Int) = x8 then ((spec_TimerTrace.f k x175000 x175001 x175002 x175003 x175004 x10 x7).bind fun t197 => ((laws_sameBools.f k x12 t197).bind fun t200 => (some t200))) else (some false))
end
def laws_FnTimerPulse.f (k : Nat) (l0 : List Int) (l1 : List Int) : Option (Bool) := if (l0.length : Int) > 1048576 then (laws_FnTimerPulse.j0 k l0 l1 true) else (laws_FnTimerPulse.j0 k l0 l1 (decide ((l1.length : Int) > 1048576)))
theorem laws_FnTimerPulse.mono_l : ∀ k, (∀ y0 y1 y2, LeO (laws_FnTimerPulse.j0 k y0 y1 y2) (laws_FnTimerPulse.j0 (k + 1) y0 y1 y2)) ∧ (∀ y0 y1 y2 y3 y4 y5 y6 y7 y8 y9, LeO (laws_FnTimerPulse.l0 k y0 y1 y2 y3 y4 y5 y6 y7 y8 y9) (laws_FnTimerPulse.l0 (k + 1) y0 y1 y2 y3 y4 y5 y6 y7 y8 y9)) ∧ (∀ y0 y1 y2 y3 y4 y5 y6 y7 y8 y9, LeO (laws_FnTimerPulse.l1 k y0 y1 y2 y3 y4 y5 y6 y7 y8 y9) (laws_FnTimerPulse.l1 (k + 1) y0 y1 y2 y3 y4 y5 y6 y7 y8 y9)) ∧ (∀ y0 y1 y2 y3 y4 y5 y6 y7 y8 y9 y10, LeO (laws_FnTimerPulse.l2 k y0 y1 y2 y3 y4 y5 y6 y7 y8 y9 y10) (laws_FnTimerPulse.l2 (k + 1) y0 y1 y2 y3 y4 y5 y6 y7 y8 y9 y10)) ∧ (∀ y0 y1 y2 y3 y4 y5 y6 y7 y8 y9 y10, LeO (laws_FnTimerPulse.l3 k y0 y1 y2 y3 y4 y5 y6 y7 y8 y9 y10) (laws_FnTimerPulse.l3 (k + 1) y0 y1 y2 y3 y4 y5 y6 y7 y8 y9 y10))
  | 0 => ⟨fun _ _ _ r h => by simp [laws_FnTimerPulse.j0] at h, fun _ _ _ _ _ _ _ _ _ _ r h => by simp [laws_FnTimerPulse.l0] at h, fun _ _ _ _ _ _ _ _ _ _ r h => by simp [laws_FnTimerPulse.l1] at h, fun _ _ _ _ _ _ _ _ _ _ _ r h => by simp [laws_FnTimerPulse.l2] at h, fun _ _ _ _ _ _ _ _ _ _ _ r h => by simp [laws_FnTimerPulse.l3] at h⟩
  | k + 1 => by
    obtain ⟨ih0, ih1, ih2, ih3, ih4⟩ := laws_FnTimerPulse.mono_l k
    refine ⟨?_, ?_, ?_, ?_, ?_⟩
    · intro y0 y1 y2
      unfold laws_FnTimerPulse.j0
      repeat' first
      | (with_reducible exact ih0 _ _ _)
      | (with_reducible exact ih1 _ _ _ _ _ _ _ _ _ _)
      | (with_reducible exact ih2 _ _ _ _ _ _ _ _ _ _)
      | (with_reducible exact ih3 _ _ _ _ _ _ _ _ _ _ _)
      | (with_reducible exact ih4 _ _ _ _ _ _ _ _ _ _ _)
      | (with_reducible exact impl_TimerTrace.mono _ _ _ _ _ _ _ _)
      | (with_reducible exact laws_sameBools.mono _ _ _)
      | (with_reducible exact spec_DrawNewTimer.mono _ _)
      | (with_reducible exact spec_TimerTrace.mono _ _ _ _ _ _ _ _)
      | (with_reducible exact LeO.refl _)
      | (with_reducible exact LeO.none _)
      | (with_reducible refine LeO.ite ?_ ?_)
      | (with_reducible refine LeO.bind ?_ (fun _ => ?_))
      | exact ih0 _ _ _
      | exact ih1 _ _ _ _ _ _ _ _ _ _
      | exact ih2 _ _ _ _ _ _ _ _ _ _
      | exact ih3 _ _ _ _ _ _ _ _ _ _ _
      | exact ih4 _ _ _ _ _ _ _ _ _ _ _
      | exact impl_TimerTrace.mono _ _ _ _ _ _ _ _
      | exact laws_sameBools.mono _ _ _
      | exact spec_DrawNewTimer.mono _ _
      | exact spec_TimerTrace.mono _ _ _ _ _ _ _ _
      | exact LeO.none _
      | refine LeO.ite ?_ ?_
      | refine LeO.bind ?_ (fun _ => ?_)
    · intro y0 y1 y2 y3 y4 y5 y6 y7 y8 y9
      unfold laws_FnTimerPulse.l0
      repeat' first
      | (with_reducible exact ih0 _ _ _)
      | (with_reducible exact ih1 _ _ _ _ _ _ _ _ _ _)
      | (with_reducible exact ih2 _ _ _ _ _ _ _ _ _ _)
      | (with_reducible exact ih3 _ _ _ _ _ _ _ _ _ _ _)
      | (with_reducible exact ih4 _ _ _ _ _ _ _ _ _ _ _)
      | (with_reducible exact impl_TimerTrace.mono _ _ _ _ _ _ _ _)
      | (with_reducible exact laws_sameBools.mono _ _ _)
      | (with_reducible exact spec_DrawNewTimer.mono _ _)
      | (with_reducible exact spec_TimerTrace.mono _ _ _ _ _ _ _ _)
      | (with_reducible exact LeO.refl _)
      | (with_reducible exact LeO.none _)
      | (with_reducible refine LeO.ite ?_ ?_)
      | (with_reducible refine LeO.bind ?_ (fun _ => ?_))
      | exact ih0 _ _ _
      | exact ih1 _ _ _ _ _ _ _ _ _ _
      | exact ih2 _ _ _ _ _ _ _ _ _ _
      | exact ih3 _ _ _ _ _ _ _ _ _ _ _
      | exact ih4 _ _ _ _ _ _ _ _ _ _ _
      | exact impl_TimerTrace.mono _ _ _ _ _ _ _ _
      | exact laws_sameBools.mono _ _ _
      | exact spec_DrawNewTimer.mono _ _
      | exact spec_TimerTrace.mono _ _ _ _ _ _ _ _
      | exact LeO.none _
      | refine LeO.ite ?_ ?_
      | refine LeO.bind ?_ (fun _ => ?_)
    · intro y0 y1 y2 y3 y4 y5 y6 y7 y8 y9
      unfold laws_FnTimerPulse.l1
      repeat' first
      | (with_reducible exact ih0 _ _ _)
      | (with_reducible exact ih1 _ _ _ _ _ _ _ _ _ _)
      | (with_reducible exact ih2 _ _ _ _ _ _ _ _ _ _)
      | (with_reducible exact ih3 _ _ _ _ _ _ _ _ _ _ _)
      | (with_reducible exact ih4 _ _ _ _ _ _ _ _ _ _ _)
      | (with_reducible exact impl_TimerTrace.mono _ _ _ _ _ _ _ _)
      | (with_reducible exact laws_sameBools.mono _ _ _)
      | (with_reducible exact spec_DrawNewTimer.mono _ _)
      | (with_reducible exact spec_TimerTrace.mono _ _ _ _ _ _ _ _)
      | (with_reducible exact LeO.refl _)
      | (with_reducible exact LeO.none _)
      | (with_reducible refine LeO.ite ?_ ?_)
      | (with_reducible refine LeO.bind ?_ (fun _ => ?_))
      | exact ih0 _ _ _
      | exact ih1 _ _ _ _ _ _ _ _ _ _
      | exact ih2 _ _ _ _ _ _ _ _ _ _
      | exact ih3 _ _ _ _ _ _ _ _ _ _ _
      | exact ih4 _ _ _ _ _ _ _ _ _ _ _
      | exact impl_TimerTrace.mono _ _ _ _ _ _ _ _
      | exact laws_sameBools.mono _ _ _
      | exact spec_DrawNewTimer.mono _ _
      | exact spec_TimerTrace.mono _ _ _ _ _ _ _ _
      | exact LeO.none _
      | refine LeO.ite ?_ ?_
      | refine LeO.bind ?_ (fun _ => ?_)
    · intro y0 y1 y2 y3 y4 y5 y6 y7 y8 y9 y10
      unfold laws_FnTimerPulse.l2
      repeat' first
      | (with_reducible exact ih0 _ _ _)
      | (with_reducible exact ih1 _ _ _ _ _ _ _ _ _ _)
      | (with_reducible exact ih2 _ _ _ _ _ _ _ _ _ _)
      | (with_reducible exact ih3 _ _ _ _ _ _ _ _ _ _ _)
      | (with_reducible exact ih4 _ _ _ _ _ _ _ _ _ _ _)
      | (with_reducible exact impl_TimerTrace.mono _ _ _ _ _ _ _ _)
      | (with_reducible exact laws_sameBools.mono _ _ _)
      | (with_reducible exact spec_DrawNewTimer.mono _ _)
      | (with_reducible exact spec_TimerTrace.mono _ _ _ _ _ _ _ _)
      | (with_reducible exact LeO.refl _)
      | (with_reducible exact LeO.none _)
      | (with_reducible refine LeO.ite ?_ ?_)
      | (with_reducible refine LeO.bind ?_ (fun _ => ?_))
      | exact ih0 _ _ _
      | exact ih1 _ _ _ _ _ _ _ _ _ _
      | exact ih2 _ _ _ _ _ _ _ _ _ _
      | exact ih3 _ _ _ _ _ _ _ _ _ _ _
      | exact ih4 _ _ _ _ _ _ _ _ _ _ _
      | exact impl_TimerTrace.mono _ _ _ _ _ _ _ _
      | exact laws_sameBools.mono _ _ _
      | exact spec_DrawNewTimer.mono _ _
      | exact spec_TimerTrace.mono _ _ _ _ _ _ _ _
      | exact LeO.none _
      | refine LeO.ite ?_ ?_
      | refine LeO.bind ?_ (fun _ => ?_)
    · intro y0 y1 y2 y3 y4 y5 y6 y7 y8 y9 y10
      unfold laws_FnTimerPulse.l3
      repeat' first
      | (with_reducible exact ih0 _ _ _)
      | (with_reducible exact ih1 _ _ _ _ _ _ _ _ _ _)
      | (with_reducible exact ih2 _ _ _ _ _ _ _ _ _ _)
      | (with_reducible exact ih3 _ _ _ _ _ _ _ _ _ _ _)
      | (with_reducible exact ih4 _ _ _ _ _ _ _ _ _ _ _)
      | (with_reducible exact impl_TimerTrace.mono _ _ _ _ _ _ _ _)
      | (with_reducible exact laws_sameBools.mono _ _ _)
      | (with_reducible exact spec_DrawNewTimer.mono _ _)
      | (with_reducible exact spec_TimerTrace.mono _ _ _ _ _ _ _ _)
      | (with_reducible exact LeO.refl _)
      | (with_reducible exact LeO.none _)
      | (with_reducible refine LeO.ite ?_ ?_)
      | (with_reducible refine LeO.bind ?_ (fun _ => ?_))
      | exact ih0 _ _ _
      | exact ih1 _ _ _ _ _ _ _ _ _ _
      | exact ih2 _ _ _ _ _ _ _ _ _ _
      | exact ih3 _ _ _ _ _ _ _ _ _ _ _
      | exact ih4 _ _ _ _ _ _ _ _ _ _ _
      | exact impl_TimerTrace.mono _ _ _ _ _ _ _ _
      | exact laws_sameBools.mono _ _ _
      | exact spec_DrawNewTimer.mono _ _
      | exact spec_TimerTrace.mono _ _ _ _ _ _ _ _
      | exact LeO.none _
      | refine LeO.ite ?_ ?_
      | refine LeO.bind ?_ (fun _ => ?_)
theorem laws_FnTimerPulse.mono : ∀ a0 a1 k, LeO (laws_FnTimerPulse.f k a0 a1) (laws_FnTimerPulse.f (k + 1) a0 a1) := by
  intro a0 a1 k
  obtain ⟨ih0, ih1, ih2, ih3, ih4⟩ := laws_FnTimerPulse.mono_l k
  unfold laws_FnTimerPulse.f
  repeat' first
      | (with_reducible exact ih0 _ _ _)
      | (with_reducible exact ih1 _ _ _ _ _ _ _ _ _ _)
      | (with_reducible exact ih2 _ _ _ _ _ _ _ _ _ _)
      | (with_reducible exact ih3 _ _ _ _ _ _ _ _ _ _ _)
      | (with_reducible exact ih4 _ _ _ _ _ _ _ _ _ _ _)
      | (with_reducible exact impl_TimerTrace.mono _ _ _ _ _ _ _ _)
      | (with_reducible exact laws_sameBools.mono _ _ _)
      | (with_reducible exact spec_DrawNewTimer.mono _ _)
      | (with_reducible exact spec_TimerTrace.mono _ _ _ _ _ _ _ _)
      | (with_reducible exact LeO.refl _)
      | (with_reducible exact LeO.none _)
      | (with_reducible refine LeO.ite ?_ ?_)
      | (with_reducible refine LeO.bind ?_ (fun _ => ?_))
      | exact ih0 _ _ _
      | exact ih1 _ _ _ _ _ _ _ _ _ _
      | exact ih2 _ _ _ _ _ _ _ _ _ _
      | exact ih3 _ _ _ _ _ _ _ _ _ _ _
      | exact ih4 _ _ _ _ _ _ _ _ _ _ _
      | exact impl_TimerTrace.mono _ _ _ _ _ _ _ _
      | exact laws_sameBools.mono _ _ _
      | exact spec_DrawNewTimer.mono _ _
      | exact spec_TimerTrace.mono _ _ _ _ _ _ _ _
      | exact LeO.none _
      | refine LeO.ite ?_ ?_
      | refine LeO.bind ?_ (fun _ => ?_)
set_option maxHeartbeats 8000000 in
set_option maxRecDepth 100000 in
theorem laws_FnTimerPulse.calls (k : Nat) (A0 : Option Addr) (c0 : Nat) (l0 : List Int) (A1 : Option Addr) (c1 : Nat) (l1 : List Int) (r : Bool) (w : World) (hr0 : Kd.C (Kd.int .u8) w A0 l0.length l0) (hc0 : l0.length ≤ c0) (hr1 : Kd.C (Kd.int .u8) w A1 l1.length l1) (hc1 : l1.length ≤ c1) (h : laws_FnTimerPulse.f k l0 l1 = some r) :
    Calls Try.prog 14 #[.slice A0 l0.length c0, .slice A1 l1.length c1] w fun e w' => e = .returned (.bool r) ∧ Below w.heap.size w w' := by
  have hu28 := Try.underlying28
  have HR0 := Aside0.mk hr0
  have HC0 := Aside0.mk hc0
  clear hr0 hc0
  have HR1 := Aside0.mk hr1
  have HC1 := Aside0.mk hc1
  clear hr1 hc1
  have HB := Aside0.mk (Below.refl w.heap.size w)
  have H : (if (l0.length : Int) > 1048576 then (laws_FnTimerPulse.j0 k l0 l1 true) else (laws_FnTimerPulse.j0 k l0 l1 (decide ((l1.length : Int) > 1048576)))) = some r := h
  clear h
  have HC3 := Aside0.mk H
  clear H
  go_enter Try.func14, Try.ntmps14
  go_upto_region 1 with (fail)
  go_cut [25] (fun v25 wc => ∃ (kq : Nat) (x25_2 : Bool), v25 = .bool x25_2 ∧ Aside0 (laws_FnTimerPulse.j0 kq l0 l1 x25_2 = some r) ∧ Aside0 (kq ≤ k) ∧ Aside0 (Below w.heap.size w wc))
  case first =>
    have H := HC3.out
    clear HC3
    by_cases c4 : (l0.length : Int) > 1048576
    · rw [if_pos c4] at H
      have c4b0 : decide (1048576 < (l0.length : Int)) = true := decide_eq_true c4
      have c4b1 : decide (1048576 < l0.length) = true := decide_eq_true (by omega)
      clear c4
      (first | rw [c4b0] | (simp only [i64_w, i32_w]; rw [c4b0]) | skip)
      have H' := Aside0.mk H
      clear H
      go_wp2
      go_meet
      case rel => exact ⟨_, (true), (by first | rfl | (simp; done) | (simp [*]; done)), H', ⟨by first | omega | exact Nat.le_refl _⟩, ⟨by repeat (first | (with_reducible first | exact HB.out | apply below_alloc | apply pw_below_drewN | apply below_drew1) | exact HB.out)⟩⟩
    · rw [if_neg c4] at H
      have c4b0 : decide (1048576 < (l0.length : Int)) = false := decide_eq_false c4
      have c4b1 : decide (1048576 < l0.length) = false := decide_eq_false (by omega)
      clear c4
      (first | rw [c4b0] | (simp only [i64_w, i32_w]; rw [c4b0]) | skip)
      have H' := Aside0.mk H
      clear H
      go_wp2
      go_meet
      case rel => exact ⟨_, (decide ((l1.length : Int) > 1048576)), (by first | rfl | (simp; done) | (simp [*]; done)), H', ⟨by first | omega | exact Nat.le_refl _⟩, ⟨by repeat (first | (with_reducible first | exact HB.out | apply below_alloc | apply pw_below_drewN | apply below_drew1) | exact HB.out)⟩⟩
  case rest =>
    clear HC3
    try clear c1
    try clear p2
    try clear c4
    try clear c4b0
    try clear c4b1
    obtain ⟨kq, x25_2, rfl, HA, HJ2, HB⟩ := hcut
    cases kq with
    | zero => exact absurd HA.out (by simp [laws_FnTimerPulse.j0])
    | succ kj2 =>
      have H := HA.out
      clear HA
      simp only [laws_FnTimerPulse.j0] at H
      by_cases c5 : x25_2 = true
      · subst c5
        have H1 : (some true) = some r := by rw [if_pos rfl] at H; exact H
        clear H
        have H := H1
        clear H1
        obtain rfl := Option.some.inj H
        go_wp2
        go_ret
        exact ⟨by first | rfl | (simp [errW_none, errW_some] <;> rfl) | (simp [*, errW_none, errW_some] <;> rfl), by repeat (first | (with_reducible first | exact HB.out | apply below_alloc | apply pw_below_drewN | apply below_drew1) | exact HB.out)⟩
      · replace c5 := Bool.eq_false_iff.mpr c5
        subst c5
        have H1 : ((spec_DrawNewTimer.f kj2 l0).bind fun bt167 => ((impl_NewTimer.f 3 (wrap64 ((1 + ((mx 0 bt167.2) % 40)) * (1 + ((l1.length : Int) % 50))))).bind fun bt169 => (laws_FnTimerPulse.l0 kj2 l1 (1 + ((l1.length : Int) % 50)) (1 + ((mx 0 bt167.2) % 40)) (([true] : List Bool)) 1 bt169.1 bt169.2.1 bt169.2.2.1 bt169.2.2.2.1 bt169.2.2.2.2))) = some r := by rw [if_neg (show ¬ (false = true) by decide)] at H; exact H
        clear H
        have H := H1
        clear H1
        replace H := Option.bind_eq_some_iff.mp H
        obtain ⟨⟨t167, t168⟩, A60, H⟩ := H
        replace H : ((impl_NewTimer.f 3 (wrap64 ((1 + ((mx 0 t168) % 40)) * (1 + ((l1.length : Int) % 50))))).bind fun bt169 => (laws_FnTimerPulse.l0 kj2 l1 (1 + ((l1.length : Int) % 50)) (1 + ((mx 0 t168) % 40)) (([true] : List Bool)) 1 bt169.1 bt169.2.1 bt169.2.2.1 bt169.2.2.2.1 bt169.2.2.2.2)) = some r := H
        have A6 := Aside0.mk A60
        clear A60
        obtain ⟨ji7, hji7⟩ : ∃ j_ : Int, (mx 0 t168) = j_ := ⟨_, rfl⟩
        replace H : ((impl_NewTimer.f 3 (wrap64 ((1 + ((ji7) % 40)) * (1 + ((l1.length : Int) % 50))))).bind fun bt169 => (laws_FnTimerPulse.l0 kj2 l1 (1 + ((l1.length : Int) % 50)) (1 + ((ji7) % 40)) (([true] : List Bool)) 1 bt169.1 bt169.2.1 bt169.2.2.1 bt169.2.2.2.1 bt169.2.2.2.2)) = some r := by first | (rw [hji7] at H; exact H) | (simp only [hji7] at H ⊢; exact H)
        (try rw [hji7] at A6)
        (try (have hji7l : 0 ≤ ji7 := by (rw [← hji7]; unfold mx; (repeat' split) <;> omega)))
        (try (have hji7m : 0 ≤ ji7 := by omega))
        have hji7_ : (if 0 < t168 then t168 else 0) = ji7 := hji7
        replace H := Option.bind_eq_some_iff.mp H
        obtain ⟨⟨t169, t170, t171, t172, t173⟩, A80, H⟩ := H
        replace H : (laws_FnTimerPulse.l0 kj2 l1 (1 + ((l1.length : Int) % 50)) (1 + ((ji7) % 40)) (([true] : List Bool)) 1 t169 t170 t171 t172 t173) = some r := H
        have A8 := Aside0.mk A80
        clear A80
        obtain ⟨y175, hy175⟩ : ∃ y_ : List Bool, y_ = (([true] : List Bool)) := ⟨_, rfl⟩
        replace H : (laws_FnTimerPulse.l0 kj2 l1 (1 + ((l1.length : Int) % 50)) (1 + ((ji7) % 40)) y175 1 t169 t170 t171 t172 t173) = some r := by first | (rw [hy175]; with_reducible exact H) | (have H2_ := (Option.bind_some _ _).symm.trans H; rw [hy175]; with_reducible exact H2_) | (have H2_ := (Option.bind_some _ _).symm.trans H; with_reducible exact H2_) | with_reducible exact H | (rw [hy175]; exact H) | exact H
        have Ny175 := Aside0.mk hy175
        clear hy175
        have H' := Aside0.mk H
        clear H
        go_wp2_with (first | ((with_reducible refine gate_callee (f := 50) rfl ?_); refine goesL_ (some 28) rfl rfl Try.func50 (by kernel_rfl) rfl #[.slice A0 l0.length c0] rfl (by (try simp only [List.map_toArray, List.map_cons, List.map_nil]); first | done | rfl | (simp only [List.length_drop, List.length_take]; rfl)) ?_; (with_reducible refine (spec_DrawNewTimer.calls kj2 _ _ l0 t167 t168 _ ?side1 ?side2 A6.out).mono ?_); (case side1 => repeat (first | exact (Kd.C_below HR0.out HB.out) | (with_reducible refine Kd.C_alloc ?_ _) | (with_reducible refine Kd.C_drewN ?_ _) | (with_reducible refine Kd.C_drew ?_))); (case side2 => exact HC0.out); rintro e w9 ⟨rfl, hb⟩; refine ⟨_, rfl, ?_⟩; have n0_ := Aside0.mk (below_step (by repeat (first | (with_reducible first | exact HB.out | apply below_alloc | apply pw_below_drewN | apply below_drew1) | exact HB.out)) hb); clear HB; have HB := n0_; clear n0_; (try clear hb); (try clear hb2); (try clear hk); (try clear hi)) | ((with_reducible refine gate_callee (f := 22) rfl ?_); refine goesL_ (some 42) rfl rfl Try.func22 (by kernel_rfl) rfl #[.int .i64 3, .int .i64 (wrap64 ((1 + ((ji7) % 40)) * (1 + ((l1.length : Int) % 50))))] rfl (by (try simp only [List.map_toArray, List.map_cons, List.map_nil]); first | done | (simp only [hji7]; rfl) | rfl | (simp only [List.length_drop, List.length_take]; rfl)) ?_; (with_reducible refine (impl_NewTimer.calls 3 (wrap64 ((1 + ((ji7) % 40)) * (1 + ((l1.length : Int) % 50)))) t169 t170 t171 t172 t173 _ A8.out).mono ?_); rintro e w10 ⟨rfl, hb⟩; refine ⟨_, rfl, ?_⟩; have n0_ := Aside0.mk (below_step (by repeat (first | (with_reducible first | exact HB.out | apply below_alloc | apply pw_below_drewN | apply below_drew1) | exact HB.out)) hb); clear HB; have HB := n0_; clear n0_; (try clear hb); (try clear hb2); (try clear hk); (try clear hi)) | ((with_reducible refine gate_dst (N := 9) rfl ?_); (try (refine gate_guard (by rfl) ?_; dsimp only)); refine box_event ?hg (N := 9) ?hd (cs := #[.int .i64 0, .int .i64 0, .int .i64 0, .bool false, .bool false]) (t := 28) ?hr ?_; (case hd => rfl); (case hg => rfl); (case hr => first | (go_simp; done) | (go_simp; rfl)); intro gb174 hg w11 hbox hb; have n0_ := Aside0.mk (below_step (by repeat (first | (with_reducible first | exact HB.out | apply below_alloc | apply pw_below_drewN | apply below_drew1) | exact HB.out)) hb); have n1_ := Aside0.mk (hbox); have n2_ := Aside0.mk ((by rw [hg]; exact (below_size (by repeat (first | (with_reducible first | exact HB.out | apply below_alloc | apply pw_below_drewN | apply below_drew1) | exact HB.out))) : w.heap.size ≤ gb174)); have n3_ := Aside0.mk ((by rw [hg]; exact (below_size (by repeat (first | (with_reducible first | exact HB.out | apply below_alloc | apply pw_below_drewN | apply below_drew1) | exact HB.out))) : w.heap.size ≤ gb174)); clear HB; have HB := n0_; have BK174 := n1_; have GW174 := n2_; have GE174 := n3_; clear n0_ n1_ n2_ n3_; clear hb hbox hg; have hcz12_0 : w11.cell? ⟨gb174, 0, none⟩ = some (.int .i64 0) := (blk_cell BK174.out 0).trans rfl; have hcz12_1 : w11.cell? ⟨gb174, 1, none⟩ = some (.int .i64 0) := (blk_cell BK174.out 1).trans rfl; have hcz12_2 : w11.cell? ⟨gb174, 2, none⟩ = some (.int .i64 0) := (blk_cell BK174.out 2).trans rfl; have hcz12_3 : w11.cell? ⟨gb174, 3, none⟩ = some (.bool false) := (blk_cell BK174.out 3).trans rfl; have hcz12_4 : w11.cell? ⟨gb174, 4, none⟩ = some (.bool false) := (blk_cell BK174.out 4).trans rfl; have hfz12_0 := blk_frozen BK174.out 0; have hfz12_1 := blk_frozen BK174.out 1; have hfz12_2 := blk_frozen BK174.out 2; have hfz12_3 := blk_frozen BK174.out 3; have hfz12_4 := blk_frozen BK174.out 4) | ((with_reducible refine gate_dst (N := 43) rfl ?_); (try (refine gate_guard (by rfl) ?_; dsimp only)); refine Kd.R_lit Kd.bool _ 4 ?hg (N := 43) ?hd (xs := ([true] : List Bool)) (inner := [.bool true]) (ok := fun _ => True) (okp := fun _ => True) ?hr ?hp (fun _ hk => hk) trivial (Below.refl _ _) (Nat.le_refl _) (by simp) ?_; (case hd => rfl); (case hg => rfl); (case hr => first | (go_simp; done) | (go_simp; rfl)); (case hp => exact (Reps.one (show Kd.M Kd.bool _ _ _ true [.bool true] from rfl) (Reps.none _ _))); intro v176 w13 ho14 hb hg_ hnew_; clear hg_ hnew_; (first | rw [← Ny175.out] at ho14 | (simp only [Int.reduceToNat] at ho14; rw [← Ny175.out] at ho14)); have n0_ := Aside0.mk (Kd.R_lower ho14 (below_size (by repeat (first | (with_reducible first | exact HB.out | apply below_alloc | apply pw_below_drewN | apply below_drew1 | refine below_set ?_ GE174.out) | exact HB.out)))); have n1_ := Aside0.mk (blk_below (g := gb174) (o := .cells #[.int .i64 t169, .int .i64 t170, .int .i64 t171, .bool t172, .bool t173] 28 (0, 0)) (by (with_reducible repeat (first | refine blk_drewN ?_ _ | refine blk_drew ?_ | refine blk_alloc ?_ _)); refine blk_put (cs := #[.int .i64 t169, .int .i64 t170, .int .i64 t171, .bool t172, .bool false]) ?_ 4 _ rfl; (with_reducible repeat (first | refine blk_drewN ?_ _ | refine blk_drew ?_ | refine blk_alloc ?_ _)); refine blk_put (cs := #[.int .i64 t169, .int .i64 t170, .int .i64 t171, .bool false, .bool false]) ?_ 3 _ rfl; (with_reducible repeat (first | refine blk_drewN ?_ _ | refine blk_drew ?_ | refine blk_alloc ?_ _)); refine blk_put (cs := #[.int .i64 t169, .int .i64 t170, .int .i64 0, .bool false, .bool false]) ?_ 2 _ rfl; (with_reducible repeat (first | refine blk_drewN ?_ _ | refine blk_drew ?_ | refine blk_alloc ?_ _)); refine blk_put (cs := #[.int .i64 t169, .int .i64 0, .int .i64 0, .bool false, .bool false]) ?_ 1 _ rfl; (with_reducible repeat (first | refine blk_drewN ?_ _ | refine blk_drew ?_ | refine blk_alloc ?_ _)); refine blk_put (cs := #[.int .i64 0, .int .i64 0, .int .i64 0, .bool false, .bool false]) ?_ 0 _ rfl; (with_reducible repeat (first | refine blk_drewN ?_ _ | refine blk_drew ?_ | refine blk_alloc ?_ _)); exact BK174.out) hb); have n2_ := Aside0.mk (below_step (by repeat (first | (with_reducible first | exact HB.out | apply below_alloc | apply pw_below_drewN | apply below_drew1 | refine below_set ?_ GE174.out) | exact HB.out)) hb); clear BK174; clear HB; have HO177 := n0_; have BK174 := n1_; have HB := n2_; clear n0_ n1_ n2_; clear hb ho14))
        go_loopg [10, 11] kj2 (fun kq v10 v11 w' => ∃ (x10_2 : List Bool) (x11_2 : Int), v11 = .int .i64 x11_2 ∧ Aside0 (laws_FnTimerPulse.l0 kq l1 (1 + ((l1.length : Int) % 50)) (1 + ((ji7) % 40)) x10_2 x11_2 t169 t170 t171 t172 t173 = some r) ∧ Aside0 (kq ≤ kj2) ∧ Aside0 (Kd.R Kd.bool 4 w' w.heap.size (fun _ => True) v10 x10_2) ∧ Aside0 (w'.heap[gb174]? = some (.cells #[.int .i64 t169, .int .i64 t170, .int .i64 t171, .bool t172, .bool t173] 28 (0, 0))) ∧ Aside0 (Below w.heap.size w w'))
        case atStart => exact ⟨(y175), (1), (by first | rfl | (simp; done) | (simp [*]; done)), H', ⟨Nat.le_refl _⟩, ⟨by (with_reducible repeat (first | apply Kd.R_alloc | apply Kd.R_drewN | apply Kd.R_drew)); exact HO177.out⟩, ⟨by (with_reducible repeat (first | refine blk_drewN ?_ _ | refine blk_drew ?_ | refine blk_alloc ?_ _)); exact BK174.out⟩, ⟨by repeat (first | (with_reducible first | exact HB.out | apply below_alloc | apply pw_below_drewN | apply below_drew1 | refine below_set ?_ GE174.out) | exact HB.out)⟩⟩
        case round =>
          clear H'
          try clear c1
          try clear c2
          try clear p2
          try clear c4
          try clear c4b0
          try clear c4b1
          try clear c5
          try clear p6
          try clear c14
          try clear hcz12_0
          try clear hcz12_1
          try clear hcz12_2
          try clear hcz12_3
          try clear hcz12_4
          try clear hfz12_0
          try clear hfz12_1
          try clear hfz12_2
          try clear hfz12_3
          try clear hfz12_4
          try clear p2
          obtain ⟨x10_2, x11_2, rfl, HA, HK2, HO_10, BK174, HB⟩ := hrel
          cases gk with
          | zero => exact absurd HA.out (by simp [laws_FnTimerPulse.l0])
          | succ k2 =>
            have H := HA.out
            clear HA
            simp only [laws_FnTimerPulse.l0] at H
            by_cases c15 : x11_2 < (1 + ((ji7) % 40))
            · rw [if_pos c15] at H
              have c15b0 : decide (x11_2 < (1 + ((ji7) % 40))) = true := decide_eq_true c15
              clear c15
              by_cases c16 : x11_2 < (l1.length : Int)
              · rw [if_pos c16] at H
                have c16b0 : decide (x11_2 < (l1.length : Int)) = true := decide_eq_true c16
                clear c16
                by_cases c17 : 0 ≤ x11_2
                · rw [if_pos c17] at H
                  have c17b0 : decide (0 ≤ x11_2) = true := decide_eq_true c17
                  clear c17
                  by_cases c18 : x10_2.length < 140737488355328
                  · rw [if_pos c18] at H
                    have LMc18 := Aside0.mk c18
                    clear c18
                    obtain ⟨y179, hy179⟩ : ∃ y_ : List Bool, y_ = (x10_2 ++ [((Int.tmod (rd l1 x11_2) 2) == 1)]) := ⟨_, rfl⟩
                    replace H : (laws_FnTimerPulse.l0 k2 l1 (1 + ((l1.length : Int) % 50)) (1 + ((ji7) % 40)) y179 (wrap64 (x11_2 + 1)) t169 t170 t171 t172 t173) = some r := by first | (rw [hy179]; with_reducible exact H) | (have H2_ := (Option.bind_some _ _).symm.trans H; rw [hy179]; with_reducible exact H2_) | (have H2_ := (Option.bind_some _ _).symm.trans H; with_reducible exact H2_) | with_reducible exact H | (rw [hy179]; exact H) | exact H
                    have Ny179 := Aside0.mk hy179
                    clear hy179
                    have H' := Aside0.mk H
                    clear H
                    have p178 : 0 ≤ (x11_2 : Int) := of_decide_eq_true (by first | (with_reducible assumption) | assumption)
                    have q178 : x11_2 < (l1.length : Int) := of_decide_eq_true (by first | (with_reducible assumption) | assumption)
                    obtain ⟨ad178, e178, hx178_0⟩ := Kd.at_int HR1.out x11_2 p178 q178
                    cases e178
                    replace hx178_0 := (HB.out.cell (World.block_lt_of_cell? w _ hx178_0)).trans hx178_0
                    replace p178 := eq_true p178
                    replace q178 := eq_true q178
                    go_wp2_with (first | ((with_reducible refine gate_builtin (b := .append) (xs := #[.tmp 49, .tmp 62]) rfl ?_); (try (refine gate_guard (by rfl) ?_; dsimp only)); at_builtin; refine Kd.R_append Kd.bool (w0 := w) w.heap.size rfl (.tmp 49) (.tmp 62) 32 4 (.bool false) 1 rfl Try.underlying32 info4 rfl (by decide) (by omega) u10 x10_2 ((Int.tmod (rd l1 x11_2) 2) == 1) [.bool ((Int.tmod (rd l1 x11_2) 2) == 1)] (fun _ => True) (fun _ => False) rfl rfl ?aP (fun _ hk => hk.elim) ?aF ?aO ?aB ?aS ?aL ?_; (case aP => exact rfl); (case aB => exact (by repeat (first | (with_reducible first | exact HB.out | apply below_alloc | apply pw_below_drewN | apply below_drew1 | refine below_set ?_ GE174.out) | exact HB.out))); (case aF => exact (fun _ _ => trivial)); (case aO => exact (by (with_reducible repeat (first | apply Kd.R_alloc | apply Kd.R_drewN | apply Kd.R_drew)); exact HO_10.out)); (case aS => exact (below_size (by repeat (first | (with_reducible first | exact HB.out | apply below_alloc | apply pw_below_drewN | apply below_drew1 | refine below_set ?_ GE174.out) | exact HB.out)))); (case aL => have := LMc18.out; omega); intro v180 w19 ho hb hg hat; rw [← Ny179.out] at ho; have n0_ := Aside0.mk (blk_grown (g := gb174) (o := .cells #[.int .i64 t169, .int .i64 t170, .int .i64 t171, .bool t172, .bool t173] 28 (0, 0)) (by (with_reducible repeat (first | refine blk_drewN ?_ _ | refine blk_drew ?_ | refine blk_alloc ?_ _)); exact BK174.out) hg (Kd.R_ne HO_10.out BK174.out (by decide))); have n1_ := Aside0.mk (hb); have n2_ := Aside0.mk (ho); clear BK174; clear HB; clear HO_10; have BK174 := n0_; have HB := n1_; have HO181 := n2_; clear n0_ n1_ n2_; clear ho hb hg hat))
                    go_roundg k2
                    case measure => have := HJ2.out; have := HK2.out; omega
                    case rel => exact ⟨(y179), (wrap64 (x11_2 + 1)), (by first | rfl | (simp; done) | (simp [*]; done)), H', ⟨by have := HJ2.out; have := HK2.out; omega⟩, ⟨by (with_reducible repeat (first | apply Kd.R_alloc | apply Kd.R_drewN | apply Kd.R_drew)); exact HO181.out⟩, ⟨by (with_reducible repeat (first | refine blk_drewN ?_ _ | refine blk_drew ?_ | refine blk_alloc ?_ _)); exact BK174.out⟩, ⟨by repeat (first | (with_reducible first | exact HB.out | apply below_alloc | apply pw_below_drewN | apply below_drew1 | refine below_set ?_ GE174.out) | exact HB.out)⟩⟩
                  · rw [if_neg c18] at H
                    exact absurd H (by simp)
                · rw [if_neg c17] at H
                  exact absurd H (by simp)
              · rw [if_neg c16] at H
                have c16b0 : decide (x11_2 < (l1.length : Int)) = false := decide_eq_false c16
                clear c16
                by_cases c20 : x10_2.length < 140737488355328
                · rw [if_pos c20] at H
                  have LMc20 := Aside0.mk c20
                  clear c20
                  obtain ⟨y182, hy182⟩ : ∃ y_ : List Bool, y_ = (x10_2 ++ [false]) := ⟨_, rfl⟩
                  replace H : (laws_FnTimerPulse.l0 k2 l1 (1 + ((l1.length : Int) % 50)) (1 + ((ji7) % 40)) y182 (wrap64 (x11_2 + 1)) t169 t170 t171 t172 t173) = some r := by first | (rw [hy182]; with_reducible exact H) | (have H2_ := (Option.bind_some _ _).symm.trans H; rw [hy182]; with_reducible exact H2_) | (have H2_ := (Option.bind_some _ _).symm.trans H; with_reducible exact H2_) | with_reducible exact H | (rw [hy182]; exact H) | exact H
                  have Ny182 := Aside0.mk hy182
                  clear hy182
                  have H' := Aside0.mk H
                  clear H
                  go_wp2_with (first | ((with_reducible refine gate_builtin (b := .append) (xs := #[.tmp 49, .tmp 62]) rfl ?_); (try (refine gate_guard (by rfl) ?_; dsimp only)); at_builtin; refine Kd.R_append Kd.bool (w0 := w) w.heap.size rfl (.tmp 49) (.tmp 62) 32 4 (.bool false) 1 rfl Try.underlying32 info4 rfl (by decide) (by omega) u10 x10_2 false [.bool false] (fun _ => True) (fun _ => False) rfl rfl ?aP (fun _ hk => hk.elim) ?aF ?aO ?aB ?aS ?aL ?_; (case aP => exact rfl); (case aB => exact (by repeat (first | (with_reducible first | exact HB.out | apply below_alloc | apply pw_below_drewN | apply below_drew1 | refine below_set ?_ GE174.out) | exact HB.out))); (case aF => exact (fun _ _ => trivial)); (case aO => exact (by (with_reducible repeat (first | apply Kd.R_alloc | apply Kd.R_drewN | apply Kd.R_drew)); exact HO_10.out)); (case aS => exact (below_size (by repeat (first | (with_reducible first | exact HB.out | apply below_alloc | apply pw_below_drewN | apply below_drew1 | refine below_set ?_ GE174.out) | exact HB.out)))); (case aL => have := LMc20.out; omega); intro v183 w21 ho hb hg hat; rw [← Ny182.out] at ho; have n0_ := Aside0.mk (blk_grown (g := gb174) (o := .cells #[.int .i64 t169, .int .i64 t170, .int .i64 t171, .bool t172, .bool t173] 28 (0, 0)) (by (with_reducible repeat (first | refine blk_drewN ?_ _ | refine blk_drew ?_ | refine blk_alloc ?_ _)); exact BK174.out) hg (Kd.R_ne HO_10.out BK174.out (by decide))); have n1_ := Aside0.mk (hb); have n2_ := Aside0.mk (ho); clear BK174; clear HB; clear HO_10; have BK174 := n0_; have HB := n1_; have HO184 := n2_; clear n0_ n1_ n2_; clear ho hb hg hat))
                  go_roundg k2
                  case measure => have := HJ2.out; have := HK2.out; omega
                  case rel => exact ⟨(y182), (wrap64 (x11_2 + 1)), (by first | rfl | (simp; done) | (simp [*]; done)), H', ⟨by have := HJ2.out; have := HK2.out; omega⟩, ⟨by (with_reducible repeat (first | apply Kd.R_alloc | apply Kd.R_drewN | apply Kd.R_drew)); exact HO184.out⟩, ⟨by (with_reducible repeat (first | refine blk_drewN ?_ _ | refine blk_drew ?_ | refine blk_alloc ?_ _)); exact BK174.out⟩, ⟨by repeat (first | (with_reducible first | exact HB.out | apply below_alloc | apply pw_below_drewN | apply below_drew1 | refine below_set ?_ GE174.out) | exact HB.out)⟩⟩
                · rw [if_neg c20] at H
                  exact absurd H (by simp)
            · rw [if_neg c15] at H
              have c15b0 : decide (x11_2 < (1 + ((ji7) % 40))) = false := decide_eq_false c15
              clear c15
              replace H := Option.bind_eq_some_iff.mp H
              obtain ⟨t185, A220, H⟩ := H
              replace H : (laws_FnTimerPulse.l1 k2 (1 + ((l1.length : Int) % 50)) (1 + ((ji7) % 40)) x10_2 t185 0 t169 t170 t171 t172 t173) = some r := H
              have A22 := Aside0.mk A220
              clear A220
              have H' := Aside0.mk H
              clear H
              have hcz23_0 : wr.cell? ⟨gb174, 0, none⟩ = some (.int .i64 t169) := (blk_cell BK174.out 0).trans rfl
              have hcz23_1 : wr.cell? ⟨gb174, 1, none⟩ = some (.int .i64 t170) := (blk_cell BK174.out 1).trans rfl
              have hcz23_2 : wr.cell? ⟨gb174, 2, none⟩ = some (.int .i64 t171) := (blk_cell BK174.out 2).trans rfl
              have hcz23_3 : wr.cell? ⟨gb174, 3, none⟩ = some (.bool t172) := (blk_cell BK174.out 3).trans rfl
              have hcz23_4 : wr.cell? ⟨gb174, 4, none⟩ = some (.bool t173) := (blk_cell BK174.out 4).trans rfl
              have hfz23_0 := blk_frozen BK174.out 0
              have hfz23_1 := blk_frozen BK174.out 1
              have hfz23_2 := blk_frozen BK174.out 2
              have hfz23_3 := blk_frozen BK174.out 3
              have hfz23_4 := blk_frozen BK174.out 4
              obtain ⟨Ao24, co24, eo24⟩ := Kd.R_slice HO_10.out
              subst eo24
              go_wp2_with (first | ((with_reducible refine gate_callee (f := 49) rfl ?_); refine goesL_ (some 67) rfl rfl Try.func49 (by kernel_rfl) rfl #[.agg #[.int .i64 t169, .int .i64 t170, .int .i64 t171, .bool t172, .bool t173], .slice Ao24 x10_2.length co24, .int .i64 (1 + ((l1.length : Int) % 50))] rfl (by (try simp only [List.map_toArray, List.map_cons, List.map_nil]); first | done | rfl | (simp only [List.length_drop, List.length_take]; rfl)) ?_; (with_reducible refine (impl_TimerTrace.calls k2 t169 t170 t171 t172 t173 _ _ x10_2 (1 + ((l1.length : Int) % 50)) t185 _ ?side1 ?side2 A22.out).mono ?_); (case side1 => repeat (first | exact (Kd.R_reads' HO_10.out).2.2 | (with_reducible refine Kd.C_alloc ?_ _) | (with_reducible refine Kd.C_drewN ?_ _) | (with_reducible refine Kd.C_drew ?_))); (case side2 => exact (Kd.R_reads' HO_10.out).2.1); rintro e w25 ⟨v186, rfl, ho0, hb⟩; refine ⟨_, rfl, ?_⟩; have n0_ := Aside0.mk (Kd.R_elder' (by (with_reducible repeat (first | apply Kd.R_alloc | apply Kd.R_drewN | apply Kd.R_drew)); exact HO_10.out) (Kd.R_base ho0) hb); have n1_ := Aside0.mk (Kd.R_lower (Kd.R_new' ho0 (Kd.R_lt (by (with_reducible repeat (first | apply Kd.R_alloc | apply Kd.R_drewN | apply Kd.R_drew)); exact HO_10.out))) (below_size (by repeat (first | (with_reducible first | exact HB.out | apply below_alloc | apply pw_below_drewN | apply below_drew1 | refine below_set ?_ GE174.out) | exact HB.out)))); have n2_ := Aside0.mk (blk_below (g := gb174) (o := .cells #[.int .i64 t169, .int .i64 t170, .int .i64 t171, .bool t172, .bool t173] 28 (0, 0)) (by (with_reducible repeat (first | refine blk_drewN ?_ _ | refine blk_drew ?_ | refine blk_alloc ?_ _)); exact BK174.out) hb); have n3_ := Aside0.mk (below_step (by repeat (first | (with_reducible first | exact HB.out | apply below_alloc | apply pw_below_drewN | apply below_drew1 | refine below_set ?_ GE174.out) | exact HB.out)) hb); clear HO_10; clear BK174; clear HB; have HO_10 := n0_; have HO187 := n1_; have BK174 := n2_; have HB := n3_; clear n0_ n1_ n2_ n3_; (try clear hb); (try clear hb2); (try clear hk); (try clear hi); (try clear ho0)))
              go_loopg [13] k2 (fun kq v13 w' => ∃ (x13_3 : Int), v13 = .int .i64 x13_3 ∧ Aside0 (laws_FnTimerPulse.l1 kq (1 + ((l1.length : Int) % 50)) (1 + ((ji7) % 40)) x10_2 t185 x13_3 t169 t170 t171 t172 t173 = some r) ∧ Aside0 (kq ≤ k2) ∧ Aside0 (Kd.R Kd.bool 4 w' w.heap.size (fun k_ => some k_ ≠ (v186 : Value).ownBlock) (.slice Ao24 x10_2.length co24) x10_2) ∧ Aside0 (Kd.R Kd.bool 4 w' w.heap.size (fun k_ => some k_ ≠ ((.slice Ao24 x10_2.length co24) : Value).ownBlock) v186 t185) ∧ Aside0 (w'.heap[gb174]? = some (.cells #[.int .i64 t169, .int .i64 t170, .int .i64 t171, .bool t172, .bool t173] 28 (0, 0))) ∧ Aside0 (Below w.heap.size w w'))
              case atStart => exact ⟨(0), (by first | rfl | (simp; done) | (simp [*]; done)), H', ⟨Nat.le_refl _⟩, ⟨by (with_reducible repeat (first | apply Kd.R_alloc | apply Kd.R_drewN | apply Kd.R_drew)); exact Kd.R_mono HO_10.out (fun _ hk => hk.2)⟩, ⟨by (with_reducible repeat (first | apply Kd.R_alloc | apply Kd.R_drewN | apply Kd.R_drew)); exact Kd.R_mono HO187.out (fun _ hk => hk.2)⟩, ⟨by (with_reducible repeat (first | refine blk_drewN ?_ _ | refine blk_drew ?_ | refine blk_alloc ?_ _)); exact BK174.out⟩, ⟨by repeat (first | (with_reducible first | exact HB.out | apply below_alloc | apply pw_below_drewN | apply below_drew1 | refine below_set ?_ GE174.out) | exact HB.out)⟩⟩
              case round =>
                clear H'
                try clear c1
                try clear p1
                try clear q1
                try clear hx1
                try clear c2
                try clear p2
                try clear c4
                try clear c4b0
                try clear c4b1
                try clear c5
                try clear p6
                try clear c14
                try clear c15
                try clear c15b0
                try clear c16
                try clear c16b0
                try clear c17
                try clear c17b0
                try clear p17
                try clear q17
                try clear hx17
                try clear c18
                try clear c20
                try clear c22
                try clear hcz12_0
                try clear hcz12_1
                try clear hcz12_2
                try clear hcz12_3
                try clear hcz12_4
                try clear hcz23_0
                try clear hcz23_1
                try clear hcz23_2
                try clear hcz23_3
                try clear hcz23_4
                try clear hfz12_0
                try clear hfz12_1
                try clear hfz12_2
                try clear hfz12_3
                try clear hfz12_4
                try clear hfz23_0
                try clear hfz23_1
                try clear hfz23_2
                try clear hfz23_3
                try clear hfz23_4
                try clear hx178_0
                try clear p178
                try clear p2
                try clear p6
                try clear q178
                obtain ⟨x13_3, rfl, HA, HK3, HO_10, HO_12, BK174, HB⟩ := hrel
                cases gk with
                | zero => exact absurd HA.out (by simp [laws_FnTimerPulse.l1])
                | succ k3 =>
                  have H := HA.out
                  clear HA
                  simp only [laws_FnTimerPulse.l1] at H
                  by_cases c26 : x13_3 < (t185.length : Int)
                  · rw [if_pos c26] at H
                    have c26b0 : decide (x13_3 < (t185.length : Int)) = true := decide_eq_true c26
                    clear c26
                    by_cases c27 : 0 ≤ x13_3
                    · rw [if_pos c27] at H
                      have c27b0 : decide (0 ≤ x13_3) = true := decide_eq_true c27
                      clear c27
                      obtain ⟨bq28, hbq28⟩ : ∃ b_ : Bool, b_ = (rdOf false t185 x13_3) := ⟨_, rfl⟩
                      replace H : (if bq28 = true then (laws_FnTimerPulse.l1 k3 (1 + ((l1.length : Int) % 50)) (1 + ((ji7) % 40)) x10_2 t185 (wrap64 (x13_3 + 1)) t169 t170 t171 t172 t173) else (some false)) = some r := by rw [← hbq28] at H; exact H
                      have Nbq28 := Aside0.mk hbq28
                      clear hbq28
                      by_cases c29 : bq28 = true
                      · subst c29
                        have H1 : (laws_FnTimerPulse.l1 k3 (1 + ((l1.length : Int) % 50)) (1 + ((ji7) % 40)) x10_2 t185 (wrap64 (x13_3 + 1)) t169 t170 t171 t172 t173) = some r := by rw [if_pos rfl] at H; exact H
                        clear H
                        have H := H1
                        clear H1
                        have H' := Aside0.mk H
                        clear H
                        obtain ⟨Ao30, co30, eo30⟩ := Kd.R_slice HO_12.out
                        subst eo30
                        have p188 : 0 ≤ (x13_3 : Int) := of_decide_eq_true (by first | (with_reducible assumption) | assumption)
                        have q188 : x13_3 < (t185.length : Int) := of_decide_eq_true (by first | (with_reducible assumption) | assumption)
                        obtain ⟨ad188, e188, hx188_0⟩ := Kd.at_bool (Kd.R_reads' HO_12.out).2.2 x13_3 p188 q188
                        (try rw [← Nbq28.out] at hx188_0)
                        cases e188
                        replace p188 := eq_true p188
                        replace q188 := eq_true q188
                        go_wp2
                        go_roundg k3
                        case measure => have := HJ2.out; have := HK2.out; have := HK3.out; omega
                        case rel => exact ⟨(wrap64 (x13_3 + 1)), (by first | rfl | (simp; done) | (simp [*]; done)), H', ⟨by have := HJ2.out; have := HK2.out; have := HK3.out; omega⟩, ⟨by (with_reducible repeat (first | apply Kd.R_alloc | apply Kd.R_drewN | apply Kd.R_drew)); exact HO_10.out⟩, ⟨by (with_reducible repeat (first | apply Kd.R_alloc | apply Kd.R_drewN | apply Kd.R_drew)); exact HO_12.out⟩, ⟨by (with_reducible repeat (first | refine blk_drewN ?_ _ | refine blk_drew ?_ | refine blk_alloc ?_ _)); exact BK174.out⟩, ⟨by repeat (first | (with_reducible first | exact HB.out | apply below_alloc | apply pw_below_drewN | apply below_drew1 | refine below_set ?_ GE174.out) | exact HB.out)⟩⟩
                      · replace c29 := Bool.eq_false_iff.mpr c29
                        subst c29
                        have H1 : (some false) = some r := by rw [if_neg (show ¬ (false = true) by decide)] at H; exact H
                        clear H
                        have H := H1
                        clear H1
                        obtain rfl := Option.some.inj H
                        obtain ⟨Ao31, co31, eo31⟩ := Kd.R_slice HO_12.out
                        subst eo31
                        have p188 : 0 ≤ (x13_3 : Int) := of_decide_eq_true (by first | (with_reducible assumption) | assumption)
                        have q188 : x13_3 < (t185.length : Int) := of_decide_eq_true (by first | (with_reducible assumption) | assumption)
                        obtain ⟨ad188, e188, hx188_0⟩ := Kd.at_bool (Kd.R_reads' HO_12.out).2.2 x13_3 p188 q188
                        (try rw [← Nbq28.out] at hx188_0)
                        cases e188
                        replace p188 := eq_true p188
                        replace q188 := eq_true q188
                        go_wp2
                        go_ret
                        exact ⟨by first | rfl | (simp [errW_none, errW_some] <;> rfl) | (simp only [← hji7]; first | rfl | (simp [errW_none, errW_some] <;> rfl)) | (simp [*, errW_none, errW_some] <;> rfl), by repeat (first | (with_reducible first | exact HB.out | apply below_alloc | apply pw_below_drewN | apply below_drew1 | refine below_set ?_ GE174.out) | exact HB.out)⟩
                    · rw [if_neg c27] at H
                      exact absurd H (by simp)
                  · rw [if_neg c26] at H
                    have c26b0 : decide (x13_3 < (t185.length : Int)) = false := decide_eq_false c26
                    clear c26
                    obtain ⟨ji32, hji32⟩ : ∃ j_ : Int, (wrap64 ((1 + ((ji7) % 40)) + 3)) = j_ := ⟨_, rfl⟩
                    replace H : (if 0 ≤ (ji32) then (if (ji32 : Int).toNat ≤ 281474976710656 then (laws_FnTimerPulse.l2 k3 (1 + ((l1.length : Int) % 50)) (1 + ((ji7) % 40)) x10_2 t185 (List.replicate (ji32 : Int).toNat false) 0 t169 t170 t171 t172 t173) else (none)) else (none)) = some r := by first | (rw [hji32] at H; exact H) | (simp only [hji32] at H ⊢; exact H)
                    have hji32w : (IntKind.i64.wrap ((1 + ((ji7) % 40)) + 3)) = ji32 := (i64_w _).trans hji32
                    by_cases c33 : 0 ≤ (ji32)
                    · rw [if_pos c33] at H
                      have c33b0 := eq_true c33
                      have c33b1 : decide (0 ≤ (ji32)) = true := decide_eq_true c33
                      clear c33
                      by_cases c34 : (ji32 : Int).toNat ≤ 281474976710656
                      · rw [if_pos c34] at H
                        have c34b0 := eq_true c34
                        have c34b1 : decide ((ji32 : Int).toNat ≤ 281474976710656) = true := decide_eq_true c34
                        clear c34
                        obtain ⟨y189, hy189⟩ : ∃ y_ : List Bool, y_ = (List.replicate (ji32 : Int).toNat false) := ⟨_, rfl⟩
                        replace H : (laws_FnTimerPulse.l2 k3 (1 + ((l1.length : Int) % 50)) (1 + ((ji7) % 40)) x10_2 t185 y189 0 t169 t170 t171 t172 t173) = some r := by first | (rw [hy189]; with_reducible exact H) | (have H2_ := (Option.bind_some _ _).symm.trans H; rw [hy189]; with_reducible exact H2_) | (have H2_ := (Option.bind_some _ _).symm.trans H; with_reducible exact H2_) | with_reducible exact H | (rw [hy189]; exact H) | exact H
                        have Ny189 := Aside0.mk hy189
                        clear hy189
                        have H' := Aside0.mk H
                        clear H
                        obtain ⟨Ao35, co35, eo35⟩ := Kd.R_slice HO_12.out
                        subst eo35
                        go_wp2_with (first | ((with_reducible refine gate_dst (N := 81) rfl ?_); (try (refine gate_guard (by rfl) ?_; dsimp only)); refine Kd.R_make Kd.bool _ 4 rfl (N := 81) rfl 32 _ _ rfl ji32 rfl rfl Try.underlying32 (.bool false) 1 info4 rfl (by decide) (by omega) false (ok := fun _ => True) (okp := fun _ => True) rfl (fun _ hk => hk) trivial (of_decide_eq_true (by first | (with_reducible assumption) | assumption)) (Nat.le_trans (Nat.mul_le_mul_right _ (of_decide_eq_true (by first | (with_reducible assumption) | assumption) : ji32.toNat ≤ 281474976710656)) (by omega)) (Below.refl _ _) (Nat.le_refl _) ?_; intro v190 w36 ho37 hb hg_ hnew_; clear hg_ hnew_; (first | rw [← Ny189.out] at ho37 | (simp only [Int.reduceToNat] at ho37; rw [← Ny189.out] at ho37)); have n0_ := Aside0.mk (Kd.R_elder' (by (with_reducible repeat (first | apply Kd.R_alloc | apply Kd.R_drewN | apply Kd.R_drew)); exact HO_10.out) (Kd.R_base ho37) hb); have n1_ := Aside0.mk (Kd.R_elder' (by (with_reducible repeat (first | apply Kd.R_alloc | apply Kd.R_drewN | apply Kd.R_drew)); exact HO_12.out) (Kd.R_base ho37) hb); have n2_ := Aside0.mk (Kd.R_lower (Kd.R_new' (Kd.R_new' ho37 (Kd.R_lt (by (with_reducible repeat (first | apply Kd.R_alloc | apply Kd.R_drewN | apply Kd.R_drew)); exact HO_10.out))) (Kd.R_lt (by (with_reducible repeat (first | apply Kd.R_alloc | apply Kd.R_drewN | apply Kd.R_drew)); exact HO_12.out))) (below_size (by repeat (first | (with_reducible first | exact HB.out | apply below_alloc | apply pw_below_drewN | apply below_drew1 | refine below_set ?_ GE174.out) | exact HB.out)))); have n3_ := Aside0.mk (blk_below (g := gb174) (o := .cells #[.int .i64 t169, .int .i64 t170, .int .i64 t171, .bool t172, .bool t173] 28 (0, 0)) (by (with_reducible repeat (first | refine blk_drewN ?_ _ | refine blk_drew ?_ | refine blk_alloc ?_ _)); exact BK174.out) hb); have n4_ := Aside0.mk (below_step (by repeat (first | (with_reducible first | exact HB.out | apply below_alloc | apply pw_below_drewN | apply below_drew1 | refine below_set ?_ GE174.out) | exact HB.out)) hb); clear HO_10; clear HO_12; clear BK174; clear HB; have HO_10 := n0_; have HO_12 := n1_; have HO191 := n2_; have BK174 := n3_; have HB := n4_; clear n0_ n1_ n2_ n3_ n4_; clear hb ho37))
                        go_loopg [15] k3 (fun kq v15 w' => ∃ (x14_4 : List Bool) (x15_4 : Int), v15 = .int .i64 x15_4 ∧ Aside0 (laws_FnTimerPulse.l2 kq (1 + ((l1.length : Int) % 50)) (1 + ((ji7) % 40)) x10_2 t185 x14_4 x15_4 t169 t170 t171 t172 t173 = some r) ∧ Aside0 (kq ≤ k3) ∧ Aside0 (Kd.R Kd.bool 4 w' w.heap.size (fun k_ => some k_ ≠ ((.slice Ao35 t185.length co35) : Value).ownBlock ∧ some k_ ≠ (v190 : Value).ownBlock) (.slice Ao24 x10_2.length co24) x10_2) ∧ Aside0 (Kd.R Kd.bool 4 w' w.heap.size (fun k_ => some k_ ≠ ((.slice Ao24 x10_2.length co24) : Value).ownBlock ∧ some k_ ≠ (v190 : Value).ownBlock) (.slice Ao35 t185.length co35) t185) ∧ Aside0 (Kd.R Kd.bool 4 w' w.heap.size (fun k_ => some k_ ≠ ((.slice Ao24 x10_2.length co24) : Value).ownBlock ∧ some k_ ≠ ((.slice Ao35 t185.length co35) : Value).ownBlock) v190 x14_4) ∧ Aside0 (w'.heap[gb174]? = some (.cells #[.int .i64 t169, .int .i64 t170, .int .i64 t171, .bool t172, .bool t173] 28 (0, 0))) ∧ Aside0 (Below w.heap.size w w'))
                        case atStart => exact ⟨(y189), (0), (by first | rfl | (simp; done) | (simp [*]; done)), H', ⟨Nat.le_refl _⟩, ⟨by (with_reducible repeat (first | apply Kd.R_alloc | apply Kd.R_drewN | apply Kd.R_drew)); exact HO_10.out⟩, ⟨by (with_reducible repeat (first | apply Kd.R_alloc | apply Kd.R_drewN | apply Kd.R_drew)); exact HO_12.out⟩, ⟨by (with_reducible repeat (first | apply Kd.R_alloc | apply Kd.R_drewN | apply Kd.R_drew)); exact Kd.R_mono HO191.out (fun _ hk => ⟨hk.1.2, hk.2⟩)⟩, ⟨by (with_reducible repeat (first | refine blk_drewN ?_ _ | refine blk_drew ?_ | refine blk_alloc ?_ _)); exact BK174.out⟩, ⟨by repeat (first | (with_reducible first | exact HB.out | apply below_alloc | apply pw_below_drewN | apply below_drew1 | refine below_set ?_ GE174.out) | exact HB.out)⟩⟩
                        case round =>
                          clear H'
                          try clear c1
                          try clear p1
                          try clear q1
                          try clear hx1
                          try clear c2
                          try clear p2
                          try clear q2
                          try clear c3
                          try clear c4
                          try clear c4b0
                          try clear c4b1
                          try clear c5
                          try clear p6
                          try clear c14
                          try clear c15
                          try clear c15b0
                          try clear c16
                          try clear c16b0
                          try clear c17
                          try clear c17b0
                          try clear p17
                          try clear q17
                          try clear hx17
                          try clear c18
                          try clear p18
                          try clear q18
                          try clear hx18
                          try clear c20
                          try clear c22
                          try clear c26
                          try clear c26b0
                          try clear c27
                          try clear c27b0
                          try clear q28
                          try clear c29
                          try clear c33
                          try clear c33b0
                          try clear c33b1
                          try clear c34
                          try clear c34b0
                          try clear c34b1
                          try clear hcz12_0
                          try clear hcz12_1
                          try clear hcz12_2
                          try clear hcz12_3
                          try clear hcz12_4
                          try clear hcz23_0
                          try clear hcz23_1
                          try clear hcz23_2
                          try clear hcz23_3
                          try clear hcz23_4
                          try clear hfz12_0
                          try clear hfz12_1
                          try clear hfz12_2
                          try clear hfz12_3
                          try clear hfz12_4
                          try clear hfz23_0
                          try clear hfz23_1
                          try clear hfz23_2
                          try clear hfz23_3
                          try clear hfz23_4
                          try clear hx178_0
                          try clear hx188_0
                          try clear p1
                          try clear p17
                          try clear p178
                          try clear p188
                          try clear p2
                          try clear p6
                          try clear q1
                          try clear q17
                          try clear q178
                          try clear q188
                          obtain ⟨x14_4, x15_4, rfl, HA, HK4, HO_10, HO_12, HO_14, BK174, HB⟩ := hrel
                          cases gk with
                          | zero => exact absurd HA.out (by simp [laws_FnTimerPulse.l2])
                          | succ k4 =>
                            have H := HA.out
                            clear HA
                            simp only [laws_FnTimerPulse.l2] at H
                            by_cases c38 : x15_4 < (x14_4.length : Int)
                            · rw [if_pos c38] at H
                              have c38b0 : decide (x15_4 < (x14_4.length : Int)) = true := decide_eq_true c38
                              clear c38
                              by_cases c39 : 0 ≤ x15_4
                              · rw [if_pos c39] at H
                                have c39b0 : decide (0 ≤ x15_4) = true := decide_eq_true c39
                                clear c39
                                obtain ⟨y192, hy192⟩ : ∃ y_ : List Bool, y_ = (x14_4.set (x15_4 : Int).toNat true) := ⟨_, rfl⟩
                                replace H : (laws_FnTimerPulse.l2 k4 (1 + ((l1.length : Int) % 50)) (1 + ((ji7) % 40)) x10_2 t185 y192 (wrap64 (x15_4 + 1)) t169 t170 t171 t172 t173) = some r := by first | (rw [hy192]; with_reducible exact H) | (have H2_ := (Option.bind_some _ _).symm.trans H; rw [hy192]; with_reducible exact H2_) | (have H2_ := (Option.bind_some _ _).symm.trans H; with_reducible exact H2_) | with_reducible exact H | (rw [hy192]; exact H) | exact H
                                have Ny192 := Aside0.mk hy192
                                clear hy192
                                have H' := Aside0.mk H
                                clear H
                                obtain ⟨Ao41, co41, eo41⟩ := Kd.R_slice HO_14.out
                                subst eo41
                                have p40 : 0 ≤ (x15_4 : Int) := of_decide_eq_true (by first | (with_reducible assumption) | assumption)
                                have q40 : (x15_4 : Int) < ((x14_4.length : Int) : Int) := of_decide_eq_true (by first | (with_reducible assumption) | assumption)
                                obtain ⟨go40, co40, eo40, gb40, gl40, cl40, HG40⟩ := Kd.R_form HO_14.out (by omega)
                                (first | cases eo40 | (injection eo40 with ea_ en_ ec_; (first | subst ea_ | (injection ea_ with ea_; subst ea_)); subst ec_; clear en_))
                                have GB40 := Aside0.mk gb40
                                have GG40 := Aside0.mk HG40
                                clear gb40 gl40 HG40
                                obtain ⟨hx40_0, hf40_0⟩ := Kd.R_celln false HO_14.out (x15_4 : Int) p40 q40
                                replace p40 := eq_true p40
                                replace q40 := eq_true q40
                                have HP42 := Kd.R_putg HO_14.out (x15_4 : Int) true
                                go_wp2_with (first | ((with_reducible refine gate_store (t := 4) (p := 90) rfl ?_); refine store_event (t := 4) (p := 90) (v := ?vo_w43) (w1 := (wr.setCell ⟨go40, (x15_4 : Int).toNat, none⟩ (.bool true))) ?hg ?ho ?hn ?hr ?_; (case ho => rfl); (case hg => rfl); (case hn => rfl); (case hr => first | (go_simp; done) | (go_simp; rfl)); intro w43 hw; have hg : wr.grownBy w43 (some go40) := (by rw [hw]; exact HP42.2); have hp_ : Kd.R Kd.bool 4 w43 w.heap.size (fun k_ => some k_ ≠ (.slice Ao24 x10_2.length co24 : Value).ownBlock ∧ some k_ ≠ (.slice Ao35 t185.length co35 : Value).ownBlock) (.slice (some ⟨go40, 0, none⟩) x14_4.length co41) y192 := (by rw [hw, Ny192.out]; exact HP42.1); clear HP42; have n0_ := Aside0.mk (Kd.R_after (v := (.slice (some ⟨go40, 0, none⟩) x14_4.length co41)) (v1 := (.slice (some ⟨go40, 0, none⟩) x14_4.length co41)) (ok := (fun k_ => some k_ ≠ (.slice Ao35 t185.length co35 : Value).ownBlock)) (by (with_reducible repeat (first | apply Kd.R_alloc | apply Kd.R_drewN | apply Kd.R_drew)); exact HO_10.out) hg (.inl rfl)); have n1_ := Aside0.mk (Kd.R_after (v := (.slice (some ⟨go40, 0, none⟩) x14_4.length co41)) (v1 := (.slice (some ⟨go40, 0, none⟩) x14_4.length co41)) (ok := (fun k_ => some k_ ≠ (.slice Ao24 x10_2.length co24 : Value).ownBlock)) (by (with_reducible repeat (first | apply Kd.R_alloc | apply Kd.R_drewN | apply Kd.R_drew)); exact HO_12.out) hg (.inl rfl)); have n2_ := Aside0.mk (hp_); have n3_ := Aside0.mk (blk_grown (g := gb174) (o := .cells #[.int .i64 t169, .int .i64 t170, .int .i64 t171, .bool t172, .bool t173] 28 (0, 0)) (by (with_reducible repeat (first | refine blk_drewN ?_ _ | refine blk_drew ?_ | refine blk_alloc ?_ _)); exact BK174.out) hg (Kd.R_ne HO_14.out BK174.out (by decide))); have n4_ := Aside0.mk ((by rw [hw]; exact below_set (HB.out) GB40.out : Below w.heap.size w w43)); clear HO_10; clear HO_12; clear HO_14; clear BK174; clear HB; have HO_10 := n0_; have HO_12 := n1_; have HO_14 := n2_; have BK174 := n3_; have HB := n4_; clear n0_ n1_ n2_ n3_ n4_; clear hg hw hp_))
                                go_roundg k4
                                case measure => have := HJ2.out; have := HK2.out; have := HK3.out; have := HK4.out; omega
                                case rel => exact ⟨(y192), (wrap64 (x15_4 + 1)), (by first | rfl | (simp; done) | (simp [*]; done)), H', ⟨by have := HJ2.out; have := HK2.out; have := HK3.out; have := HK4.out; omega⟩, ⟨by (with_reducible repeat (first | apply Kd.R_alloc | apply Kd.R_drewN | apply Kd.R_drew)); exact HO_10.out⟩, ⟨by (with_reducible repeat (first | apply Kd.R_alloc | apply Kd.R_drewN | apply Kd.R_drew)); exact HO_12.out⟩, ⟨by (with_reducible repeat (first | apply Kd.R_alloc | apply Kd.R_drewN | apply Kd.R_drew)); exact HO_14.out⟩, ⟨by (with_reducible repeat (first | refine blk_drewN ?_ _ | refine blk_drew ?_ | refine blk_alloc ?_ _)); exact BK174.out⟩, ⟨by repeat (first | (with_reducible first | exact HB.out | apply below_alloc | apply pw_below_drewN | apply below_drew1 | refine below_set ?_ GE174.out) | exact HB.out)⟩⟩
                              · rw [if_neg c39] at H
                                exact absurd H (by simp)
                            · rw [if_neg c38] at H
                              have c38b0 : decide (x15_4 < (x14_4.length : Int)) = false := decide_eq_false c38
                              clear c38
                              replace H := Option.bind_eq_some_iff.mp H
                              obtain ⟨t193, A440, H⟩ := H
                              replace H : (laws_FnTimerPulse.l3 k4 (1 + ((l1.length : Int) % 50)) (1 + ((ji7) % 40)) x10_2 t185 t193 0 t169 t170 t171 t172 t173) = some r := H
                              have A44 := Aside0.mk A440
                              clear A440
                              have H' := Aside0.mk H
                              clear H
                              obtain ⟨Ao45, co45, eo45⟩ := Kd.R_slice HO_14.out
                              subst eo45
                              have hcz46_0 : wr.cell? ⟨gb174, 0, none⟩ = some (.int .i64 t169) := (blk_cell BK174.out 0).trans rfl
                              have hcz46_1 : wr.cell? ⟨gb174, 1, none⟩ = some (.int .i64 t170) := (blk_cell BK174.out 1).trans rfl
                              have hcz46_2 : wr.cell? ⟨gb174, 2, none⟩ = some (.int .i64 t171) := (blk_cell BK174.out 2).trans rfl
                              have hcz46_3 : wr.cell? ⟨gb174, 3, none⟩ = some (.bool t172) := (blk_cell BK174.out 3).trans rfl
                              have hcz46_4 : wr.cell? ⟨gb174, 4, none⟩ = some (.bool t173) := (blk_cell BK174.out 4).trans rfl
                              have hfz46_0 := blk_frozen BK174.out 0
                              have hfz46_1 := blk_frozen BK174.out 1
                              have hfz46_2 := blk_frozen BK174.out 2
                              have hfz46_3 := blk_frozen BK174.out 3
                              have hfz46_4 := blk_frozen BK174.out 4
                              go_wp2_with (first | ((with_reducible refine gate_callee (f := 49) rfl ?_); refine goesL_ (some 94) rfl rfl Try.func49 (by kernel_rfl) rfl #[.agg #[.int .i64 t169, .int .i64 t170, .int .i64 t171, .bool t172, .bool t173], .slice Ao45 x14_4.length co45, .int .i64 (1 + ((l1.length : Int) % 50))] rfl (by (try simp only [List.map_toArray, List.map_cons, List.map_nil]); first | done | rfl | (simp only [List.length_drop, List.length_take]; rfl)) ?_; (with_reducible refine (impl_TimerTrace.calls k4 t169 t170 t171 t172 t173 _ _ x14_4 (1 + ((l1.length : Int) % 50)) t193 _ ?side1 ?side2 A44.out).mono ?_); (case side1 => repeat (first | exact (Kd.R_reads' HO_14.out).2.2 | (with_reducible refine Kd.C_alloc ?_ _) | (with_reducible refine Kd.C_drewN ?_ _) | (with_reducible refine Kd.C_drew ?_))); (case side2 => exact (Kd.R_reads' HO_14.out).2.1); rintro e w47 ⟨v194, rfl, ho0, hb⟩; refine ⟨_, rfl, ?_⟩; have n0_ := Aside0.mk (Kd.R_elder' (by (with_reducible repeat (first | apply Kd.R_alloc | apply Kd.R_drewN | apply Kd.R_drew)); exact HO_10.out) (Kd.R_base ho0) hb); have n1_ := Aside0.mk (Kd.R_elder' (by (with_reducible repeat (first | apply Kd.R_alloc | apply Kd.R_drewN | apply Kd.R_drew)); exact HO_12.out) (Kd.R_base ho0) hb); have n2_ := Aside0.mk (Kd.R_elder' (by (with_reducible repeat (first | apply Kd.R_alloc | apply Kd.R_drewN | apply Kd.R_drew)); exact HO_14.out) (Kd.R_base ho0) hb); have n3_ := Aside0.mk (Kd.R_lower (Kd.R_new' (Kd.R_new' (Kd.R_new' ho0 (Kd.R_lt (by (with_reducible repeat (first | apply Kd.R_alloc | apply Kd.R_drewN | apply Kd.R_drew)); exact HO_10.out))) (Kd.R_lt (by (with_reducible repeat (first | apply Kd.R_alloc | apply Kd.R_drewN | apply Kd.R_drew)); exact HO_12.out))) (Kd.R_lt (by (with_reducible repeat (first | apply Kd.R_alloc | apply Kd.R_drewN | apply Kd.R_drew)); exact HO_14.out))) (below_size (by repeat (first | (with_reducible first | exact HB.out | apply below_alloc | apply pw_below_drewN | apply below_drew1 | refine below_set ?_ GE174.out) | exact HB.out)))); have n4_ := Aside0.mk (blk_below (g := gb174) (o := .cells #[.int .i64 t169, .int .i64 t170, .int .i64 t171, .bool t172, .bool t173] 28 (0, 0)) (by (with_reducible repeat (first | refine blk_drewN ?_ _ | refine blk_drew ?_ | refine blk_alloc ?_ _)); exact BK174.out) hb); have n5_ := Aside0.mk (below_step (by repeat (first | (with_reducible first | exact HB.out | apply below_alloc | apply pw_below_drewN | apply below_drew1 | refine below_set ?_ GE174.out) | exact HB.out)) hb); clear HO_10; clear HO_12; clear HO_14; clear BK174; clear HB; have HO_10 := n0_; have HO_12 := n1_; have HO_14 := n2_; have HO195 := n3_; have BK174 := n4_; have HB := n5_; clear n0_ n1_ n2_ n3_ n4_ n5_; (try clear hb); (try clear hb2); (try clear hk); (try clear hi); (try clear ho0)))
                              go_loopg [17] k4 (fun kq v17 w' => ∃ (x17_5 : Int), v17 = .int .i64 x17_5 ∧ Aside0 (laws_FnTimerPulse.l3 kq (1 + ((l1.length : Int) % 50)) (1 + ((ji7) % 40)) x10_2 t185 t193 x17_5 t169 t170 t171 t172 t173 = some r) ∧ Aside0 (kq ≤ k4) ∧ Aside0 (Kd.R Kd.bool 4 w' w.heap.size (fun k_ => some k_ ≠ ((.slice Ao35 t185.length co35) : Value).ownBlock ∧ some k_ ≠ (v194 : Value).ownBlock) (.slice Ao24 x10_2.length co24) x10_2) ∧ Aside0 (Kd.R Kd.bool 4 w' w.heap.size (fun k_ => some k_ ≠ ((.slice Ao24 x10_2.length co24) : Value).ownBlock ∧ some k_ ≠ (v194 : Value).ownBlock) (.slice Ao35 t185.length co35) t185) ∧ Aside0 (Kd.R Kd.bool 4 w' w.heap.size (fun k_ => some k_ ≠ ((.slice Ao24 x10_2.length co24) : Value).ownBlock ∧ some k_ ≠ ((.slice Ao35 t185.length co35) : Value).ownBlock) v194 t193) ∧ Aside0 (w'.heap[gb174]? = some (.cells #[.int .i64 t169, .int .i64 t170, .int .i64 t171, .bool t172, .bool t173] 28 (0, 0))) ∧ Aside0 (Below w.heap.size w w'))
                              case atStart => exact ⟨(0), (by first | rfl | (simp; done) | (simp [*]; done)), H', ⟨Nat.le_refl _⟩, ⟨by (with_reducible repeat (first | apply Kd.R_alloc | apply Kd.R_drewN | apply Kd.R_drew)); exact Kd.R_mono HO_10.out (fun _ hk => ⟨hk.1.1, hk.2⟩)⟩, ⟨by (with_reducible repeat (first | apply Kd.R_alloc | apply Kd.R_drewN | apply Kd.R_drew)); exact Kd.R_mono HO_12.out (fun _ hk => ⟨hk.1.1, hk.2⟩)⟩, ⟨by (with_reducible repeat (first | apply Kd.R_alloc | apply Kd.R_drewN | apply Kd.R_drew)); exact Kd.R_mono HO195.out (fun _ hk => ⟨hk.1.1.2, hk.1.2⟩)⟩, ⟨by (with_reducible repeat (first | refine blk_drewN ?_ _ | refine blk_drew ?_ | refine blk_alloc ?_ _)); exact BK174.out⟩, ⟨by repeat (first | (with_reducible first | exact HB.out | apply below_alloc | apply pw_below_drewN | apply below_drew1 | refine below_set ?_ GE174.out) | exact HB.out)⟩⟩
                              case round =>
                                clear H'
                                try clear c1
                                try clear p1
                                try clear q1
                                try clear hx1
                                try clear c2
                                try clear p2
                                try clear q2
                                try clear c3
                                try clear c4
                                try clear c4b0
                                try clear c4b1
                                try clear p4
                                try clear q4
                                try clear hx4
                                try clear hf4
                                try clear c5
                                try clear p6
                                try clear c14
                                try clear c15
                                try clear c15b0
                                try clear c16
                                try clear c16b0
                                try clear c17
                                try clear c17b0
                                try clear p17
                                try clear q17
                                try clear hx17
                                try clear c18
                                try clear p18
                                try clear q18
                                try clear hx18
                                try clear c20
                                try clear c22
                                try clear c26
                                try clear c26b0
                                try clear c27
                                try clear c27b0
                                try clear q28
                                try clear c29
                                try clear c33
                                try clear c33b0
                                try clear c33b1
                                try clear c34
                                try clear c34b0
                                try clear c34b1
                                try clear c38
                                try clear c38b0
                                try clear c39
                                try clear c39b0
                                try clear p40
                                try clear q40
                                try clear hx40
                                try clear hf40
                                try clear hcz12_0
                                try clear hcz12_1
                                try clear hcz12_2
                                try clear hcz12_3
                                try clear hcz12_4
                                try clear hcz23_0
                                try clear hcz23_1
                                try clear hcz23_2
                                try clear hcz23_3
                                try clear hcz23_4
                                try clear hcz46_0
                                try clear hcz46_1
                                try clear hcz46_2
                                try clear hcz46_3
                                try clear hcz46_4
                                try clear hfz12_0
                                try clear hfz12_1
                                try clear hfz12_2
                                try clear hfz12_3
                                try clear hfz12_4
                                try clear hfz23_0
                                try clear hfz23_1
                                try clear hfz23_2
                                try clear hfz23_3
                                try clear hfz23_4
                                try clear hfz46_0
                                try clear hfz46_1
                                try clear hfz46_2
                                try clear hfz46_3
                                try clear hfz46_4
                                try clear hx178_0
                                try clear hx188_0
                                try clear hx40_0
                                try clear p1
                                try clear p17
                                try clear p178
                                try clear p18
                                try clear p188
                                try clear p2
                                try clear p40
                                try clear p6
                                try clear q1
                                try clear q17
                                try clear q178
                                try clear q18
                                try clear q188
                                try clear q2
                                try clear q28
                                try clear q40
                                obtain ⟨x17_5, rfl, HA, HK5, HO_10, HO_12, HO_16, BK174, HB⟩ := hrel
                                cases gk with
                                | zero => exact absurd HA.out (by simp [laws_FnTimerPulse.l3])
                                | succ k5 =>
                                  have H := HA.out
                                  clear HA
                                  simp only [laws_FnTimerPulse.l3] at H
                                  by_cases c48 : x17_5 < (t193.length : Int)
                                  · rw [if_pos c48] at H
                                    have c48b0 : decide (x17_5 < (t193.length : Int)) = true := decide_eq_true c48
                                    clear c48
                                    by_cases c49 : 0 ≤ x17_5
                                    · rw [if_pos c49] at H
                                      have c49b0 : decide (0 ≤ x17_5) = true := decide_eq_true c49
                                      clear c49
                                      by_cases c50 : ((rdOf false t193 x17_5) != (decide (x17_5 < (1 + ((ji7) % 40))))) = true
                                      · rw [if_pos c50] at H
                                        have c50b0 : ((rdOf false t193 x17_5) != (decide (x17_5 < (1 + ((ji7) % 40))))) = true := c50
                                        (try (have c50b1 : decide ((rdOf false t193 x17_5) = (decide (x17_5 < (1 + ((ji7) % 40))))) = false := by simpa using c50))
                                        (try (have c50b2 : ((rdOf false t193 x17_5) == (decide (x17_5 < (1 + ((ji7) % 40))))) = false := by simpa using c50))
                                        (try (have c50b3 : ¬ ((rdOf false t193 x17_5) = (decide (x17_5 < (1 + ((ji7) % 40))))) := by simpa using c50))
                                        clear c50
                                        obtain rfl := Option.some.inj H
                                        obtain ⟨Ao51, co51, eo51⟩ := Kd.R_slice HO_16.out
                                        subst eo51
                                        have p196 : 0 ≤ (x17_5 : Int) := of_decide_eq_true (by first | (with_reducible assumption) | assumption)
                                        have q196 : x17_5 < (t193.length : Int) := of_decide_eq_true (by first | (with_reducible assumption) | assumption)
                                        obtain ⟨ad196, e196, hx196_0⟩ := Kd.at_bool (Kd.R_reads' HO_16.out).2.2 x17_5 p196 q196
                                        cases e196
                                        replace p196 := eq_true p196
                                        replace q196 := eq_true q196
                                        go_wp2
                                        go_ret
                                        exact ⟨by first | rfl | (simp [errW_none, errW_some] <;> rfl) | (simp only [← hji7, ← hji32]; first | rfl | (simp [errW_none, errW_some] <;> rfl)) | (simp [*, errW_none, errW_some] <;> rfl), by repeat (first | (with_reducible first | exact HB.out | apply below_alloc | apply pw_below_drewN | apply below_drew1 | refine below_set ?_ GE174.out) | exact HB.out)⟩
                                      · rw [if_neg c50] at H
                                        have c50b0 : ((rdOf false t193 x17_5) != (decide (x17_5 < (1 + ((ji7) % 40))))) = false := by simpa using c50
                                        (try (have c50b1 : decide ((rdOf false t193 x17_5) = (decide (x17_5 < (1 + ((ji7) % 40))))) = true := by simpa using c50))
                                        (try (have c50b2 : ((rdOf false t193 x17_5) == (decide (x17_5 < (1 + ((ji7) % 40))))) = true := by simpa using c50))
                                        clear c50
                                        have H' := Aside0.mk H
                                        clear H
                                        obtain ⟨Ao52, co52, eo52⟩ := Kd.R_slice HO_16.out
                                        subst eo52
                                        have p196 : 0 ≤ (x17_5 : Int) := of_decide_eq_true (by first | (with_reducible assumption) | assumption)
                                        have q196 : x17_5 < (t193.length : Int) := of_decide_eq_true (by first | (with_reducible assumption) | assumption)
                                        obtain ⟨ad196, e196, hx196_0⟩ := Kd.at_bool (Kd.R_reads' HO_16.out).2.2 x17_5 p196 q196
                                        cases e196
                                        replace p196 := eq_true p196
                                        replace q196 := eq_true q196
                                        go_wp2
                                        go_roundg k5
                                        case measure => have := HJ2.out; have := HK2.out; have := HK3.out; have := HK4.out; have := HK5.out; omega
                                        case rel => exact ⟨(wrap64 (x17_5 + 1)), (by first | rfl | (simp; done) | (simp [*]; done)), H', ⟨by have := HJ2.out; have := HK2.out; have := HK3.out; have := HK4.out; have := HK5.out; omega⟩, ⟨by (with_reducible repeat (first | apply Kd.R_alloc | apply Kd.R_drewN | apply Kd.R_drew)); exact HO_10.out⟩, ⟨by (with_reducible repeat (first | apply Kd.R_alloc | apply Kd.R_drewN | apply Kd.R_drew)); exact HO_12.out⟩, ⟨by (with_reducible repeat (first | apply Kd.R_alloc | apply Kd.R_drewN | apply Kd.R_drew)); exact HO_16.out⟩, ⟨by (with_reducible repeat (first | refine blk_drewN ?_ _ | refine blk_drew ?_ | refine blk_alloc ?_ _)); exact BK174.out⟩, ⟨by repeat (first | (with_reducible first | exact HB.out | apply below_alloc | apply pw_below_drewN | apply below_drew1 | refine below_set ?_ GE174.out) | exact HB.out)⟩⟩
                                    · rw [if_neg c49] at H
                                      exact absurd H (by simp)
                                  · rw [if_neg c48] at H
                                    have c48b0 : decide (x17_5 < (t193.length : Int)) = false := decide_eq_false c48
                                    clear c48
                                    by_cases c53 : (t185.length : Int) = (1 + ((ji7) % 40))
                                    · rw [if_pos c53] at H
                                      have c53b0 : ((t185.length : Int) == (1 + ((ji7) % 40))) = true := beq_iff_eq.mpr c53
                                      have c53b1 : ((t185.length : Int) != (1 + ((ji7) % 40))) = false := bne_eq_false_iff_eq.mpr c53
                                      clear c53
                                      replace H := Option.bind_eq_some_iff.mp H
                                      obtain ⟨t197, A540, H⟩ := H
                                      replace H : ((laws_sameBools.f k5 t185 t197).bind fun t200 => (some t200)) = some r := H
                                      have A54 := Aside0.mk A540
                                      clear A540
                                      replace H := Option.bind_eq_some_iff.mp H
                                      obtain ⟨t200, A550, H⟩ := H
                                      replace H : (some t200) = some r := H
                                      have A55 := Aside0.mk A550
                                      clear A550
                                      obtain rfl := Option.some.inj H
                                      obtain ⟨Ao56, co56, eo56⟩ := Kd.R_slice HO_16.out
                                      subst eo56
                                      have hcz57_0 : wr.cell? ⟨gb174, 0, none⟩ = some (.int .i64 t169) := (blk_cell BK174.out 0).trans rfl
                                      have hcz57_1 : wr.cell? ⟨gb174, 1, none⟩ = some (.int .i64 t170) := (blk_cell BK174.out 1).trans rfl
                                      have hcz57_2 : wr.cell? ⟨gb174, 2, none⟩ = some (.int .i64 t171) := (blk_cell BK174.out 2).trans rfl
                                      have hcz57_3 : wr.cell? ⟨gb174, 3, none⟩ = some (.bool t172) := (blk_cell BK174.out 3).trans rfl
                                      have hcz57_4 : wr.cell? ⟨gb174, 4, none⟩ = some (.bool t173) := (blk_cell BK174.out 4).trans rfl
                                      have hfz57_0 := blk_frozen BK174.out 0
                                      have hfz57_1 := blk_frozen BK174.out 1
                                      have hfz57_2 := blk_frozen BK174.out 2
                                      have hfz57_3 := blk_frozen BK174.out 3
                                      have hfz57_4 := blk_frozen BK174.out 4
                                      go_wp2_with (first | (go_at_call 48; (with_reducible refine (spec_TimerTrace.calls k5 t169 t170 t171 t172 t173 _ _ x10_2 (1 + ((l1.length : Int) % 50)) t197 _ ?side1 ?side2 A54.out).mono ?_); (case side1 => repeat (first | exact (Kd.R_reads' HO_10.out).2.2 | (with_reducible refine Kd.C_alloc ?_ _) | (with_reducible refine Kd.C_drewN ?_ _) | (with_reducible refine Kd.C_drew ?_))); (case side2 => exact (Kd.R_reads' HO_10.out).2.1); rintro e w58 ⟨v198, rfl, ho0, hb⟩; have n0_ := Aside0.mk (Kd.R_elder' (by (with_reducible repeat (first | apply Kd.R_alloc | apply Kd.R_drewN | apply Kd.R_drew)); exact HO_10.out) (Kd.R_base ho0) hb); have n1_ := Aside0.mk (Kd.R_elder' (by (with_reducible repeat (first | apply Kd.R_alloc | apply Kd.R_drewN | apply Kd.R_drew)); exact HO_12.out) (Kd.R_base ho0) hb); have n2_ := Aside0.mk (Kd.R_elder' (by (with_reducible repeat (first | apply Kd.R_alloc | apply Kd.R_drewN | apply Kd.R_drew)); exact HO_16.out) (Kd.R_base ho0) hb); have n3_ := Aside0.mk (Kd.R_lower (Kd.R_new' (Kd.R_new' (Kd.R_new' ho0 (Kd.R_lt (by (with_reducible repeat (first | apply Kd.R_alloc | apply Kd.R_drewN | apply Kd.R_drew)); exact HO_10.out))) (Kd.R_lt (by (with_reducible repeat (first | apply Kd.R_alloc | apply Kd.R_drewN | apply Kd.R_drew)); exact HO_12.out))) (Kd.R_lt (by (with_reducible repeat (first | apply Kd.R_alloc | apply Kd.R_drewN | apply Kd.R_drew)); exact HO_16.out))) (below_size (by repeat (first | (with_reducible first | exact HB.out | apply below_alloc | apply pw_below_drewN | apply below_drew1 | refine below_set ?_ GE174.out) | exact HB.out)))); have n4_ := Aside0.mk (blk_below (g := gb174) (o := .cells #[.int .i64 t169, .int .i64 t170, .int .i64 t171, .bool t172, .bool t173] 28 (0, 0)) (by (with_reducible repeat (first | refine blk_drewN ?_ _ | refine blk_drew ?_ | refine blk_alloc ?_ _)); exact BK174.out) hb); have n5_ := Aside0.mk (below_step (by repeat (first | (with_reducible first | exact HB.out | apply below_alloc | apply pw_below_drewN | apply below_drew1 | refine below_set ?_ GE174.out) | exact HB.out)) hb); clear HO_10; clear HO_12; clear HO_16; clear BK174; clear HB; have HO_10 := n0_; have HO_12 := n1_; have HO_16 := n2_; have HO199 := n3_; have BK174 := n4_; have HB := n5_; clear n0_ n1_ n2_ n3_ n4_ n5_; (try clear hb); (try clear hb2); (try clear hk); (try clear hi); (try clear ho0); obtain ⟨Ao59, co59, eo59⟩ := Kd.R_slice HO199.out; subst eo59) | (go_at_call 51; (with_reducible refine (laws_sameBools.calls k5 _ _ t185 _ _ t197 t200 _ ?side1 ?side2 ?side3 ?side4 A55.out).mono ?_); (case side1 => repeat (first | exact (Kd.R_reads' HO_12.out).2.2 | (with_reducible refine Kd.C_alloc ?_ _) | (with_reducible refine Kd.C_drewN ?_ _) | (with_reducible refine Kd.C_drew ?_))); (case side2 => exact (Kd.R_reads' HO_12.out).2.1); (case side3 => repeat (first | exact (Kd.R_reads' HO199.out).2.2 | (with_reducible refine Kd.C_alloc ?_ _) | (with_reducible refine Kd.C_drewN ?_ _) | (with_reducible refine Kd.C_drew ?_))); (case side4 => exact (Kd.R_reads' HO199.out).2.1); rintro e w' ⟨rfl, ⟨nd, rfl⟩⟩))
                                      go_ret
                                      exact ⟨by first | rfl | (simp [errW_none, errW_some] <;> rfl) | (simp only [← hji7, ← hji32]; first | rfl | (simp [errW_none, errW_some] <;> rfl)) | (simp [*, errW_none, errW_some] <;> rfl), by repeat (first | (with_reducible first | exact HB.out | apply below_alloc | apply pw_below_drewN | apply below_drew1 | refine below_set ?_ GE174.out) | exact HB.out)⟩
                                    · rw [if_neg c53] at H
                                      have c53b0 : ((t185.length : Int) == (1 + ((ji7) % 40))) = false := beq_eq_false_iff_ne.mpr c53
                                      have c53b1 : ((t185.length : Int) != (1 + ((ji7) % 40))) = true := bne_iff_ne.mpr c53
                                      obtain rfl := Option.some.inj H
                                      obtain ⟨Ao60, co60, eo60⟩ := Kd.R_slice HO_16.out
                                      subst eo60
                                      go_wp2
                                      go_ret
                                      exact ⟨by first | rfl | (simp [errW_none, errW_some] <;> rfl) | (simp only [← hji7, ← hji32]; first | rfl | (simp [errW_none, errW_some] <;> rfl)) | (simp [*, errW_none, errW_some] <;> rfl), by repeat (first | (with_reducible first | exact HB.out | apply below_alloc | apply pw_below_drewN | apply below_drew1 | refine below_set ?_ GE174.out) | exact HB.out)⟩
                      · rw [if_neg c34] at H
                        exact absurd H (by simp)
                    · rw [if_neg c33] at H
                      exact absurd H (by simp)

/-- THE ONE PURE STATEMENT of laws_FnTimerPulse: yours. -/
def laws_FnTimerPulse.Pure : Prop := ∀ (l0 : List Int) (l1 : List Int), l0.length ≤ maxLen → l0.length * 1 ≤ 140737488351232 → (∀ x ∈ l0, (Lit.int .u8 x).wf = true) → l1.length ≤ maxLen → l1.length * 1 ≤ 140737488351232 → (∀ x ∈ l1, (Lit.int .u8 x).wf = true) → ∃ k, laws_FnTimerPulse.f k l0 l1 = some true
theorem laws_FnTimerPulse.walk (P : laws_FnTimerPulse.Pure) (a0 : Option Addr) (len0 cap0 : Nat) (z0 : List Int) (a1 : Option Addr) (len1 cap1 : Nat) (z1 : List Int) (w : World) (w0 : (a0 = none ∧ len0 = 0 ∧ cap0 = 0 ∧ z0 = []) ∨ ∃ x, a0 = some x ∧ len0 ≤ cap0 ∧ cap0 ≤ maxLen ∧ z0.length = cap0 ∧ (∀ i, i < z0.length → w.cell? (x.add i) = some (.int .u8 (z0.getD i 0))) ∧ ∀ n ∈ z0, (Lit.int .u8 n).wf = true) (y0 : len0 * 1 ≤ 140737488351232) (w1 : (a1 = none ∧ len1 = 0 ∧ cap1 = 0 ∧ z1 = []) ∨ ∃ x, a1 = some x ∧ len1 ≤ cap1 ∧ cap1 ≤ maxLen ∧ z1.length = cap1 ∧ (∀ i, i < z1.length → w.cell? (x.add i) = some (.int .u8 (z1.getD i 0))) ∧ ∀ n ∈ z1, (Lit.int .u8 n).wf = true) (y1 : len1 * 1 ≤ 140737488351232) :
    Calls Try.prog 14 #[.slice a0 len0 cap0, .slice a1 len1 cap1] w fun e w' => e = .returned (.bool true) ∧ Below w.heap.size w w' := by
  obtain ⟨l0, rfl, hr0, hm0, hw0, hc0⟩ := ReadsInt.ofRowC w0
  obtain ⟨l1, rfl, hr1, hm1, hw1, hc1⟩ := ReadsInt.ofRowC w1
  obtain ⟨k, h⟩ := P l0 l1 hm0 y0 hw0 hm1 y1 hw1
  refine (laws_FnTimerPulse.calls k _ _ l0 _ _ l1 true w (Kd.C_of_reads (d := (0 : Int)) (h1 := fun _ => rfl) hr0) hc0 (Kd.C_of_reads (d := (0 : Int)) (h1 := fun _ => rfl) hr1) hc1 h).mono ?_
  rintro e w' ⟨rfl, hd⟩
  exact ⟨rfl, hd⟩

end Go.Proofs.Ytflemeaaiokjmaa.GFnTimerPulse

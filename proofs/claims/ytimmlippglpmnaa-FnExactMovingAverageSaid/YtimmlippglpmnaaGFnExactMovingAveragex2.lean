/- Functions of the program as Lean functions, with proofs that the machine comes to their answers; written by this session's program mkprint.py; no condition beyond each theorem's own. -/
import Derived.Test.YtimmlippglpmnaaGFnExactMovingAveragex0
import Derived.Test.YtimmlippglpmnaaGFnExactMovingAveragex1
namespace Go.Proofs.Ytimmlippglpmnaa.GFnExactMovingAverage
open Go.RowKit Go.Proofs.YtimmlippglpmnaaV.PrintWords Go.Proofs.YtimmlippglpmnaaV.PrintLast Go.Proofs.YtimmlippglpmnaaV.PrintMore
attribute [local go_sem] max2_int min2_int max_two min_two max_three min_three max_four min_four   -- for this text's walks alone
set_option linter.unusedVariables false
set_option linter.unusedSimpArgs false

/-! ### impl_MovingAverage: function 32 -/
mutual
def impl_MovingAverage.j0 : Nat → List Int → Int → Bool → Option (List Int)
  | 0, _, _, _ => none
  | k + 1, x0, x1, x23 => if x23 = true then (some ([] : List Int)) else (if 0 ≤ (x0.length : Int) then (if ((x0.length : Int) : Int).toNat ≤ 35184372088832 then (impl_MovingAverage.l0 k x0 x1 (List.replicate ((x0.length : Int) : Int).toNat 0) (x0.length : Int) 0) else (none)) else (none))
def impl_MovingAverage.l0 : Nat → List Int → Int → List Int → Int → Int → Option (List Int)
  | 0, _, _, _, _, _ => none
  | k + 1, x0, x1, x5, x28, x29 => if x29 < x28 then (if 0 ≤ (mx 0 (wrap64 ((wrap64 (x29 + 1)) - x1))) then (if (mx 0 (wrap64 ((wrap64 (x29 + 1)) - x1))) ≤ (wrap64 (x29 + 1)) then (if (wrap64 (x29 + 1)) ≤ (x0.length : Int) then (impl_MovingAverage.l1 k x0 x1 x5 x29 ((x0.take ((wrap64 (x29 + 1)) : Int).toNat).drop ((mx 0 (wrap64 ((wrap64 (x29 + 1)) - x1))) : Int).toNat) 0 x28 x29 ((x0.take ((wrap64 (x29 + 1)) : Int).toNat).drop ((mx 0 (wrap64 ((wrap64 (x29 + 1)) - x1))) : Int).toNat) (((x0.take ((wrap64 (x29 + 1)) : Int).toNat).drop ((mx 0 (wrap64 ((wrap64 (x29 + 1)) - x1))) : Int).toNat).length : Int) 0) else (none)) else (none)) else (none)) else (some x5)
def impl_MovingAverage.l1 : Nat → List Int → Int → List Int → Int → List Int → Int → Int → Int → List Int → Int → Int → Option (List Int)
  | 0, _, _, _, _, _, _, _, _, _, _, _ => none
  | k + 1, x0, x1, x5, x6, x7, x8, x28, x29, x41, x42, x43 => if x43 < x42 then (if 0 ≤ x43 then (if x43 < (x41.length : Int) then (impl_MovingAverage.l1 k x0 x1 x5 x6 x7 (wrap64 (x8 + (rd x41 x43))) x28 x29 x41 x42 (wrap64 (x43 + 1))) else (none)) else (none)) else ((impl_floor.f x8 (x7.length : Int)).bind fun t131 => (if 0 ≤ x6 then (if x6 < (x5.length : Int) then (impl_MovingAverage.l0 k x0 x1 (x5.set (x6 : Int).toNat t131) x28 (wrap64 (x29 + 1))) else (none)) else (none)))
end
def impl_MovingAverage.f (k : Nat) (l0 : List Int) (a1 : Int) : Option (List Int) := if (l0.length : Int) > 200 then (impl_MovingAverage.j0 k l0 a1 true) else ((impl_in.f a1 1 50).bind fun t124 => (if t124 = true then ((impl_areWords.f l0).bind fun t125 => (impl_MovingAverage.j0 k l0 a1 (!t125))) else (impl_MovingAverage.j0 k l0 a1 true)))
theorem impl_MovingAverage.mono_l : ∀ k, (∀ y0 y1 y2, LeO (impl_MovingAverage.j0 k y0 y1 y2) (impl_MovingAverage.j0 (k + 1) y0 y1 y2)) ∧ (∀ y0 y1 y2 y3 y4, LeO (impl_MovingAverage.l0 k y0 y1 y2 y3 y4) (impl_MovingAverage.l0 (k + 1) y0 y1 y2 y3 y4)) ∧ (∀ y0 y1 y2 y3 y4 y5 y6 y7 y8 y9 y10, LeO (impl_MovingAverage.l1 k y0 y1 y2 y3 y4 y5 y6 y7 y8 y9 y10) (impl_MovingAverage.l1 (k + 1) y0 y1 y2 y3 y4 y5 y6 y7 y8 y9 y10))
  | 0 => ⟨fun _ _ _ r h => by simp [impl_MovingAverage.j0] at h, fun _ _ _ _ _ r h => by simp [impl_MovingAverage.l0] at h, fun _ _ _ _ _ _ _ _ _ _ _ r h => by simp [impl_MovingAverage.l1] at h⟩
  | k + 1 => by
    obtain ⟨ih0, ih1, ih2⟩ := impl_MovingAverage.mono_l k
    refine ⟨?_, ?_, ?_⟩
    · intro y0 y1 y2
      unfold impl_MovingAverage.j0
      repeat' first
      | (with_reducible exact ih0 _ _ _)
      | (with_reducible exact ih1 _ _ _ _ _)
      | (with_reducible exact ih2 _ _ _ _ _ _ _ _ _ _ _)
      | (with_reducible exact LeO.refl _)
      | (with_reducible exact LeO.none _)
      | (with_reducible refine LeO.ite ?_ ?_)
      | (with_reducible refine LeO.bind ?_ (fun _ => ?_))
      | exact ih0 _ _ _
      | exact ih1 _ _ _ _ _
      | exact ih2 _ _ _ _ _ _ _ _ _ _ _
      | exact LeO.none _
      | refine LeO.ite ?_ ?_
      | refine LeO.bind ?_ (fun _ => ?_)
    · intro y0 y1 y2 y3 y4
      unfold impl_MovingAverage.l0
      repeat' first
      | (with_reducible exact ih0 _ _ _)
      | (with_reducible exact ih1 _ _ _ _ _)
      | (with_reducible exact ih2 _ _ _ _ _ _ _ _ _ _ _)
      | (with_reducible exact LeO.refl _)
      | (with_reducible exact LeO.none _)
      | (with_reducible refine LeO.ite ?_ ?_)
      | (with_reducible refine LeO.bind ?_ (fun _ => ?_))
      | exact ih0 _ _ _
      | exact ih1 _ _ _ _ _
      | exact ih2 _ _ _ _ _ _ _ _ _ _ _
      | exact LeO.none _
      | refine LeO.ite ?_ ?_
      | refine LeO.bind ?_ (fun _ => ?_)
    · intro y0 y1 y2 y3 y4 y5 y6 y7 y8 y9 y10
      unfold impl_MovingAverage.l1
      repeat' first
      | (with_reducible exact ih0 _ _ _)
      | (with_reducible exact ih1 _ _ _ _ _)
      | (with_reducible exact ih2 _ _ _ _ _ _ _ _ _ _ _)
      | (with_reducible exact LeO.refl _)
      | (with_reducible exact LeO.none _)
      | (with_reducible refine LeO.ite ?_ ?_)
      | (with_reducible refine LeO.bind ?_ (fun _ => ?_))
      | exact ih0 _ _ _
      | exact ih1 _ _ _ _ _
      | exact ih2 _ _ _ _ _ _ _ _ _ _ _
      | exact LeO.none _
      | refine LeO.ite ?_ ?_
      | refine LeO.bind ?_ (fun _ => ?_)
theorem impl_MovingAverage.mono : ∀ a0 a1 k, LeO (impl_MovingAverage.f k a0 a1) (impl_MovingAverage.f (k + 1) a0 a1) := by
  intro a0 a1 k
  obtain ⟨ih0, ih1, ih2⟩ := impl_MovingAverage.mono_l k
  unfold impl_MovingAverage.f
  repeat' first
      | (with_reducible exact ih0 _ _ _)
      | (with_reducible exact ih1 _ _ _ _ _)
      | (with_reducible exact ih2 _ _ _ _ _ _ _ _ _ _ _)
      | (with_reducible exact LeO.refl _)
      | (with_reducible exact LeO.none _)
      | (with_reducible refine LeO.ite ?_ ?_)
      | (with_reducible refine LeO.bind ?_ (fun _ => ?_))
      | exact ih0 _ _ _
      | exact ih1 _ _ _ _ _
      | exact ih2 _ _ _ _ _ _ _ _ _ _ _
      | exact LeO.none _
      | refine LeO.ite ?_ ?_
      | refine LeO.bind ?_ (fun _ => ?_)
set_option maxHeartbeats 8000000 in
set_option maxRecDepth 100000 in
theorem impl_MovingAverage.calls (k : Nat) (A0 : Option Addr) (c0 : Nat) (l0 : List Int) (a1 : Int) (r : List Int) (w : World) (hr0 : Kd.C (Kd.int .i64) w A0 l0.length l0) (hc0 : l0.length ≤ c0) (h : impl_MovingAverage.f k l0 a1 = some r) :
    Calls Try.prog 32 #[.slice A0 l0.length c0, .int .i64 a1] w fun e w' => ∃ v0_ : Value, e = .returned (v0_) ∧ Kd.R (Kd.int .i64) 3 w' w.heap.size (fun _ => True) v0_ r ∧ Below w.heap.size w w' := by
  have HR0 := Aside0.mk hr0
  have HC0 := Aside0.mk hc0
  clear hr0 hc0
  have HB := Aside0.mk (Below.refl w.heap.size w)
  have H : (if (l0.length : Int) > 200 then (impl_MovingAverage.j0 k l0 a1 true) else ((impl_in.f a1 1 50).bind fun t124 => (if t124 = true then ((impl_areWords.f l0).bind fun t125 => (impl_MovingAverage.j0 k l0 a1 (!t125))) else (impl_MovingAverage.j0 k l0 a1 true)))) = some r := h
  clear h
  have HC3 := Aside0.mk H
  clear H
  go_enter Try.func32, Try.ntmps32
  go_upto_region 1 with (fail)
  go_cut [23] (fun v23 wc => ∃ (kq : Nat) (x23_2 : Bool), v23 = .bool x23_2 ∧ Aside0 (impl_MovingAverage.j0 kq l0 a1 x23_2 = some r) ∧ Aside0 (kq ≤ k) ∧ Aside0 (Below w.heap.size w wc))
  case first =>
    have H := HC3.out
    clear HC3
    by_cases c4 : (l0.length : Int) > 200
    · rw [if_pos c4] at H
      have c4b0 : decide (200 < (l0.length : Int)) = true := decide_eq_true c4
      have c4b1 : decide (200 < l0.length) = true := decide_eq_true (by omega)
      clear c4
      (first | rw [c4b0] | (simp only [i64_w, i32_w]; rw [c4b0]) | skip)
      have H' := Aside0.mk H
      clear H
      go_wp2
      go_meet
      case rel => exact ⟨_, (true), (by first | rfl | (simp; done) | (simp [*]; done)), H', ⟨by first | omega | exact Nat.le_refl _⟩, ⟨by repeat (first | (with_reducible first | exact HB.out | apply below_alloc | apply pw_below_drewN | apply below_drew1) | exact HB.out)⟩⟩
    · rw [if_neg c4] at H
      have c4b0 : decide (200 < (l0.length : Int)) = false := decide_eq_false c4
      have c4b1 : decide (200 < l0.length) = false := decide_eq_false (by omega)
      clear c4
      (first | rw [c4b0] | (simp only [i64_w, i32_w]; rw [c4b0]) | skip)
      replace H := Option.bind_eq_some_iff.mp H
      obtain ⟨t124, A50, H⟩ := H
      replace H : (if t124 = true then ((impl_areWords.f l0).bind fun t125 => (impl_MovingAverage.j0 k l0 a1 (!t125))) else (impl_MovingAverage.j0 k l0 a1 true)) = some r := H
      have A5 := Aside0.mk A50
      clear A50
      by_cases c6 : t124 = true
      · subst c6
        have H1 : ((impl_areWords.f l0).bind fun t125 => (impl_MovingAverage.j0 k l0 a1 (!t125))) = some r := by rw [if_pos rfl] at H; exact H
        clear H
        have H := H1
        clear H1
        replace H := Option.bind_eq_some_iff.mp H
        obtain ⟨t125, A70, H⟩ := H
        replace H : (impl_MovingAverage.j0 k l0 a1 (!t125)) = some r := H
        have A7 := Aside0.mk A70
        clear A70
        have H' := Aside0.mk H
        clear H
        go_wp2_with (first | (go_at_call 58; (with_reducible refine (impl_in.calls a1 1 50 true _ A5.out).mono ?_); rintro e w' ⟨rfl, ⟨nd, rfl⟩⟩) | (go_at_call 55; (with_reducible refine (impl_areWords.calls _ _ l0 t125 _ ?side1 ?side2 A7.out).mono ?_); (case side1 => repeat (first | exact (Kd.C_below HR0.out (by repeat (first | (with_reducible first | exact HB.out | apply below_alloc | apply pw_below_drewN | apply below_drew1) | exact HB.out))) | (with_reducible refine Kd.C_alloc ?_ _) | (with_reducible refine Kd.C_drewN ?_ _) | (with_reducible refine Kd.C_drew ?_))); (case side2 => exact HC0.out); rintro e w' ⟨rfl, ⟨nd, rfl⟩⟩))
        go_meet
        case rel => exact ⟨_, (!t125), (by first | rfl | (simp; done) | (simp [*]; done)), H', ⟨by first | omega | exact Nat.le_refl _⟩, ⟨by repeat (first | (with_reducible first | exact HB.out | apply below_alloc | apply pw_below_drewN | apply below_drew1) | exact HB.out)⟩⟩
      · replace c6 := Bool.eq_false_iff.mpr c6
        subst c6
        have H1 : (impl_MovingAverage.j0 k l0 a1 true) = some r := by rw [if_neg (show ¬ (false = true) by decide)] at H; exact H
        clear H
        have H := H1
        clear H1
        have H' := Aside0.mk H
        clear H
        go_wp2_with (first | (go_at_call 58; (with_reducible refine (impl_in.calls a1 1 50 false _ A5.out).mono ?_); rintro e w' ⟨rfl, ⟨nd, rfl⟩⟩))
        go_meet
        case rel => exact ⟨_, (true), (by first | rfl | (simp; done) | (simp [*]; done)), H', ⟨by first | omega | exact Nat.le_refl _⟩, ⟨by repeat (first | (with_reducible first | exact HB.out | apply below_alloc | apply pw_below_drewN | apply below_drew1) | exact HB.out)⟩⟩
  case rest =>
    clear HC3
    try clear p2
    try clear c3
    try clear c4
    try clear c4b0
    try clear c4b1
    try clear c6
    obtain ⟨kq, x23_2, rfl, HA, HJ2, HB⟩ := hcut
    cases kq with
    | zero => exact absurd HA.out (by simp [impl_MovingAverage.j0])
    | succ kj2 =>
      have H := HA.out
      clear HA
      simp only [impl_MovingAverage.j0] at H
      by_cases c8 : x23_2 = true
      · subst c8
        have H1 : (some ([] : List Int)) = some r := by rw [if_pos rfl] at H; exact H
        clear H
        have H := H1
        clear H1
        obtain rfl := Option.some.inj H
        go_wp2
        go_ret
        exact ⟨_, by first | rfl | (simp [errW_none, errW_some] <;> rfl) | (simp [*, errW_none, errW_some] <;> rfl), by first | exact Kd.R_nil _ _ _ _ _ | exact Kd.N_nil _ _ _ _ _ | exact Kd.V_nil _ _ _ _ _ | exact Kd.Q_nil _ _ _ _ _ | exact Kd.S_nil _ _ _ _ _, by repeat (first | (with_reducible first | exact HB.out | apply below_alloc | apply pw_below_drewN | apply below_drew1) | exact HB.out)⟩
      · replace c8 := Bool.eq_false_iff.mpr c8
        subst c8
        have H1 : (if 0 ≤ (l0.length : Int) then (if ((l0.length : Int) : Int).toNat ≤ 35184372088832 then (impl_MovingAverage.l0 kj2 l0 a1 (List.replicate ((l0.length : Int) : Int).toNat 0) (l0.length : Int) 0) else (none)) else (none)) = some r := by rw [if_neg (show ¬ (false = true) by decide)] at H; exact H
        clear H
        have H := H1
        clear H1
        by_cases c9 : 0 ≤ (l0.length : Int)
        · rw [if_pos c9] at H
          have c9b0 := eq_true c9
          have c9b1 : decide (0 ≤ (l0.length : Int)) = true := decide_eq_true c9
          clear c9
          by_cases c10 : ((l0.length : Int) : Int).toNat ≤ 35184372088832
          · rw [if_pos c10] at H
            have c10b0 := eq_true c10
            have c10b1 : decide (((l0.length : Int) : Int).toNat ≤ 35184372088832) = true := decide_eq_true c10
            clear c10
            obtain ⟨y126, hy126⟩ : ∃ y_ : List Int, y_ = (List.replicate ((l0.length : Int) : Int).toNat 0) := ⟨_, rfl⟩
            replace H : (impl_MovingAverage.l0 kj2 l0 a1 y126 (l0.length : Int) 0) = some r := by first | (rw [hy126]; with_reducible exact H) | (have H2_ := (Option.bind_some _ _).symm.trans H; rw [hy126]; with_reducible exact H2_) | (have H2_ := (Option.bind_some _ _).symm.trans H; with_reducible exact H2_) | with_reducible exact H | (rw [hy126]; exact H) | exact H
            have Ny126 := Aside0.mk hy126
            clear hy126
            have H' := Aside0.mk H
            clear H
            go_wp2_with (first | ((with_reducible refine gate_dst (N := 26) rfl ?_); refine Kd.R_make (Kd.int .i64) _ 3 rfl (N := 26) rfl 32 _ _ rfl (l0.length : Int) rfl rfl Try.underlying32 (.int .i64 0) 8 info3 rfl (by decide) (by omega) 0 (ok := fun _ => True) (okp := fun _ => True) rfl (fun _ hk => hk) trivial (of_decide_eq_true (by first | (with_reducible assumption) | assumption)) (Nat.le_trans (Nat.mul_le_mul_right _ (of_decide_eq_true (by first | (with_reducible assumption) | assumption) : (l0.length : Int).toNat ≤ 35184372088832)) (by omega)) (Below.refl _ _) (Nat.le_refl _) ?_; intro v127 w11 ho12 hb hg_ hnew_; clear hg_ hnew_; (first | rw [← Ny126.out] at ho12 | (simp only [Int.reduceToNat] at ho12; rw [← Ny126.out] at ho12)); have n0_ := Aside0.mk (Kd.R_lower ho12 (below_size (by repeat (first | (with_reducible first | exact HB.out | apply below_alloc | apply pw_below_drewN | apply below_drew1) | exact HB.out)))); have n1_ := Aside0.mk (below_step (by repeat (first | (with_reducible first | exact HB.out | apply below_alloc | apply pw_below_drewN | apply below_drew1) | exact HB.out)) hb); clear HB; have HO128 := n0_; have HB := n1_; clear n0_ n1_; clear hb ho12))
            go_loopg [29] kj2 (fun kq v29 w' => ∃ (x5_2 : List Int) (x29_2 : Int), v29 = .int .i64 x29_2 ∧ Aside0 (impl_MovingAverage.l0 kq l0 a1 x5_2 (l0.length : Int) x29_2 = some r) ∧ Aside0 (kq ≤ kj2) ∧ Aside0 (Kd.R (Kd.int .i64) 3 w' w.heap.size (fun _ => True) v127 x5_2) ∧ Aside0 (Below w.heap.size w w'))
            case atStart => exact ⟨(y126), (0), (by first | rfl | (simp; done) | (simp [*]; done)), H', ⟨Nat.le_refl _⟩, ⟨by (with_reducible repeat (first | apply Kd.R_alloc | apply Kd.R_drewN | apply Kd.R_drew)); exact HO128.out⟩, ⟨by repeat (first | (with_reducible first | exact HB.out | apply below_alloc | apply pw_below_drewN | apply below_drew1) | exact HB.out)⟩⟩
            case round =>
              clear H'
              try clear c1
              try clear p2
              try clear c3
              try clear c4
              try clear c4b0
              try clear c4b1
              try clear c6
              try clear c8
              try clear c9
              try clear c9b0
              try clear c9b1
              try clear c10
              try clear c10b0
              try clear c10b1
              try clear p2
              obtain ⟨x5_2, x29_2, rfl, HA, HK2, HO_5, HB⟩ := hrel
              cases gk with
              | zero => exact absurd HA.out (by simp [impl_MovingAverage.l0])
              | succ k2 =>
                have H := HA.out
                clear HA
                simp only [impl_MovingAverage.l0] at H
                by_cases c13 : x29_2 < (l0.length : Int)
                · rw [if_pos c13] at H
                  have c13b0 : decide (x29_2 < (l0.length : Int)) = true := decide_eq_true c13
                  clear c13
                  obtain ⟨ji14, hji14⟩ : ∃ j_ : Int, (mx 0 (wrap64 ((wrap64 (x29_2 + 1)) - a1))) = j_ := ⟨_, rfl⟩
                  replace H : (if 0 ≤ (ji14) then (if (ji14) ≤ (wrap64 (x29_2 + 1)) then (if (wrap64 (x29_2 + 1)) ≤ (l0.length : Int) then (impl_MovingAverage.l1 k2 l0 a1 x5_2 x29_2 ((l0.take ((wrap64 (x29_2 + 1)) : Int).toNat).drop ((ji14) : Int).toNat) 0 (l0.length : Int) x29_2 ((l0.take ((wrap64 (x29_2 + 1)) : Int).toNat).drop ((ji14) : Int).toNat) (((l0.take ((wrap64 (x29_2 + 1)) : Int).toNat).drop ((ji14) : Int).toNat).length : Int) 0) else (none)) else (none)) else (none)) = some r := by first | (rw [hji14] at H; exact H) | (simp only [hji14] at H ⊢; exact H)
                  have hji14_ : (if 0 < (wrap64 ((wrap64 (x29_2 + 1)) - a1)) then (wrap64 ((wrap64 (x29_2 + 1)) - a1)) else 0) = ji14 := hji14
                  by_cases c15 : 0 ≤ (ji14)
                  · rw [if_pos c15] at H
                    have c15b0 := eq_true c15
                    have c15b1 : decide (0 ≤ (ji14)) = true := decide_eq_true c15
                    clear c15
                    by_cases c16 : (ji14) ≤ (wrap64 (x29_2 + 1))
                    · rw [if_pos c16] at H
                      have c16b0 := eq_true c16
                      have c16b1 : decide ((ji14) ≤ (wrap64 (x29_2 + 1))) = true := decide_eq_true c16
                      by_cases c17 : (wrap64 (x29_2 + 1)) ≤ (l0.length : Int)
                      · rw [if_pos c17] at H
                        have c17b0 := eq_true c17
                        have c17b1 : decide ((wrap64 (x29_2 + 1)) ≤ (l0.length : Int)) = true := decide_eq_true c17
                        have H' := Aside0.mk H
                        clear H
                        obtain ⟨i018, hi018, _, hsz18, _⟩ := info_parts info3
                        obtain ⟨A18, hcut18, hA18, hC18⟩ := print_mid_of (P := Try.prog) (Value.int .i64) 0 32 3 .i64 .i64 Try.underlying32 hi018 hsz18 A0 c0 l0 (ji14) (wrap64 (x29_2 + 1)) (of_decide_eq_true (by first | (with_reducible assumption) | assumption)) (by first | omega | exact of_decide_eq_true (by first | (with_reducible assumption) | assumption)) (of_decide_eq_true (by first | (with_reducible assumption) | assumption)) HC0.out
                        have HR129 := Aside0.mk (Kd.C_of_reads (h1 := fun _ => rfl) (hA18 _ (Kd.reads_of_C HR0.out)))
                        have HC129 := Aside0.mk hC18
                        clear hA18 hC18 hi018 hsz18
                        obtain ⟨pt_18, hpt_18⟩ : ∃ l_, l_ = ((l0.take ((wrap64 (x29_2 + 1)) : Int).toNat).drop ((ji14) : Int).toNat) := ⟨_, rfl⟩
                        rw [← hpt_18] at hcut18 H' HR129 HC129
                        clear hpt_18
                        go_wp2
                        go_loopg [8, 43] k2 (fun kq v8 v43 w' => ∃ (x8_3 : Int) (x43_3 : Int), v8 = .int .i64 x8_3 ∧ v43 = .int .i64 x43_3 ∧ Aside0 (impl_MovingAverage.l1 kq l0 a1 x5_2 x29_2 pt_18 x8_3 (l0.length : Int) x29_2 pt_18 (pt_18.length : Int) x43_3 = some r) ∧ Aside0 (kq ≤ k2) ∧ Aside0 (Kd.R (Kd.int .i64) 3 w' w.heap.size (fun _ => True) v127 x5_2) ∧ Aside0 (Below w.heap.size w w'))
                        case atStart => exact ⟨(0), (0), (by first | rfl | (simp; done) | (simp [*]; done)), (by first | rfl | (simp; done) | (simp [*]; done)), H', ⟨Nat.le_refl _⟩, ⟨by (with_reducible repeat (first | apply Kd.R_alloc | apply Kd.R_drewN | apply Kd.R_drew)); exact HO_5.out⟩, ⟨by repeat (first | (with_reducible first | exact HB.out | apply below_alloc | apply pw_below_drewN | apply below_drew1) | exact HB.out)⟩⟩
                        case round =>
                          clear H'
                          try clear c1
                          try clear p2
                          try clear c3
                          try clear c4
                          try clear c4b0
                          try clear c4b1
                          try clear c6
                          try clear p6
                          try clear c8
                          try clear c9
                          try clear c9b0
                          try clear c9b1
                          try clear c10
                          try clear c10b0
                          try clear c10b1
                          try clear c13
                          try clear c13b0
                          try clear c15
                          try clear c15b0
                          try clear c15b1
                          try clear c16
                          try clear c16b0
                          try clear c16b1
                          try clear c17
                          try clear c17b0
                          try clear c17b1
                          try clear p2
                          obtain ⟨x8_3, x43_3, rfl, rfl, HA, HK3, HO_5, HB⟩ := hrel
                          cases gk with
                          | zero => exact absurd HA.out (by simp [impl_MovingAverage.l1])
                          | succ k3 =>
                            have H := HA.out
                            clear HA
                            simp only [impl_MovingAverage.l1] at H
                            by_cases c19 : x43_3 < (pt_18.length : Int)
                            · rw [if_pos c19] at H
                              have c19b0 : decide (x43_3 < (pt_18.length : Int)) = true := decide_eq_true c19
                              clear c19
                              by_cases c20 : 0 ≤ x43_3
                              · rw [if_pos c20] at H
                                have c20b0 : decide (0 ≤ x43_3) = true := decide_eq_true c20
                                clear c20
                                by_cases c21 : x43_3 < (pt_18.length : Int)
                                · rw [if_pos c21] at H
                                  have c21b0 : decide (x43_3 < (pt_18.length : Int)) = true := decide_eq_true c21
                                  clear c21
                                  have H' := Aside0.mk H
                                  clear H
                                  have p130 : 0 ≤ (x43_3 : Int) := of_decide_eq_true (by first | (with_reducible assumption) | assumption)
                                  have q130 : x43_3 < (pt_18.length : Int) := of_decide_eq_true (by first | (with_reducible assumption) | assumption)
                                  obtain ⟨ad130, e130, hx130_0⟩ := Kd.at_int HR129.out x43_3 p130 q130
                                  cases e130
                                  replace hx130_0 := (HB.out.cell (World.block_lt_of_cell? w _ hx130_0)).trans hx130_0
                                  replace p130 := eq_true p130
                                  replace q130 := eq_true q130
                                  go_wp2
                                  go_roundg k3
                                  case measure => have := HJ2.out; have := HK2.out; have := HK3.out; omega
                                  case rel => exact ⟨(wrap64 (x8_3 + (rd pt_18 x43_3))), (wrap64 (x43_3 + 1)), (by first | rfl | (simp; done) | (simp only [← hji14] <;> (first | rfl | simp)) | (simp [*]; done)), (by first | rfl | (simp; done) | (simp [*]; done)), H', ⟨by have := HJ2.out; have := HK2.out; have := HK3.out; omega⟩, ⟨by (with_reducible repeat (first | apply Kd.R_alloc | apply Kd.R_drewN | apply Kd.R_drew)); exact HO_5.out⟩, ⟨by repeat (first | (with_reducible first | exact HB.out | apply below_alloc | apply pw_below_drewN | apply below_drew1) | exact HB.out)⟩⟩
                                · rw [if_neg c21] at H
                                  exact absurd H (by simp)
                              · rw [if_neg c20] at H
                                exact absurd H (by simp)
                            · rw [if_neg c19] at H
                              have c19b0 : decide (x43_3 < (pt_18.length : Int)) = false := decide_eq_false c19
                              clear c19
                              replace H := Option.bind_eq_some_iff.mp H
                              obtain ⟨t131, A220, H⟩ := H
                              replace H : (if 0 ≤ x29_2 then (if x29_2 < (x5_2.length : Int) then (impl_MovingAverage.l0 k3 l0 a1 (x5_2.set (x29_2 : Int).toNat t131) (l0.length : Int) (wrap64 (x29_2 + 1))) else (none)) else (none)) = some r := H
                              have A22 := Aside0.mk A220
                              clear A220
                              by_cases c23 : 0 ≤ x29_2
                              · rw [if_pos c23] at H
                                have c23b0 : decide (0 ≤ x29_2) = true := decide_eq_true c23
                                clear c23
                                by_cases c24 : x29_2 < (x5_2.length : Int)
                                · rw [if_pos c24] at H
                                  have c24b0 : decide (x29_2 < (x5_2.length : Int)) = true := decide_eq_true c24
                                  clear c24
                                  obtain ⟨y132, hy132⟩ : ∃ y_ : List Int, y_ = (x5_2.set (x29_2 : Int).toNat t131) := ⟨_, rfl⟩
                                  replace H : (impl_MovingAverage.l0 k3 l0 a1 y132 (l0.length : Int) (wrap64 (x29_2 + 1))) = some r := by first | (rw [hy132]; with_reducible exact H) | (have H2_ := (Option.bind_some _ _).symm.trans H; rw [hy132]; with_reducible exact H2_) | (have H2_ := (Option.bind_some _ _).symm.trans H; with_reducible exact H2_) | with_reducible exact H | (rw [hy132]; exact H) | exact H
                                  have Ny132 := Aside0.mk hy132
                                  clear hy132
                                  have H' := Aside0.mk H
                                  clear H
                                  go_wp2_with (first | ((with_reducible refine gate_callee (f := 62) rfl ?_); refine goesL_ (some 56) rfl rfl Try.func62 (by kernel_rfl) rfl #[.int .i64 x8_3, .int .i64 (pt_18.length : Int)] rfl (by (try simp only [List.map_toArray, List.map_cons, List.map_nil]); first | done | (simp only [hji14]; rfl) | rfl | (simp only [List.length_drop, List.length_take]; rfl)) ?_; (with_reducible refine (impl_floor.calls x8_3 (pt_18.length : Int) t131 _ A22.out).mono ?_); rintro e w' ⟨rfl, ⟨nd, rfl⟩⟩; refine ⟨_, rfl, ?_⟩; (try (rw [drewN_self wr]; generalize hq_ : World.drewN wr _ = wr; have n0_ : Aside0 (Kd.R (Kd.int .i64) 3 wr w.heap.size (fun _ => True) v127 x5_2) := ⟨by rw [← hq_]; exact (by (with_reducible repeat (first | apply Kd.R_alloc | apply Kd.R_drewN | apply Kd.R_drew)); exact HO_5.out)⟩; have n1_ : Aside0 (Below w.heap.size w wr) := ⟨by rw [← hq_]; exact (by repeat (first | (with_reducible first | exact HB.out | apply below_alloc | apply pw_below_drewN | apply below_drew1) | exact HB.out))⟩; clear HO_5 HB hq_; have HO_5 := n0_; have HB := n1_; clear n0_ n1_)); have p25 : 0 ≤ (x29_2 : Int) := of_decide_eq_true (by first | (with_reducible assumption) | assumption); have q25 : (x29_2 : Int) < ((x5_2.length : Int) : Int) := of_decide_eq_true (by first | (with_reducible assumption) | assumption); obtain ⟨go25, co25, eo25, gb25, gl25, cl25, HG25⟩ := Kd.R_form HO_5.out (by omega); (first | cases eo25 | (injection eo25 with ea_ en_ ec_; (first | subst ea_ | (injection ea_ with ea_; subst ea_)); subst ec_; clear en_)); have GB25 := Aside0.mk gb25; have GG25 := Aside0.mk HG25; clear gb25 gl25 HG25; obtain ⟨hx25_0, hf25_0⟩ := Kd.R_celln 0 HO_5.out (x29_2 : Int) p25 q25; replace p25 := eq_true p25; replace q25 := eq_true q25; obtain ⟨hy26_, hz26_⟩ := Kd.R_celln 0 HO_5.out (x29_2 : Int) (of_decide_eq_true (by first | (with_reducible assumption) | assumption)) (of_decide_eq_true (by first | (with_reducible assumption) | assumption)); have HP26 := Kd.R_putg HO_5.out (x29_2 : Int) t131) | ((with_reducible refine gate_store (t := 3) (p := 57) rfl ?_); refine store_event (t := 3) (p := 57) (v := ?vo_w27) (w1 := (wr.setCell ⟨go25, (x29_2 : Int).toNat, none⟩ (.int .i64 t131))) ?hg ?ho ?hn ?hr ?_; (case ho => rfl); (case hg => rfl); (case hn => rfl); (case hr => first | (go_simp; done) | (go_simp; rfl)); intro w27 hw; have hg : wr.grownBy w27 (some go25) := (by rw [hw]; exact HP26.2); have hp_ : Kd.R (Kd.int .i64) 3 w27 w.heap.size (fun _ => True) (.slice (some ⟨go25, 0, none⟩) x5_2.length co25) y132 := (by rw [hw, Ny132.out]; exact HP26.1); clear HP26; have n0_ := Aside0.mk (hp_); have n1_ := Aside0.mk ((by rw [hw]; exact below_set (HB.out) GB25.out : Below w.heap.size w w27)); clear HO_5; clear HB; have HO_5 := n0_; have HB := n1_; clear n0_ n1_; clear hg hw hp_))
                                  go_roundg k3
                                  case measure => have := HJ2.out; have := HK2.out; have := HK3.out; omega
                                  case rel => exact ⟨(y132), (wrap64 (x29_2 + 1)), (by first | rfl | (simp; done) | (simp [*]; done)), H', ⟨by have := HJ2.out; have := HK2.out; have := HK3.out; omega⟩, ⟨by (with_reducible repeat (first | apply Kd.R_alloc | apply Kd.R_drewN | apply Kd.R_drew)); exact HO_5.out⟩, ⟨by repeat (first | (with_reducible first | exact HB.out | apply below_alloc | apply pw_below_drewN | apply below_drew1) | exact HB.out)⟩⟩
                                · rw [if_neg c24] at H
                                  exact absurd H (by simp)
                              · rw [if_neg c23] at H
                                exact absurd H (by simp)
                      · rw [if_neg c17] at H
                        exact absurd H (by simp)
                    · rw [if_neg c16] at H
                      exact absurd H (by simp)
                  · rw [if_neg c15] at H
                    exact absurd H (by simp)
                · rw [if_neg c13] at H
                  have c13b0 : decide (x29_2 < (l0.length : Int)) = false := decide_eq_false c13
                  clear c13
                  obtain rfl := Option.some.inj H
                  go_wp2
                  go_ret
                  exact ⟨_, by first | rfl | (simp [errW_none, errW_some] <;> rfl) | (simp [*, errW_none, errW_some] <;> rfl), by (with_reducible repeat (first | apply Kd.R_alloc | apply Kd.R_drewN | apply Kd.R_drew)); exact HO_5.out, by repeat (first | (with_reducible first | exact HB.out | apply below_alloc | apply pw_below_drewN | apply below_drew1) | exact HB.out)⟩
          · rw [if_neg c10] at H
            exact absurd H (by simp)
        · rw [if_neg c9] at H
          exact absurd H (by simp)

/-! ### laws_markIntS: function 33 -/
def laws_markIntS.l0 : Nat → List Int → Int → Int → Option (Int × List Int)
  | 0, _, _, _ => none
  | k + 1, x0, x1, x5 => if x5 < (x0.length : Int) then (if 0 ≤ x5 then (laws_markIntS.l0 k (x0.set (x5 : Int).toNat x1) (wrap64 (x1 + 1)) (wrap64 (x5 + 1))) else (none)) else (some (x1, x0))
def laws_markIntS.f (k : Nat) (l0 : List Int) (a1 : Int) : Option (Int × List Int) := laws_markIntS.l0 k l0 a1 0
theorem laws_markIntS.mono_l : ∀ k, (∀ y0 y1 y2, LeO (laws_markIntS.l0 k y0 y1 y2) (laws_markIntS.l0 (k + 1) y0 y1 y2))
  | 0 => fun _ _ _ r h => by simp [laws_markIntS.l0] at h
  | k + 1 => by
    have ih0 := laws_markIntS.mono_l k
    · intro y0 y1 y2
      unfold laws_markIntS.l0
      repeat' first
      | (with_reducible exact ih0 _ _ _)
      | (with_reducible exact LeO.refl _)
      | (with_reducible exact LeO.none _)
      | (with_reducible refine LeO.ite ?_ ?_)
      | (with_reducible refine LeO.bind ?_ (fun _ => ?_))
      | exact ih0 _ _ _
      | exact LeO.none _
      | refine LeO.ite ?_ ?_
      | refine LeO.bind ?_ (fun _ => ?_)
theorem laws_markIntS.mono : ∀ a0 a1 k, LeO (laws_markIntS.f k a0 a1) (laws_markIntS.f (k + 1) a0 a1) := by
  intro a0 a1 k
  have ih0 := laws_markIntS.mono_l k
  unfold laws_markIntS.f
  repeat' first
      | (with_reducible exact ih0 _ _ _)
      | (with_reducible exact LeO.refl _)
      | (with_reducible exact LeO.none _)
      | (with_reducible refine LeO.ite ?_ ?_)
      | (with_reducible refine LeO.bind ?_ (fun _ => ?_))
      | exact ih0 _ _ _
      | exact LeO.none _
      | refine LeO.ite ?_ ?_
      | refine LeO.bind ?_ (fun _ => ?_)
set_option maxHeartbeats 8000000 in
set_option maxRecDepth 100000 in
theorem laws_markIntS.calls (k : Nat) (P0_ : Nat → Prop) (u9000_ : Value) (l0 : List Int) (a1 : Int) (r1 : Int) (r2 : List Int) (w0 w : World) (hB : Below w0.heap.size w0 w) (ho0 : Kd.Q (Kd.int .i64) 3 w w0.heap.size P0_ u9000_ l0) (h : laws_markIntS.f k l0 a1 = some (r1, r2)) :
    Calls Try.prog 33 #[u9000_, .int .i64 a1] w fun e w' => e = .returned (.int .i64 r1) ∧ Kd.Q (Kd.int .i64) 3 w' w0.heap.size (fun k_ => (P0_ k_ ∨ w.heap.size ≤ k_)) u9000_ r2 ∧ Below w0.heap.size w0 w' ∧ Kept w w' (fun k_ => P0_ k_) := by
  have HO0 := Aside0.mk (show Kd.Q (Kd.int .i64) 3 w w0.heap.size (fun k_ => (P0_ k_ ∨ w.heap.size ≤ k_)) u9000_ l0 from Kd.Q_mono ho0 (fun k_ hk => (.inl hk)))
  have HK := Aside0.mk (Kept.refl w (fun k_ => P0_ k_))
  have HW0 := Aside0.mk hB.size
  have HB := Aside0.mk hB
  clear hB
  have H : (laws_markIntS.l0 k l0 a1 0) = some (r1, r2) := h
  clear h
  have H' := Aside0.mk H
  clear H
  go_enter Try.func33, Try.ntmps33
  go_wp2
  go_loopg [1, 5] k (fun kq v1 v5 w' => ∃ (x0_1 : List Int) (x1_1 : Int) (x5_1 : Int), v1 = .int .i64 x1_1 ∧ v5 = .int .i64 x5_1 ∧ Aside0 (laws_markIntS.l0 kq x0_1 x1_1 x5_1 = some (r1, r2)) ∧ Aside0 (kq ≤ k) ∧ Aside0 (Kd.Q (Kd.int .i64) 3 w' w0.heap.size (fun k_ => (P0_ k_ ∨ w.heap.size ≤ k_)) u9000_ x0_1) ∧ Aside0 (Kept w w' (fun k_ => P0_ k_)) ∧ Aside0 (Below w0.heap.size w0 w'))
  case atStart => exact ⟨(l0), (a1), (0), (by first | rfl | (simp; done) | (simp [*]; done)), (by first | rfl | (simp; done) | (simp [*]; done)), H', ⟨Nat.le_refl _⟩, ⟨by (with_reducible repeat (first | apply Kd.Q_alloc | apply Kd.Q_drewN | apply Kd.Q_drew)); exact HO0.out⟩, ⟨by repeat (first | (with_reducible first | exact HK.out | apply Kept.alloc | apply Kept.drewN | apply Kept.drew) | exact HK.out)⟩, ⟨by repeat (first | (with_reducible first | exact HB.out | apply below_alloc | apply pw_below_drewN | apply below_drew1) | exact HB.out)⟩⟩
  case round =>
    clear H'
    try clear p2
    obtain ⟨x0_1, x1_1, x5_1, rfl, rfl, HA, HK1, HO_0, HK, HB⟩ := hrel
    cases gk with
    | zero => exact absurd HA.out (by simp [laws_markIntS.l0])
    | succ k1 =>
      have H := HA.out
      clear HA
      simp only [laws_markIntS.l0] at H
      by_cases c3 : x5_1 < (x0_1.length : Int)
      · rw [if_pos c3] at H
        have c3b0 : decide (x5_1 < (x0_1.length : Int)) = true := decide_eq_true c3
        clear c3
        by_cases c4 : 0 ≤ x5_1
        · rw [if_pos c4] at H
          have c4b0 : decide (0 ≤ x5_1) = true := decide_eq_true c4
          clear c4
          obtain ⟨y133, hy133⟩ : ∃ y_ : List Int, y_ = (x0_1.set (x5_1 : Int).toNat x1_1) := ⟨_, rfl⟩
          replace H : (laws_markIntS.l0 k1 y133 (wrap64 (x1_1 + 1)) (wrap64 (x5_1 + 1))) = some (r1, r2) := by first | (rw [hy133]; with_reducible exact H) | (have H2_ := (Option.bind_some _ _).symm.trans H; rw [hy133]; with_reducible exact H2_) | (have H2_ := (Option.bind_some _ _).symm.trans H; with_reducible exact H2_) | with_reducible exact H | (rw [hy133]; exact H) | exact H
          have Ny133 := Aside0.mk hy133
          clear hy133
          have H' := Aside0.mk H
          clear H
          obtain ⟨Ao6, co6, eo6, _⟩ := Kd.Q_slice HO_0.out
          subst eo6
          have p5 : 0 ≤ (x5_1 : Int) := of_decide_eq_true (by first | (with_reducible assumption) | assumption)
          have q5 : (x5_1 : Int) < ((x0_1.length : Int) : Int) := of_decide_eq_true (by first | (with_reducible assumption) | assumption)
          obtain ⟨go5, oo5, co5, eo5, gb5, gl5, cl5, HG5⟩ := Kd.Q_form HO_0.out (by omega)
          (first | cases eo5 | (injection eo5 with ea_ en_ ec_; (first | subst ea_ | (injection ea_ with ea_; subst ea_)); subst ec_; clear en_))
          have GB5 := Aside0.mk gb5
          have GG5 := Aside0.mk HG5
          clear gb5 gl5 HG5
          have HMgo5 := Aside0.mk (show (P0_ go5 ∨ w.heap.size ≤ go5) from (HO_0.out.1 _ rfl))
          obtain ⟨hx5_0, hf5_0⟩ := Kd.Q_cell 0 HO_0.out (x5_1 : Int) p5 q5
          replace p5 := eq_true p5
          replace q5 := eq_true q5
          have HP7 := Kd.Q_putg HO_0.out (x5_1 : Int) (of_decide_eq_true (by first | (with_reducible assumption) | assumption)) (by have h_ : (x5_1 : Int) < ((x0_1.length : Int) : Int) := of_decide_eq_true (by first | (with_reducible assumption) | assumption); first | exact h_ | (have e_ := (Kd.Q_reads' HO_0.out).1; omega) | simpa using h_) x1_1
          go_wp2_with (first | ((with_reducible refine gate_store (t := 3) (p := 15) rfl ?_); refine store_event (t := 3) (p := 15) (v := ?vo_w8) (w1 := (wr.setCell ⟨go5, oo5 + (x5_1 : Int).toNat, none⟩ (.int .i64 x1_1))) ?hg ?ho ?hn ?hr ?_; (case ho => rfl); (case hg => rfl); (case hn => rfl); (case hr => first | (go_simp; done) | (go_simp; rfl)); intro w8 hw; have hg : wr.grownBy w8 (some go5) := (by rw [hw]; exact HP7.2); have hp_ : Kd.Q (Kd.int .i64) 3 w8 w0.heap.size (fun k_ => (P0_ k_ ∨ w.heap.size ≤ k_)) (.slice (some ⟨go5, oo5, none⟩) x0_1.length co6) y133 := (by rw [hw, Ny133.out]; exact HP7.1); clear HP7; have n0_ := Aside0.mk (hp_); have n1_ := Aside0.mk ((by rw [hw]; exact below_set (HB.out) GB5.out : Below w0.heap.size w0 w8)); have n2_ := Aside0.mk (Kept.of_grown (S := (fun k_ => P0_ k_)) hg (by repeat (first | (with_reducible first | exact HK.out | apply Kept.alloc | apply Kept.drewN | apply Kept.drew) | exact HK.out)) (fun k_ e_ => (HO_0.out.1 k_ e_))); clear HO_0; clear HB; clear HK; have HO_0 := n0_; have HB := n1_; have HK := n2_; clear n0_ n1_ n2_; clear hg hw hp_))
          go_roundg k1
          case measure => have := HK1.out; omega
          case rel => exact ⟨(y133), (wrap64 (x1_1 + 1)), (wrap64 (x5_1 + 1)), (by first | rfl | (simp; done) | (simp [*]; done)), (by first | rfl | (simp; done) | (simp [*]; done)), H', ⟨by have := HK1.out; omega⟩, ⟨by (with_reducible repeat (first | apply Kd.Q_alloc | apply Kd.Q_drewN | apply Kd.Q_drew)); exact HO_0.out⟩, ⟨by repeat (first | (with_reducible first | exact HK.out | apply Kept.alloc | apply Kept.drewN | apply Kept.drew) | exact HK.out)⟩, ⟨by repeat (first | (with_reducible first | exact HB.out | apply below_alloc | apply pw_below_drewN | apply below_drew1) | exact HB.out)⟩⟩
        · rw [if_neg c4] at H
          exact absurd H (by simp)
      · rw [if_neg c3] at H
        have c3b0 : decide (x5_1 < (x0_1.length : Int)) = false := decide_eq_false c3
        clear c3
        simp only [Option.some.injEq, Prod.mk.injEq] at H
        obtain ⟨rfl, rfl⟩ := H
        obtain ⟨Ao9, co9, eo9, _⟩ := Kd.Q_slice HO_0.out
        subst eo9
        go_wp2
        go_ret
        exact ⟨by first | rfl | (simp [errW_none, errW_some] <;> rfl) | (simp [*, errW_none, errW_some] <;> rfl), by (with_reducible repeat (first | apply Kd.Q_alloc | apply Kd.Q_drewN | apply Kd.Q_drew)); exact HO_0.out, by repeat (first | (with_reducible first | exact HB.out | apply below_alloc | apply pw_below_drewN | apply below_drew1) | exact HB.out), by repeat (first | (with_reducible first | exact HK.out | apply Kept.alloc | apply Kept.drewN | apply Kept.drew) | exact HK.out)⟩

/-! ### laws_heldIntS: function 34 -/
def laws_heldIntS.l0 : Nat → List Int → Int → Int → Option (Int)
  | 0, _, _, _ => none
  | k + 1, x0, x1, x5 => if x5 < (x0.length : Int) then (if 0 ≤ x5 then (if (rd x0 x5) = x1 then (laws_heldIntS.l0 k x0 (wrap64 (x1 + 1)) (wrap64 (x5 + 1))) else (some (-1))) else (none)) else (some x1)
def laws_heldIntS.f (k : Nat) (l0 : List Int) (a1 : Int) : Option (Int) := laws_heldIntS.l0 k l0 a1 0
theorem laws_heldIntS.mono_l : ∀ k, (∀ y0 y1 y2, LeO (laws_heldIntS.l0 k y0 y1 y2) (laws_heldIntS.l0 (k + 1) y0 y1 y2))
  | 0 => fun _ _ _ r h => by simp [laws_heldIntS.l0] at h
  | k + 1 => by
    have ih0 := laws_heldIntS.mono_l k
    · intro y0 y1 y2
      unfold laws_heldIntS.l0
      repeat' first
      | (with_reducible exact ih0 _ _ _)
      | (with_reducible exact LeO.refl _)
      | (with_reducible exact LeO.none _)
      | (with_reducible refine LeO.ite ?_ ?_)
      | (with_reducible refine LeO.bind ?_ (fun _ => ?_))
      | exact ih0 _ _ _
      | exact LeO.none _
      | refine LeO.ite ?_ ?_
      | refine LeO.bind ?_ (fun _ => ?_)
theorem laws_heldIntS.mono : ∀ a0 a1 k, LeO (laws_heldIntS.f k a0 a1) (laws_heldIntS.f (k + 1) a0 a1) := by
  intro a0 a1 k
  have ih0 := laws_heldIntS.mono_l k
  unfold laws_heldIntS.f
  repeat' first
      | (with_reducible exact ih0 _ _ _)
      | (with_reducible exact LeO.refl _)
      | (with_reducible exact LeO.none _)
      | (with_reducible refine LeO.ite ?_ ?_)
      | (with_reducible refine LeO.bind ?_ (fun _ => ?_))
      | exact ih0 _ _ _
      | exact LeO.none _
      | refine LeO.ite ?_ ?_
      | refine LeO.bind ?_ (fun _ => ?_)
set_option maxHeartbeats 8000000 in
set_option maxRecDepth 100000 in
theorem laws_heldIntS.calls (k : Nat) (A0 : Option Addr) (c0 : Nat) (l0 : List Int) (a1 : Int) (r : Int) (w : World) (hr0 : Kd.C (Kd.int .i64) w A0 l0.length l0) (hc0 : l0.length ≤ c0) (h : laws_heldIntS.f k l0 a1 = some r) :
    Calls Try.prog 34 #[.slice A0 l0.length c0, .int .i64 a1] w fun e w' => e = .returned (.int .i64 r) ∧ Drawn0 w w' := by
  have HR0 := Aside0.mk hr0
  have HC0 := Aside0.mk hc0
  clear hr0 hc0
  have H : (laws_heldIntS.l0 k l0 a1 0) = some r := h
  clear h
  have H' := Aside0.mk H
  clear H
  go_enter Try.func34, Try.ntmps34
  go_wp2
  go_loopg [1, 5] k (fun kq v1 v5 w' => ∃ (x1_1 : Int) (x5_1 : Int), v1 = .int .i64 x1_1 ∧ v5 = .int .i64 x5_1 ∧ Aside0 (laws_heldIntS.l0 kq l0 x1_1 x5_1 = some r) ∧ Aside0 (kq ≤ k) ∧ Drawn0 w w')
  case atStart => exact ⟨(a1), (0), (by first | rfl | (simp; done) | (simp [*]; done)), (by first | rfl | (simp; done) | (simp [*]; done)), H', ⟨Nat.le_refl _⟩, by repeat (first | exact Drawn0.refl _ | apply Drawn0.step)⟩
  case round =>
    clear H'
    try clear p2
    obtain ⟨x1_1, x5_1, rfl, rfl, HA, HK1, ⟨m1, rfl⟩⟩ := hrel
    cases gk with
    | zero => exact absurd HA.out (by simp [laws_heldIntS.l0])
    | succ k1 =>
      have H := HA.out
      clear HA
      simp only [laws_heldIntS.l0] at H
      by_cases c3 : x5_1 < (l0.length : Int)
      · rw [if_pos c3] at H
        have c3b0 : decide (x5_1 < (l0.length : Int)) = true := decide_eq_true c3
        clear c3
        by_cases c4 : 0 ≤ x5_1
        · rw [if_pos c4] at H
          have c4b0 : decide (0 ≤ x5_1) = true := decide_eq_true c4
          clear c4
          by_cases c5 : (rd l0 x5_1) = x1_1
          · rw [if_pos c5] at H
            have c5b0 : ((rd l0 x5_1) == x1_1) = true := beq_iff_eq.mpr c5
            have c5b1 : ((rd l0 x5_1) != x1_1) = false := bne_eq_false_iff_eq.mpr c5
            clear c5
            have H' := Aside0.mk H
            clear H
            have p134 : 0 ≤ (x5_1 : Int) := of_decide_eq_true (by first | (with_reducible assumption) | assumption)
            have q134 : x5_1 < (l0.length : Int) := of_decide_eq_true (by first | (with_reducible assumption) | assumption)
            obtain ⟨ad134, e134, hx134_0⟩ := Kd.at_int HR0.out x5_1 p134 q134
            cases e134
            replace p134 := eq_true p134
            replace q134 := eq_true q134
            go_wp2
            go_roundg k1
            case measure => have := HK1.out; omega
            case rel => exact ⟨(wrap64 (x1_1 + 1)), (wrap64 (x5_1 + 1)), (by first | rfl | (simp; done) | (simp [*]; done)), (by first | rfl | (simp; done) | (simp [*]; done)), H', ⟨by have := HK1.out; omega⟩, by repeat (first | exact Drawn0.refl _ | apply Drawn0.step)⟩
          · rw [if_neg c5] at H
            have c5b0 : ((rd l0 x5_1) == x1_1) = false := beq_eq_false_iff_ne.mpr c5
            have c5b1 : ((rd l0 x5_1) != x1_1) = true := bne_iff_ne.mpr c5
            obtain rfl := Option.some.inj H
            have p134 : 0 ≤ (x5_1 : Int) := of_decide_eq_true (by first | (with_reducible assumption) | assumption)
            have q134 : x5_1 < (l0.length : Int) := of_decide_eq_true (by first | (with_reducible assumption) | assumption)
            obtain ⟨ad134, e134, hx134_0⟩ := Kd.at_int HR0.out x5_1 p134 q134
            cases e134
            replace p134 := eq_true p134
            replace q134 := eq_true q134
            go_wp2
            go_ret
            exact ⟨by first | rfl | (simp; done) | (simp [*]; done), by repeat (first | exact Drawn0.refl _ | apply Drawn0.step)⟩
        · rw [if_neg c4] at H
          exact absurd H (by simp)
      · rw [if_neg c3] at H
        have c3b0 : decide (x5_1 < (l0.length : Int)) = false := decide_eq_false c3
        clear c3
        obtain rfl := Option.some.inj H
        go_wp2
        go_ret
        exact ⟨by first | rfl | (simp; done) | (simp [*]; done), by repeat (first | exact Drawn0.refl _ | apply Drawn0.step)⟩

end Go.Proofs.Ytimmlippglpmnaa.GFnExactMovingAverage

/- Functions of the program as Lean functions, with proofs that the machine comes to their answers; written by this session's program mkprint.py; no condition beyond each theorem's own. -/
import Derived.Test.YtpefkclpnkefnaaGFnExactRunDiagramx0
import Derived.Test.YtpefkclpnkefnaaGFnExactRunDiagramx2
namespace Go.Proofs.Ytpefkclpnkefnaa.GFnExactRunDiagram
open Go.RowKit Go.Proofs.YtpefkclpnkefnaaV.PrintWords Go.Proofs.YtpefkclpnkefnaaV.PrintLast Go.Proofs.YtpefkclpnkefnaaV.PrintMore
attribute [local go_sem] max2_int min2_int max_two min_two max_three min_three max_four min_four   -- for this text's walks alone
set_option linter.unusedVariables false
set_option linter.unusedSimpArgs false

/-! ### spec_EvaluationOrder: function 25 -/
mutual
def spec_EvaluationOrder.j0 : Nat → List (S52) → Int → Bool → Option (List Int × Bool)
  | 0, _, _, _ => none
  | k + 1, x0, x1, x19 => if x19 = true then (some ((([] : List Int)), false)) else (spec_EvaluationOrder.l0 k x0 x1 0)
def spec_EvaluationOrder.l0 : Nat → List (S52) → Int → Int → Option (List Int × Bool)
  | 0, _, _, _ => none
  | k + 1, x0, x1, x6 => if x6 < (x0.length : Int) then (if 0 ≤ x6 then ((spec_l1In.f ((rd_T52 x0 x6).f0) 1 5).bind fun t135 => (if t135 = true then ((spec_l9Source.f ((rd_T52 x0 x6).f1) (x0.length : Int) x1).bind fun t136 => (if t136 = true then (if ((rd_T52 x0 x6).f0) = 5 then (if ((rd_T52 x0 x6).f2) = (-1) then (spec_EvaluationOrder.l0 k x0 x1 (wrap64 (x6 + 1))) else (some ((([] : List Int)), false))) else ((spec_l9Source.f ((rd_T52 x0 x6).f2) (x0.length : Int) x1).bind fun t140 => (if t140 = true then (spec_EvaluationOrder.l0 k x0 x1 (wrap64 (x6 + 1))) else (some ((([] : List Int)), false))))) else (some ((([] : List Int)), false)))) else (some ((([] : List Int)), false)))) else (none)) else (if 0 ≤ (x0.length : Int) then (if ((x0.length : Int) : Int).toNat ≤ 281474976710656 then (spec_EvaluationOrder.l1 k x0 (([] : List Int)) (List.replicate ((x0.length : Int) : Int).toNat false)) else (none)) else (none))
def spec_EvaluationOrder.l1 : Nat → List (S52) → List Int → List Bool → Option (List Int × Bool)
  | 0, _, _, _ => none
  | k + 1, x0, x8, x9 => if (x8.length : Int) < (x0.length : Int) then (spec_EvaluationOrder.l2 k x0 x8 x9 (-1) (wrap64 ((x0.length : Int) - 1))) else (some (x8, true))
def spec_EvaluationOrder.l2 : Nat → List (S52) → List Int → List Bool → Int → Int → Option (List Int × Bool)
  | 0, _, _, _, _, _ => none
  | k + 1, x0, x8, x9, x10, x11 => if x11 ≥ 0 then (if 0 ≤ x11 then (if x11 < (x9.length : Int) then (if rdOf false x9 x11 = true then (spec_EvaluationOrder.l2 k x0 x8 x9 x10 (wrap64 (x11 - 1))) else (if x11 < (x0.length : Int) then (if ((rd_T52 x0 x11).f0) = 5 then (spec_EvaluationOrder.l2 k x0 x8 x9 x11 (wrap64 (x11 - 1))) else ((spec_l9Ready.f x0 x9 ((rd_T52 x0 x11).f1)).bind fun t166 => (if t166 = true then ((spec_l9Ready.f x0 x9 ((rd_T52 x0 x11).f2)).bind fun t168 => (if t168 = true then (spec_EvaluationOrder.l2 k x0 x8 x9 x11 (wrap64 (x11 - 1))) else (spec_EvaluationOrder.l2 k x0 x8 x9 x10 (wrap64 (x11 - 1))))) else (spec_EvaluationOrder.l2 k x0 x8 x9 x10 (wrap64 (x11 - 1)))))) else (none))) else (none)) else (none)) else (if x10 < 0 then (some ((([] : List Int)), false)) else (if 0 ≤ x10 then (if x10 < (x9.length : Int) then (if x8.length < 17592186044416 then (spec_EvaluationOrder.l1 k x0 (x8 ++ [x10]) (x9.set (x10 : Int).toNat true)) else (none)) else (none)) else (none)))
end
def spec_EvaluationOrder.f (k : Nat) (l0 : List (S52)) (a1 : Int) : Option (List Int × Bool) := if (l0.length : Int) > 12 then (spec_EvaluationOrder.j0 k l0 a1 true) else ((spec_l1In.f a1 0 6).bind fun t129 => (spec_EvaluationOrder.j0 k l0 a1 (!t129)))
theorem spec_EvaluationOrder.mono_l : ∀ k, (∀ y0 y1 y2, LeO (spec_EvaluationOrder.j0 k y0 y1 y2) (spec_EvaluationOrder.j0 (k + 1) y0 y1 y2)) ∧ (∀ y0 y1 y2, LeO (spec_EvaluationOrder.l0 k y0 y1 y2) (spec_EvaluationOrder.l0 (k + 1) y0 y1 y2)) ∧ (∀ y0 y1 y2, LeO (spec_EvaluationOrder.l1 k y0 y1 y2) (spec_EvaluationOrder.l1 (k + 1) y0 y1 y2)) ∧ (∀ y0 y1 y2 y3 y4, LeO (spec_EvaluationOrder.l2 k y0 y1 y2 y3 y4) (spec_EvaluationOrder.l2 (k + 1) y0 y1 y2 y3 y4))
  | 0 => ⟨fun _ _ _ r h => by simp [spec_EvaluationOrder.j0] at h, fun _ _ _ r h => by simp [spec_EvaluationOrder.l0] at h, fun _ _ _ r h => by simp [spec_EvaluationOrder.l1] at h, fun _ _ _ _ _ r h => by simp [spec_EvaluationOrder.l2] at h⟩
  | k + 1 => by
    obtain ⟨ih0, ih1, ih2, ih3⟩ := spec_EvaluationOrder.mono_l k
    refine ⟨?_, ?_, ?_, ?_⟩
    · intro y0 y1 y2
      unfold spec_EvaluationOrder.j0
      repeat' first
      | (with_reducible exact ih0 _ _ _)
      | (with_reducible exact ih1 _ _ _)
      | (with_reducible exact ih2 _ _ _)
      | (with_reducible exact ih3 _ _ _ _ _)
      | (with_reducible exact LeO.refl _)
      | (with_reducible exact LeO.none _)
      | (with_reducible refine LeO.ite ?_ ?_)
      | (with_reducible refine LeO.bind ?_ (fun _ => ?_))
      | exact ih0 _ _ _
      | exact ih1 _ _ _
      | exact ih2 _ _ _
      | exact ih3 _ _ _ _ _
      | exact LeO.none _
      | refine LeO.ite ?_ ?_
      | refine LeO.bind ?_ (fun _ => ?_)
    · intro y0 y1 y2
      unfold spec_EvaluationOrder.l0
      repeat' first
      | (with_reducible exact ih0 _ _ _)
      | (with_reducible exact ih1 _ _ _)
      | (with_reducible exact ih2 _ _ _)
      | (with_reducible exact ih3 _ _ _ _ _)
      | (with_reducible exact LeO.refl _)
      | (with_reducible exact LeO.none _)
      | (with_reducible refine LeO.ite ?_ ?_)
      | (with_reducible refine LeO.bind ?_ (fun _ => ?_))
      | exact ih0 _ _ _
      | exact ih1 _ _ _
      | exact ih2 _ _ _
      | exact ih3 _ _ _ _ _
      | exact LeO.none _
      | refine LeO.ite ?_ ?_
      | refine LeO.bind ?_ (fun _ => ?_)
    · intro y0 y1 y2
      unfold spec_EvaluationOrder.l1
      repeat' first
      | (with_reducible exact ih0 _ _ _)
      | (with_reducible exact ih1 _ _ _)
      | (with_reducible exact ih2 _ _ _)
      | (with_reducible exact ih3 _ _ _ _ _)
      | (with_reducible exact LeO.refl _)
      | (with_reducible exact LeO.none _)
      | (with_reducible refine LeO.ite ?_ ?_)
      | (with_reducible refine LeO.bind ?_ (fun _ => ?_))
      | exact ih0 _ _ _
      | exact ih1 _ _ _
      | exact ih2 _ _ _
      | exact ih3 _ _ _ _ _
      | exact LeO.none _
      | refine LeO.ite ?_ ?_
      | refine LeO.bind ?_ (fun _ => ?_)
    · intro y0 y1 y2 y3 y4
      unfold spec_EvaluationOrder.l2
      repeat' first
      | (with_reducible exact ih0 _ _ _)
      | (with_reducible exact ih1 _ _ _)
      | (with_reducible exact ih2 _ _ _)
      | (with_reducible exact ih3 _ _ _ _ _)
      | (with_reducible exact LeO.refl _)
      | (with_reducible exact LeO.none _)
      | (with_reducible refine LeO.ite ?_ ?_)
      | (with_reducible refine LeO.bind ?_ (fun _ => ?_))
      | exact ih0 _ _ _
      | exact ih1 _ _ _
      | exact ih2 _ _ _
      | exact ih3 _ _ _ _ _
      | exact LeO.none _
      | refine LeO.ite ?_ ?_
      | refine LeO.bind ?_ (fun _ => ?_)
theorem spec_EvaluationOrder.mono : ∀ a0 a1 k, LeO (spec_EvaluationOrder.f k a0 a1) (spec_EvaluationOrder.f (k + 1) a0 a1) := by
  intro a0 a1 k
  obtain ⟨ih0, ih1, ih2, ih3⟩ := spec_EvaluationOrder.mono_l k
  unfold spec_EvaluationOrder.f
  repeat' first
      | (with_reducible exact ih0 _ _ _)
      | (with_reducible exact ih1 _ _ _)
      | (with_reducible exact ih2 _ _ _)
      | (with_reducible exact ih3 _ _ _ _ _)
      | (with_reducible exact LeO.refl _)
      | (with_reducible exact LeO.none _)
      | (with_reducible refine LeO.ite ?_ ?_)
      | (with_reducible refine LeO.bind ?_ (fun _ => ?_))
      | exact ih0 _ _ _
      | exact ih1 _ _ _
      | exact ih2 _ _ _
      | exact ih3 _ _ _ _ _
      | exact LeO.none _
      | refine LeO.ite ?_ ?_
      | refine LeO.bind ?_ (fun _ => ?_)
set_option maxHeartbeats 8000000 in
set_option maxRecDepth 100000 in
theorem spec_EvaluationOrder.calls (k : Nat) (A0 : Option Addr) (c0 : Nat) (l0 : List (S52)) (a1 : Int) (r1 : List Int) (r2 : Bool) (w : World) (hr0 : Kd.C k52 w A0 l0.length l0) (hc0 : l0.length ≤ c0) (h : spec_EvaluationOrder.f k l0 a1 = some (r1, r2)) :
    Calls Try.prog 25 #[.slice A0 l0.length c0, .int .i64 a1] w fun e w' => ∃ v0_ : Value, e = .returned (.tuple #[v0_, .bool r2]) ∧ Kd.R (Kd.int .i64) 3 w' w.heap.size (fun _ => True) v0_ r1 ∧ Below w.heap.size w w' := by
  have hu52 := Try.underlying52
  have HR0 := Aside0.mk hr0
  have HC0 := Aside0.mk hc0
  clear hr0 hc0
  have HB := Aside0.mk (Below.refl w.heap.size w)
  have H : (if (l0.length : Int) > 12 then (spec_EvaluationOrder.j0 k l0 a1 true) else ((spec_l1In.f a1 0 6).bind fun t129 => (spec_EvaluationOrder.j0 k l0 a1 (!t129)))) = some (r1, r2) := h
  clear h
  have HC3 := Aside0.mk H
  clear H
  go_enter Try.func25, Try.ntmps25
  go_upto_region 1 with (fail)
  go_cut [19] (fun v19 wc => ∃ (kq : Nat) (x19_2 : Bool), v19 = .bool x19_2 ∧ Aside0 (spec_EvaluationOrder.j0 kq l0 a1 x19_2 = some (r1, r2)) ∧ Aside0 (kq ≤ k) ∧ Aside0 (Below w.heap.size w wc))
  case first =>
    have H := HC3.out
    clear HC3
    by_cases c4 : (l0.length : Int) > 12
    · rw [if_pos c4] at H
      have c4b0 : decide (12 < (l0.length : Int)) = true := decide_eq_true c4
      have c4b1 : decide (12 < l0.length) = true := decide_eq_true (by omega)
      clear c4
      (first | rw [c4b0] | (simp only [i64_w, i32_w]; rw [c4b0]) | skip)
      have H' := Aside0.mk H
      clear H
      go_wp2
      go_meet
      case rel => exact ⟨_, (true), (by first | rfl | (simp; done) | (simp [*]; done)), H', ⟨by first | omega | exact Nat.le_refl _⟩, ⟨by repeat (first | (with_reducible first | exact HB.out | apply below_alloc | apply pw_below_drewN | apply below_drew1) | exact HB.out)⟩⟩
    · rw [if_neg c4] at H
      have c4b0 : decide (12 < (l0.length : Int)) = false := decide_eq_false c4
      have c4b1 : decide (12 < l0.length) = false := decide_eq_false (by omega)
      clear c4
      (first | rw [c4b0] | (simp only [i64_w, i32_w]; rw [c4b0]) | skip)
      replace H := Option.bind_eq_some_iff.mp H
      obtain ⟨t129, A50, H⟩ := H
      replace H : (spec_EvaluationOrder.j0 k l0 a1 (!t129)) = some (r1, r2) := H
      have A5 := Aside0.mk A50
      clear A50
      have H' := Aside0.mk H
      clear H
      go_wp2_with (first | (go_at_call 42; (with_reducible refine (spec_l1In.calls a1 0 6 t129 _ A5.out).mono ?_); rintro e w' ⟨rfl, ⟨nd, rfl⟩⟩))
      go_meet
      case rel => exact ⟨_, (!t129), (by first | rfl | (simp; done) | (simp [*]; done)), H', ⟨by first | omega | exact Nat.le_refl _⟩, ⟨by repeat (first | (with_reducible first | exact HB.out | apply below_alloc | apply pw_below_drewN | apply below_drew1) | exact HB.out)⟩⟩
  case rest =>
    clear HC3
    try clear c2
    try clear p2
    try clear c4
    try clear c4b0
    try clear c4b1
    obtain ⟨kq, x19_2, rfl, HA, HJ2, HB⟩ := hcut
    cases kq with
    | zero => exact absurd HA.out (by simp [spec_EvaluationOrder.j0])
    | succ kj2 =>
      have H := HA.out
      clear HA
      simp only [spec_EvaluationOrder.j0] at H
      by_cases c6 : x19_2 = true
      · subst c6
        have H1 : (some ((([] : List Int)), false)) = some (r1, r2) := by rw [if_pos rfl] at H; exact H
        clear H
        have H := H1
        clear H1
        obtain ⟨y130, hy130⟩ : ∃ y_ : List Int, y_ = (([] : List Int)) := ⟨_, rfl⟩
        replace H : (some (y130, false)) = some (r1, r2) := by first | (rw [hy130]; with_reducible exact H) | (have H2_ := (Option.bind_some _ _).symm.trans H; rw [hy130]; with_reducible exact H2_) | (have H2_ := (Option.bind_some _ _).symm.trans H; with_reducible exact H2_) | with_reducible exact H | (rw [hy130]; exact H) | exact H
        have Ny130 := Aside0.mk hy130
        clear hy130
        simp only [Option.some.injEq, Prod.mk.injEq] at H
        obtain ⟨rfl, rfl⟩ := H
        go_wp2_with (first | ((with_reducible refine gate_dst (N := 20) rfl ?_); (try (refine gate_guard (by rfl) ?_; dsimp only)); refine Kd.R_lit (Kd.int .i64) _ 3 ?hg (N := 20) ?hd (xs := ([] : List Int)) (inner := []) (ok := fun _ => True) (okp := fun _ => True) ?hr ?hp (fun _ hk => hk) trivial (Below.refl _ _) (Nat.le_refl _) (by simp) ?_; (case hd => rfl); (case hg => rfl); (case hr => first | (go_simp; done) | (go_simp; rfl)); (case hp => exact (Reps.none _ _)); intro v131 w7 ho8 hb hg_ hnew_; clear hg_ hnew_; (first | rw [← Ny130.out] at ho8 | (simp only [Int.reduceToNat] at ho8; rw [← Ny130.out] at ho8)); have n0_ := Aside0.mk (Kd.R_lower ho8 (below_size (by repeat (first | (with_reducible first | exact HB.out | apply below_alloc | apply pw_below_drewN | apply below_drew1) | exact HB.out)))); have n1_ := Aside0.mk (below_step (by repeat (first | (with_reducible first | exact HB.out | apply below_alloc | apply pw_below_drewN | apply below_drew1) | exact HB.out)) hb); clear HB; have HO132 := n0_; have HB := n1_; clear n0_ n1_; clear hb ho8))
        go_ret2
        exact ⟨_, by first | rfl | (simp [errW_none, errW_some] <;> rfl) | (simp [*, errW_none, errW_some] <;> rfl), by (with_reducible repeat (first | apply Kd.R_alloc | apply Kd.R_drewN | apply Kd.R_drew)); exact HO132.out, by repeat (first | (with_reducible first | exact HB.out | apply below_alloc | apply pw_below_drewN | apply below_drew1) | exact HB.out)⟩
      · replace c6 := Bool.eq_false_iff.mpr c6
        subst c6
        have H1 : (spec_EvaluationOrder.l0 kj2 l0 a1 0) = some (r1, r2) := by rw [if_neg (show ¬ (false = true) by decide)] at H; exact H
        clear H
        have H := H1
        clear H1
        have H' := Aside0.mk H
        clear H
        go_wp2
        go_loopg [6] kj2 (fun kq v6 w' => ∃ (x6_2 : Int), v6 = .int .i64 x6_2 ∧ Aside0 (spec_EvaluationOrder.l0 kq l0 a1 x6_2 = some (r1, r2)) ∧ Aside0 (kq ≤ kj2) ∧ Aside0 (Below w.heap.size w w'))
        case atStart => exact ⟨(0), (by first | rfl | (simp; done) | (simp [*]; done)), H', ⟨Nat.le_refl _⟩, ⟨by repeat (first | (with_reducible first | exact HB.out | apply below_alloc | apply pw_below_drewN | apply below_drew1) | exact HB.out)⟩⟩
        case round =>
          clear H'
          try clear c2
          try clear p2
          try clear c4
          try clear c4b0
          try clear c4b1
          try clear c6
          try clear p2
          obtain ⟨x6_2, rfl, HA, HK2, HB⟩ := hrel
          cases gk with
          | zero => exact absurd HA.out (by simp [spec_EvaluationOrder.l0])
          | succ k2 =>
            have H := HA.out
            clear HA
            simp only [spec_EvaluationOrder.l0] at H
            by_cases c9 : x6_2 < (l0.length : Int)
            · rw [if_pos c9] at H
              have c9b0 : decide (x6_2 < (l0.length : Int)) = true := decide_eq_true c9
              clear c9
              by_cases c10 : 0 ≤ x6_2
              · rw [if_pos c10] at H
                have c10b0 : decide (0 ≤ x6_2) = true := decide_eq_true c10
                clear c10
                replace H := Option.bind_eq_some_iff.mp H
                obtain ⟨t135, A110, H⟩ := H
                replace H : (if t135 = true then ((spec_l9Source.f ((rd_T52 l0 x6_2).f1) (l0.length : Int) a1).bind fun t136 => (if t136 = true then (if ((rd_T52 l0 x6_2).f0) = 5 then (if ((rd_T52 l0 x6_2).f2) = (-1) then (spec_EvaluationOrder.l0 k2 l0 a1 (wrap64 (x6_2 + 1))) else (some ((([] : List Int)), false))) else ((spec_l9Source.f ((rd_T52 l0 x6_2).f2) (l0.length : Int) a1).bind fun t140 => (if t140 = true then (spec_EvaluationOrder.l0 k2 l0 a1 (wrap64 (x6_2 + 1))) else (some ((([] : List Int)), false))))) else (some ((([] : List Int)), false)))) else (some ((([] : List Int)), false))) = some (r1, r2) := H
                have A11 := Aside0.mk A110
                clear A110
                by_cases c12 : t135 = true
                · subst c12
                  have H1 : ((spec_l9Source.f ((rd_T52 l0 x6_2).f1) (l0.length : Int) a1).bind fun t136 => (if t136 = true then (if ((rd_T52 l0 x6_2).f0) = 5 then (if ((rd_T52 l0 x6_2).f2) = (-1) then (spec_EvaluationOrder.l0 k2 l0 a1 (wrap64 (x6_2 + 1))) else (some ((([] : List Int)), false))) else ((spec_l9Source.f ((rd_T52 l0 x6_2).f2) (l0.length : Int) a1).bind fun t140 => (if t140 = true then (spec_EvaluationOrder.l0 k2 l0 a1 (wrap64 (x6_2 + 1))) else (some ((([] : List Int)), false))))) else (some ((([] : List Int)), false)))) = some (r1, r2) := by rw [if_pos rfl] at H; exact H
                  clear H
                  have H := H1
                  clear H1
                  replace H := Option.bind_eq_some_iff.mp H
                  obtain ⟨t136, A130, H⟩ := H
                  replace H : (if t136 = true then (if ((rd_T52 l0 x6_2).f0) = 5 then (if ((rd_T52 l0 x6_2).f2) = (-1) then (spec_EvaluationOrder.l0 k2 l0 a1 (wrap64 (x6_2 + 1))) else (some ((([] : List Int)), false))) else ((spec_l9Source.f ((rd_T52 l0 x6_2).f2) (l0.length : Int) a1).bind fun t140 => (if t140 = true then (spec_EvaluationOrder.l0 k2 l0 a1 (wrap64 (x6_2 + 1))) else (some ((([] : List Int)), false))))) else (some ((([] : List Int)), false))) = some (r1, r2) := H
                  have A13 := Aside0.mk A130
                  clear A130
                  by_cases c14 : t136 = true
                  · subst c14
                    have H1 : (if ((rd_T52 l0 x6_2).f0) = 5 then (if ((rd_T52 l0 x6_2).f2) = (-1) then (spec_EvaluationOrder.l0 k2 l0 a1 (wrap64 (x6_2 + 1))) else (some ((([] : List Int)), false))) else ((spec_l9Source.f ((rd_T52 l0 x6_2).f2) (l0.length : Int) a1).bind fun t140 => (if t140 = true then (spec_EvaluationOrder.l0 k2 l0 a1 (wrap64 (x6_2 + 1))) else (some ((([] : List Int)), false))))) = some (r1, r2) := by rw [if_pos rfl] at H; exact H
                    clear H
                    have H := H1
                    clear H1
                    by_cases c15 : ((rd_T52 l0 x6_2).f0) = 5
                    · rw [if_pos c15] at H
                      have c15b0 : (((rd_T52 l0 x6_2).f0) == 5) = true := beq_iff_eq.mpr c15
                      have c15b1 : (((rd_T52 l0 x6_2).f0) != 5) = false := bne_eq_false_iff_eq.mpr c15
                      clear c15
                      by_cases c16 : ((rd_T52 l0 x6_2).f2) = (-1)
                      · rw [if_pos c16] at H
                        have c16b0 : (((rd_T52 l0 x6_2).f2) == (-1)) = true := beq_iff_eq.mpr c16
                        have c16b1 : (((rd_T52 l0 x6_2).f2) != (-1)) = false := bne_eq_false_iff_eq.mpr c16
                        clear c16
                        have H' := Aside0.mk H
                        clear H
                        have p133 : 0 ≤ (x6_2 : Int) := of_decide_eq_true (by first | (with_reducible assumption) | assumption)
                        have q133 : x6_2 < (l0.length : Int) := of_decide_eq_true (by first | (with_reducible assumption) | assumption)
                        obtain ⟨ad133, e133, hx133_0, hx133_1, hx133_2⟩ := at_T52 HR0.out x6_2 p133 q133
                        cases e133
                        replace hx133_0 := (HB.out.cell (World.block_lt_of_cell? w _ hx133_0)).trans hx133_0
                        replace hx133_1 := (HB.out.cell (World.block_lt_of_cell? w _ hx133_1)).trans hx133_1
                        replace hx133_2 := (HB.out.cell (World.block_lt_of_cell? w _ hx133_2)).trans hx133_2
                        replace p133 := eq_true p133
                        replace q133 := eq_true q133
                        go_wp2_with (first | ((with_reducible refine gate_dst (N := 7) rfl ?_); (try (refine gate_guard (by rfl) ?_; dsimp only)); refine box_event ?hg (N := 7) ?hd (cs := #[.int .i64 0, .int .i64 0, .int .i64 0]) (t := 52) ?hr ?_; (case hd => rfl); (case hg => rfl); (case hr => first | (go_simp; done) | (go_simp; rfl)); intro gb134 hg w17 hbox hb; have n0_ := Aside0.mk (below_step (by repeat (first | (with_reducible first | exact HB.out | apply below_alloc | apply pw_below_drewN | apply below_drew1) | exact HB.out)) hb); have n1_ := Aside0.mk (hbox); have n2_ := Aside0.mk ((by rw [hg]; exact (below_size (by repeat (first | (with_reducible first | exact HB.out | apply below_alloc | apply pw_below_drewN | apply below_drew1) | exact HB.out))) : w.heap.size ≤ gb134)); have n3_ := Aside0.mk ((by rw [hg]; exact (below_size (by repeat (first | (with_reducible first | exact HB.out | apply below_alloc | apply pw_below_drewN | apply below_drew1) | exact HB.out))) : w.heap.size ≤ gb134)); clear HB; have HB := n0_; have BK134 := n1_; have GW134 := n2_; have GE134 := n3_; clear n0_ n1_ n2_ n3_; clear hb hbox hg; have hcz18_0 : w17.cell? ⟨gb134, 0, none⟩ = some (.int .i64 0) := (blk_cell BK134.out 0).trans rfl; have hcz18_1 : w17.cell? ⟨gb134, 1, none⟩ = some (.int .i64 0) := (blk_cell BK134.out 1).trans rfl; have hcz18_2 : w17.cell? ⟨gb134, 2, none⟩ = some (.int .i64 0) := (blk_cell BK134.out 2).trans rfl; have hfz18_0 := blk_frozen BK134.out 0; have hfz18_1 := blk_frozen BK134.out 1; have hfz18_2 := blk_frozen BK134.out 2) | ((with_reducible refine gate_callee (f := 42) rfl ?_); refine goesL_ (some 33) rfl rfl Try.func42 (by kernel_rfl) rfl #[.int .i64 ((rd_T52 l0 x6_2).f0), .int .i64 1, .int .i64 5] rfl (by (try simp only [List.map_toArray, List.map_cons, List.map_nil]); first | done | rfl | (simp only [List.length_drop, List.length_take]; rfl)) ?_; (with_reducible refine (spec_l1In.calls ((rd_T52 l0 x6_2).f0) 1 5 true _ A11.out).mono ?_); rintro e w' ⟨rfl, ⟨nd, rfl⟩⟩; refine ⟨_, rfl, ?_⟩) | (go_at_call 43; (with_reducible refine (spec_l9Source.calls ((rd_T52 l0 x6_2).f1) (l0.length : Int) a1 true _ A13.out).mono ?_); rintro e w' ⟨rfl, ⟨nd, rfl⟩⟩))
                        go_roundg k2
                        case measure => have := HJ2.out; have := HK2.out; omega
                        case rel => exact ⟨(wrap64 (x6_2 + 1)), (by first | rfl | (simp; done) | (simp [*]; done)), H', ⟨by have := HJ2.out; have := HK2.out; omega⟩, ⟨by repeat (first | (with_reducible first | exact HB.out | apply below_alloc | apply pw_below_drewN | apply below_drew1 | refine below_set ?_ GE134.out) | exact HB.out)⟩⟩
                      · rw [if_neg c16] at H
                        have c16b0 : (((rd_T52 l0 x6_2).f2) == (-1)) = false := beq_eq_false_iff_ne.mpr c16
                        have c16b1 : (((rd_T52 l0 x6_2).f2) != (-1)) = true := bne_iff_ne.mpr c16
                        obtain ⟨y137, hy137⟩ : ∃ y_ : List Int, y_ = (([] : List Int)) := ⟨_, rfl⟩
                        replace H : (some (y137, false)) = some (r1, r2) := by first | (rw [hy137]; with_reducible exact H) | (have H2_ := (Option.bind_some _ _).symm.trans H; rw [hy137]; with_reducible exact H2_) | (have H2_ := (Option.bind_some _ _).symm.trans H; with_reducible exact H2_) | with_reducible exact H | (rw [hy137]; exact H) | exact H
                        have Ny137 := Aside0.mk hy137
                        clear hy137
                        simp only [Option.some.injEq, Prod.mk.injEq] at H
                        obtain ⟨rfl, rfl⟩ := H
                        have p133 : 0 ≤ (x6_2 : Int) := of_decide_eq_true (by first | (with_reducible assumption) | assumption)
                        have q133 : x6_2 < (l0.length : Int) := of_decide_eq_true (by first | (with_reducible assumption) | assumption)
                        obtain ⟨ad133, e133, hx133_0, hx133_1, hx133_2⟩ := at_T52 HR0.out x6_2 p133 q133
                        cases e133
                        replace hx133_0 := (HB.out.cell (World.block_lt_of_cell? w _ hx133_0)).trans hx133_0
                        replace hx133_1 := (HB.out.cell (World.block_lt_of_cell? w _ hx133_1)).trans hx133_1
                        replace hx133_2 := (HB.out.cell (World.block_lt_of_cell? w _ hx133_2)).trans hx133_2
                        replace p133 := eq_true p133
                        replace q133 := eq_true q133
                        go_wp2_with (first | ((with_reducible refine gate_dst (N := 7) rfl ?_); (try (refine gate_guard (by rfl) ?_; dsimp only)); refine box_event ?hg (N := 7) ?hd (cs := #[.int .i64 0, .int .i64 0, .int .i64 0]) (t := 52) ?hr ?_; (case hd => rfl); (case hg => rfl); (case hr => first | (go_simp; done) | (go_simp; rfl)); intro gb134 hg w19 hbox hb; have n0_ := Aside0.mk (below_step (by repeat (first | (with_reducible first | exact HB.out | apply below_alloc | apply pw_below_drewN | apply below_drew1) | exact HB.out)) hb); have n1_ := Aside0.mk (hbox); have n2_ := Aside0.mk ((by rw [hg]; exact (below_size (by repeat (first | (with_reducible first | exact HB.out | apply below_alloc | apply pw_below_drewN | apply below_drew1) | exact HB.out))) : w.heap.size ≤ gb134)); have n3_ := Aside0.mk ((by rw [hg]; exact (below_size (by repeat (first | (with_reducible first | exact HB.out | apply below_alloc | apply pw_below_drewN | apply below_drew1) | exact HB.out))) : w.heap.size ≤ gb134)); clear HB; have HB := n0_; have BK134 := n1_; have GW134 := n2_; have GE134 := n3_; clear n0_ n1_ n2_ n3_; clear hb hbox hg; have hcz20_0 : w19.cell? ⟨gb134, 0, none⟩ = some (.int .i64 0) := (blk_cell BK134.out 0).trans rfl; have hcz20_1 : w19.cell? ⟨gb134, 1, none⟩ = some (.int .i64 0) := (blk_cell BK134.out 1).trans rfl; have hcz20_2 : w19.cell? ⟨gb134, 2, none⟩ = some (.int .i64 0) := (blk_cell BK134.out 2).trans rfl; have hfz20_0 := blk_frozen BK134.out 0; have hfz20_1 := blk_frozen BK134.out 1; have hfz20_2 := blk_frozen BK134.out 2) | ((with_reducible refine gate_callee (f := 42) rfl ?_); refine goesL_ (some 33) rfl rfl Try.func42 (by kernel_rfl) rfl #[.int .i64 ((rd_T52 l0 x6_2).f0), .int .i64 1, .int .i64 5] rfl (by (try simp only [List.map_toArray, List.map_cons, List.map_nil]); first | done | rfl | (simp only [List.length_drop, List.length_take]; rfl)) ?_; (with_reducible refine (spec_l1In.calls ((rd_T52 l0 x6_2).f0) 1 5 true _ A11.out).mono ?_); rintro e w' ⟨rfl, ⟨nd, rfl⟩⟩; refine ⟨_, rfl, ?_⟩) | (go_at_call 43; (with_reducible refine (spec_l9Source.calls ((rd_T52 l0 x6_2).f1) (l0.length : Int) a1 true _ A13.out).mono ?_); rintro e w' ⟨rfl, ⟨nd, rfl⟩⟩) | ((with_reducible refine gate_dst (N := 68) rfl ?_); (try (refine gate_guard (by rfl) ?_; dsimp only)); refine Kd.R_lit (Kd.int .i64) _ 3 ?hg (N := 68) ?hd (xs := ([] : List Int)) (inner := []) (ok := fun _ => True) (okp := fun _ => True) ?hr ?hp (fun _ hk => hk) trivial (Below.refl _ _) (Nat.le_refl _) (by simp) ?_; (case hd => rfl); (case hg => rfl); (case hr => first | (go_simp; done) | (go_simp; rfl)); (case hp => exact (Reps.none _ _)); intro v138 w21 ho22 hb hg_ hnew_; clear hg_ hnew_; (first | rw [← Ny137.out] at ho22 | (simp only [Int.reduceToNat] at ho22; rw [← Ny137.out] at ho22)); have n0_ := Aside0.mk (Kd.R_lower ho22 (below_size (by repeat (first | (with_reducible first | exact HB.out | apply below_alloc | apply pw_below_drewN | apply below_drew1 | refine below_set ?_ GE134.out) | exact HB.out)))); have n1_ := Aside0.mk (blk_below (g := gb134) (o := .cells #[.int .i64 ((rd_T52 l0 x6_2).f0), .int .i64 ((rd_T52 l0 x6_2).f1), .int .i64 ((rd_T52 l0 x6_2).f2)] 52 (0, 0)) (by (with_reducible repeat (first | refine blk_drewN ?_ _ | refine blk_drew ?_ | refine blk_alloc ?_ _)); refine blk_put (cs := #[.int .i64 ((rd_T52 l0 x6_2).f0), .int .i64 ((rd_T52 l0 x6_2).f1), .int .i64 0]) ?_ 2 _ rfl; (with_reducible repeat (first | refine blk_drewN ?_ _ | refine blk_drew ?_ | refine blk_alloc ?_ _)); refine blk_put (cs := #[.int .i64 ((rd_T52 l0 x6_2).f0), .int .i64 0, .int .i64 0]) ?_ 1 _ rfl; (with_reducible repeat (first | refine blk_drewN ?_ _ | refine blk_drew ?_ | refine blk_alloc ?_ _)); refine blk_put (cs := #[.int .i64 0, .int .i64 0, .int .i64 0]) ?_ 0 _ rfl; (with_reducible repeat (first | refine blk_drewN ?_ _ | refine blk_drew ?_ | refine blk_alloc ?_ _)); exact BK134.out) hb); have n2_ := Aside0.mk (below_step (by repeat (first | (with_reducible first | exact HB.out | apply below_alloc | apply pw_below_drewN | apply below_drew1 | refine below_set ?_ GE134.out) | exact HB.out)) hb); clear BK134; clear HB; have HO139 := n0_; have BK134 := n1_; have HB := n2_; clear n0_ n1_ n2_; clear hb ho22))
                        go_ret2
                        exact ⟨_, by first | rfl | (simp [errW_none, errW_some] <;> rfl) | (simp [*, errW_none, errW_some] <;> rfl), by (with_reducible repeat (first | apply Kd.R_alloc | apply Kd.R_drewN | apply Kd.R_drew)); exact HO139.out, by repeat (first | (with_reducible first | exact HB.out | apply below_alloc | apply pw_below_drewN | apply below_drew1 | refine below_set ?_ GE134.out) | exact HB.out)⟩
                    · rw [if_neg c15] at H
                      have c15b0 : (((rd_T52 l0 x6_2).f0) == 5) = false := beq_eq_false_iff_ne.mpr c15
                      have c15b1 : (((rd_T52 l0 x6_2).f0) != 5) = true := bne_iff_ne.mpr c15
                      replace H := Option.bind_eq_some_iff.mp H
                      obtain ⟨t140, A230, H⟩ := H
                      replace H : (if t140 = true then (spec_EvaluationOrder.l0 k2 l0 a1 (wrap64 (x6_2 + 1))) else (some ((([] : List Int)), false))) = some (r1, r2) := H
                      have A23 := Aside0.mk A230
                      clear A230
                      by_cases c24 : t140 = true
                      · subst c24
                        have H1 : (spec_EvaluationOrder.l0 k2 l0 a1 (wrap64 (x6_2 + 1))) = some (r1, r2) := by rw [if_pos rfl] at H; exact H
                        clear H
                        have H := H1
                        clear H1
                        have H' := Aside0.mk H
                        clear H
                        have p133 : 0 ≤ (x6_2 : Int) := of_decide_eq_true (by first | (with_reducible assumption) | assumption)
                        have q133 : x6_2 < (l0.length : Int) := of_decide_eq_true (by first | (with_reducible assumption) | assumption)
                        obtain ⟨ad133, e133, hx133_0, hx133_1, hx133_2⟩ := at_T52 HR0.out x6_2 p133 q133
                        cases e133
                        replace hx133_0 := (HB.out.cell (World.block_lt_of_cell? w _ hx133_0)).trans hx133_0
                        replace hx133_1 := (HB.out.cell (World.block_lt_of_cell? w _ hx133_1)).trans hx133_1
                        replace hx133_2 := (HB.out.cell (World.block_lt_of_cell? w _ hx133_2)).trans hx133_2
                        replace p133 := eq_true p133
                        replace q133 := eq_true q133
                        go_wp2_with (first | ((with_reducible refine gate_dst (N := 7) rfl ?_); (try (refine gate_guard (by rfl) ?_; dsimp only)); refine box_event ?hg (N := 7) ?hd (cs := #[.int .i64 0, .int .i64 0, .int .i64 0]) (t := 52) ?hr ?_; (case hd => rfl); (case hg => rfl); (case hr => first | (go_simp; done) | (go_simp; rfl)); intro gb134 hg w25 hbox hb; have n0_ := Aside0.mk (below_step (by repeat (first | (with_reducible first | exact HB.out | apply below_alloc | apply pw_below_drewN | apply below_drew1) | exact HB.out)) hb); have n1_ := Aside0.mk (hbox); have n2_ := Aside0.mk ((by rw [hg]; exact (below_size (by repeat (first | (with_reducible first | exact HB.out | apply below_alloc | apply pw_below_drewN | apply below_drew1) | exact HB.out))) : w.heap.size ≤ gb134)); have n3_ := Aside0.mk ((by rw [hg]; exact (below_size (by repeat (first | (with_reducible first | exact HB.out | apply below_alloc | apply pw_below_drewN | apply below_drew1) | exact HB.out))) : w.heap.size ≤ gb134)); clear HB; have HB := n0_; have BK134 := n1_; have GW134 := n2_; have GE134 := n3_; clear n0_ n1_ n2_ n3_; clear hb hbox hg; have hcz26_0 : w25.cell? ⟨gb134, 0, none⟩ = some (.int .i64 0) := (blk_cell BK134.out 0).trans rfl; have hcz26_1 : w25.cell? ⟨gb134, 1, none⟩ = some (.int .i64 0) := (blk_cell BK134.out 1).trans rfl; have hcz26_2 : w25.cell? ⟨gb134, 2, none⟩ = some (.int .i64 0) := (blk_cell BK134.out 2).trans rfl; have hfz26_0 := blk_frozen BK134.out 0; have hfz26_1 := blk_frozen BK134.out 1; have hfz26_2 := blk_frozen BK134.out 2) | ((with_reducible refine gate_callee (f := 42) rfl ?_); refine goesL_ (some 33) rfl rfl Try.func42 (by kernel_rfl) rfl #[.int .i64 ((rd_T52 l0 x6_2).f0), .int .i64 1, .int .i64 5] rfl (by (try simp only [List.map_toArray, List.map_cons, List.map_nil]); first | done | rfl | (simp only [List.length_drop, List.length_take]; rfl)) ?_; (with_reducible refine (spec_l1In.calls ((rd_T52 l0 x6_2).f0) 1 5 true _ A11.out).mono ?_); rintro e w' ⟨rfl, ⟨nd, rfl⟩⟩; refine ⟨_, rfl, ?_⟩) | (go_at_call 43; (with_reducible refine (spec_l9Source.calls ((rd_T52 l0 x6_2).f1) (l0.length : Int) a1 true _ A13.out).mono ?_); rintro e w' ⟨rfl, ⟨nd, rfl⟩⟩) | (go_at_call 43; (with_reducible refine (spec_l9Source.calls ((rd_T52 l0 x6_2).f2) (l0.length : Int) a1 true _ A23.out).mono ?_); rintro e w' ⟨rfl, ⟨nd, rfl⟩⟩))
                        go_roundg k2
                        case measure => have := HJ2.out; have := HK2.out; omega
                        case rel => exact ⟨(wrap64 (x6_2 + 1)), (by first | rfl | (simp; done) | (simp [*]; done)), H', ⟨by have := HJ2.out; have := HK2.out; omega⟩, ⟨by repeat (first | (with_reducible first | exact HB.out | apply below_alloc | apply pw_below_drewN | apply below_drew1 | refine below_set ?_ GE134.out) | exact HB.out)⟩⟩
                      · replace c24 := Bool.eq_false_iff.mpr c24
                        subst c24
                        have H1 : (some ((([] : List Int)), false)) = some (r1, r2) := by rw [if_neg (show ¬ (false = true) by decide)] at H; exact H
                        clear H
                        have H := H1
                        clear H1
                        obtain ⟨y141, hy141⟩ : ∃ y_ : List Int, y_ = (([] : List Int)) := ⟨_, rfl⟩
                        replace H : (some (y141, false)) = some (r1, r2) := by first | (rw [hy141]; with_reducible exact H) | (have H2_ := (Option.bind_some _ _).symm.trans H; rw [hy141]; with_reducible exact H2_) | (have H2_ := (Option.bind_some _ _).symm.trans H; with_reducible exact H2_) | with_reducible exact H | (rw [hy141]; exact H) | exact H
                        have Ny141 := Aside0.mk hy141
                        clear hy141
                        simp only [Option.some.injEq, Prod.mk.injEq] at H
                        obtain ⟨rfl, rfl⟩ := H
                        have p133 : 0 ≤ (x6_2 : Int) := of_decide_eq_true (by first | (with_reducible assumption) | assumption)
                        have q133 : x6_2 < (l0.length : Int) := of_decide_eq_true (by first | (with_reducible assumption) | assumption)
                        obtain ⟨ad133, e133, hx133_0, hx133_1, hx133_2⟩ := at_T52 HR0.out x6_2 p133 q133
                        cases e133
                        replace hx133_0 := (HB.out.cell (World.block_lt_of_cell? w _ hx133_0)).trans hx133_0
                        replace hx133_1 := (HB.out.cell (World.block_lt_of_cell? w _ hx133_1)).trans hx133_1
                        replace hx133_2 := (HB.out.cell (World.block_lt_of_cell? w _ hx133_2)).trans hx133_2
                        replace p133 := eq_true p133
                        replace q133 := eq_true q133
                        go_wp2_with (first | ((with_reducible refine gate_dst (N := 7) rfl ?_); (try (refine gate_guard (by rfl) ?_; dsimp only)); refine box_event ?hg (N := 7) ?hd (cs := #[.int .i64 0, .int .i64 0, .int .i64 0]) (t := 52) ?hr ?_; (case hd => rfl); (case hg => rfl); (case hr => first | (go_simp; done) | (go_simp; rfl)); intro gb134 hg w27 hbox hb; have n0_ := Aside0.mk (below_step (by repeat (first | (with_reducible first | exact HB.out | apply below_alloc | apply pw_below_drewN | apply below_drew1) | exact HB.out)) hb); have n1_ := Aside0.mk (hbox); have n2_ := Aside0.mk ((by rw [hg]; exact (below_size (by repeat (first | (with_reducible first | exact HB.out | apply below_alloc | apply pw_below_drewN | apply below_drew1) | exact HB.out))) : w.heap.size ≤ gb134)); have n3_ := Aside0.mk ((by rw [hg]; exact (below_size (by repeat (first | (with_reducible first | exact HB.out | apply below_alloc | apply pw_below_drewN | apply below_drew1) | exact HB.out))) : w.heap.size ≤ gb134)); clear HB; have HB := n0_; have BK134 := n1_; have GW134 := n2_; have GE134 := n3_; clear n0_ n1_ n2_ n3_; clear hb hbox hg; have hcz28_0 : w27.cell? ⟨gb134, 0, none⟩ = some (.int .i64 0) := (blk_cell BK134.out 0).trans rfl; have hcz28_1 : w27.cell? ⟨gb134, 1, none⟩ = some (.int .i64 0) := (blk_cell BK134.out 1).trans rfl; have hcz28_2 : w27.cell? ⟨gb134, 2, none⟩ = some (.int .i64 0) := (blk_cell BK134.out 2).trans rfl; have hfz28_0 := blk_frozen BK134.out 0; have hfz28_1 := blk_frozen BK134.out 1; have hfz28_2 := blk_frozen BK134.out 2) | ((with_reducible refine gate_callee (f := 42) rfl ?_); refine goesL_ (some 33) rfl rfl Try.func42 (by kernel_rfl) rfl #[.int .i64 ((rd_T52 l0 x6_2).f0), .int .i64 1, .int .i64 5] rfl (by (try simp only [List.map_toArray, List.map_cons, List.map_nil]); first | done | rfl | (simp only [List.length_drop, List.length_take]; rfl)) ?_; (with_reducible refine (spec_l1In.calls ((rd_T52 l0 x6_2).f0) 1 5 true _ A11.out).mono ?_); rintro e w' ⟨rfl, ⟨nd, rfl⟩⟩; refine ⟨_, rfl, ?_⟩) | (go_at_call 43; (with_reducible refine (spec_l9Source.calls ((rd_T52 l0 x6_2).f1) (l0.length : Int) a1 true _ A13.out).mono ?_); rintro e w' ⟨rfl, ⟨nd, rfl⟩⟩) | (go_at_call 43; (with_reducible refine (spec_l9Source.calls ((rd_T52 l0 x6_2).f2) (l0.length : Int) a1 false _ A23.out).mono ?_); rintro e w' ⟨rfl, ⟨nd, rfl⟩⟩) | ((with_reducible refine gate_dst (N := 68) rfl ?_); (try (refine gate_guard (by rfl) ?_; dsimp only)); refine Kd.R_lit (Kd.int .i64) _ 3 ?hg (N := 68) ?hd (xs := ([] : List Int)) (inner := []) (ok := fun _ => True) (okp := fun _ => True) ?hr ?hp (fun _ hk => hk) trivial (Below.refl _ _) (Nat.le_refl _) (by simp) ?_; (case hd => rfl); (case hg => rfl); (case hr => first | (go_simp; done) | (go_simp; rfl)); (case hp => exact (Reps.none _ _)); intro v142 w29 ho30 hb hg_ hnew_; clear hg_ hnew_; (first | rw [← Ny141.out] at ho30 | (simp only [Int.reduceToNat] at ho30; rw [← Ny141.out] at ho30)); have n0_ := Aside0.mk (Kd.R_lower ho30 (below_size (by repeat (first | (with_reducible first | exact HB.out | apply below_alloc | apply pw_below_drewN | apply below_drew1 | refine below_set ?_ GE134.out) | exact HB.out)))); have n1_ := Aside0.mk (blk_below (g := gb134) (o := .cells #[.int .i64 ((rd_T52 l0 x6_2).f0), .int .i64 ((rd_T52 l0 x6_2).f1), .int .i64 ((rd_T52 l0 x6_2).f2)] 52 (0, 0)) (by (with_reducible repeat (first | refine blk_drewN ?_ _ | refine blk_drew ?_ | refine blk_alloc ?_ _)); refine blk_put (cs := #[.int .i64 ((rd_T52 l0 x6_2).f0), .int .i64 ((rd_T52 l0 x6_2).f1), .int .i64 0]) ?_ 2 _ rfl; (with_reducible repeat (first | refine blk_drewN ?_ _ | refine blk_drew ?_ | refine blk_alloc ?_ _)); refine blk_put (cs := #[.int .i64 ((rd_T52 l0 x6_2).f0), .int .i64 0, .int .i64 0]) ?_ 1 _ rfl; (with_reducible repeat (first | refine blk_drewN ?_ _ | refine blk_drew ?_ | refine blk_alloc ?_ _)); refine blk_put (cs := #[.int .i64 0, .int .i64 0, .int .i64 0]) ?_ 0 _ rfl; (with_reducible repeat (first | refine blk_drewN ?_ _ | refine blk_drew ?_ | refine blk_alloc ?_ _)); exact BK134.out) hb); have n2_ := Aside0.mk (below_step (by repeat (first | (with_reducible first | exact HB.out | apply below_alloc | apply pw_below_drewN | apply below_drew1 | refine below_set ?_ GE134.out) | exact HB.out)) hb); clear BK134; clear HB; have HO143 := n0_; have BK134 := n1_; have HB := n2_; clear n0_ n1_ n2_; clear hb ho30))
                        go_ret2
                        exact ⟨_, by first | rfl | (simp [errW_none, errW_some] <;> rfl) | (simp [*, errW_none, errW_some] <;> rfl), by (with_reducible repeat (first | apply Kd.R_alloc | apply Kd.R_drewN | apply Kd.R_drew)); exact HO143.out, by repeat (first | (with_reducible first | exact HB.out | apply below_alloc | apply pw_below_drewN | apply below_drew1 | refine below_set ?_ GE134.out) | exact HB.out)⟩
                  · replace c14 := Bool.eq_false_iff.mpr c14
                    subst c14
                    have H1 : (some ((([] : List Int)), false)) = some (r1, r2) := by rw [if_neg (show ¬ (false = true) by decide)] at H; exact H
                    clear H
                    have H := H1
                    clear H1
                    obtain ⟨y144, hy144⟩ : ∃ y_ : List Int, y_ = (([] : List Int)) := ⟨_, rfl⟩
                    replace H : (some (y144, false)) = some (r1, r2) := by first | (rw [hy144]; with_reducible exact H) | (have H2_ := (Option.bind_some _ _).symm.trans H; rw [hy144]; with_reducible exact H2_) | (have H2_ := (Option.bind_some _ _).symm.trans H; with_reducible exact H2_) | with_reducible exact H | (rw [hy144]; exact H) | exact H
                    have Ny144 := Aside0.mk hy144
                    clear hy144
                    simp only [Option.some.injEq, Prod.mk.injEq] at H
                    obtain ⟨rfl, rfl⟩ := H
                    have p133 : 0 ≤ (x6_2 : Int) := of_decide_eq_true (by first | (with_reducible assumption) | assumption)
                    have q133 : x6_2 < (l0.length : Int) := of_decide_eq_true (by first | (with_reducible assumption) | assumption)
                    obtain ⟨ad133, e133, hx133_0, hx133_1, hx133_2⟩ := at_T52 HR0.out x6_2 p133 q133
                    cases e133
                    replace hx133_0 := (HB.out.cell (World.block_lt_of_cell? w _ hx133_0)).trans hx133_0
                    replace hx133_1 := (HB.out.cell (World.block_lt_of_cell? w _ hx133_1)).trans hx133_1
                    replace hx133_2 := (HB.out.cell (World.block_lt_of_cell? w _ hx133_2)).trans hx133_2
                    replace p133 := eq_true p133
                    replace q133 := eq_true q133
                    go_wp2_with (first | ((with_reducible refine gate_dst (N := 7) rfl ?_); (try (refine gate_guard (by rfl) ?_; dsimp only)); refine box_event ?hg (N := 7) ?hd (cs := #[.int .i64 0, .int .i64 0, .int .i64 0]) (t := 52) ?hr ?_; (case hd => rfl); (case hg => rfl); (case hr => first | (go_simp; done) | (go_simp; rfl)); intro gb134 hg w31 hbox hb; have n0_ := Aside0.mk (below_step (by repeat (first | (with_reducible first | exact HB.out | apply below_alloc | apply pw_below_drewN | apply below_drew1) | exact HB.out)) hb); have n1_ := Aside0.mk (hbox); have n2_ := Aside0.mk ((by rw [hg]; exact (below_size (by repeat (first | (with_reducible first | exact HB.out | apply below_alloc | apply pw_below_drewN | apply below_drew1) | exact HB.out))) : w.heap.size ≤ gb134)); have n3_ := Aside0.mk ((by rw [hg]; exact (below_size (by repeat (first | (with_reducible first | exact HB.out | apply below_alloc | apply pw_below_drewN | apply below_drew1) | exact HB.out))) : w.heap.size ≤ gb134)); clear HB; have HB := n0_; have BK134 := n1_; have GW134 := n2_; have GE134 := n3_; clear n0_ n1_ n2_ n3_; clear hb hbox hg; have hcz32_0 : w31.cell? ⟨gb134, 0, none⟩ = some (.int .i64 0) := (blk_cell BK134.out 0).trans rfl; have hcz32_1 : w31.cell? ⟨gb134, 1, none⟩ = some (.int .i64 0) := (blk_cell BK134.out 1).trans rfl; have hcz32_2 : w31.cell? ⟨gb134, 2, none⟩ = some (.int .i64 0) := (blk_cell BK134.out 2).trans rfl; have hfz32_0 := blk_frozen BK134.out 0; have hfz32_1 := blk_frozen BK134.out 1; have hfz32_2 := blk_frozen BK134.out 2) | ((with_reducible refine gate_callee (f := 42) rfl ?_); refine goesL_ (some 33) rfl rfl Try.func42 (by kernel_rfl) rfl #[.int .i64 ((rd_T52 l0 x6_2).f0), .int .i64 1, .int .i64 5] rfl (by (try simp only [List.map_toArray, List.map_cons, List.map_nil]); first | done | rfl | (simp only [List.length_drop, List.length_take]; rfl)) ?_; (with_reducible refine (spec_l1In.calls ((rd_T52 l0 x6_2).f0) 1 5 true _ A11.out).mono ?_); rintro e w' ⟨rfl, ⟨nd, rfl⟩⟩; refine ⟨_, rfl, ?_⟩) | (go_at_call 43; (with_reducible refine (spec_l9Source.calls ((rd_T52 l0 x6_2).f1) (l0.length : Int) a1 false _ A13.out).mono ?_); rintro e w' ⟨rfl, ⟨nd, rfl⟩⟩) | ((with_reducible refine gate_dst (N := 68) rfl ?_); (try (refine gate_guard (by rfl) ?_; dsimp only)); refine Kd.R_lit (Kd.int .i64) _ 3 ?hg (N := 68) ?hd (xs := ([] : List Int)) (inner := []) (ok := fun _ => True) (okp := fun _ => True) ?hr ?hp (fun _ hk => hk) trivial (Below.refl _ _) (Nat.le_refl _) (by simp) ?_; (case hd => rfl); (case hg => rfl); (case hr => first | (go_simp; done) | (go_simp; rfl)); (case hp => exact (Reps.none _ _)); intro v145 w33 ho34 hb hg_ hnew_; clear hg_ hnew_; (first | rw [← Ny144.out] at ho34 | (simp only [Int.reduceToNat] at ho34; rw [← Ny144.out] at ho34)); have n0_ := Aside0.mk (Kd.R_lower ho34 (below_size (by repeat (first | (with_reducible first | exact HB.out | apply below_alloc | apply pw_below_drewN | apply below_drew1 | refine below_set ?_ GE134.out) | exact HB.out)))); have n1_ := Aside0.mk (blk_below (g := gb134) (o := .cells #[.int .i64 ((rd_T52 l0 x6_2).f0), .int .i64 ((rd_T52 l0 x6_2).f1), .int .i64 ((rd_T52 l0 x6_2).f2)] 52 (0, 0)) (by (with_reducible repeat (first | refine blk_drewN ?_ _ | refine blk_drew ?_ | refine blk_alloc ?_ _)); refine blk_put (cs := #[.int .i64 ((rd_T52 l0 x6_2).f0), .int .i64 ((rd_T52 l0 x6_2).f1), .int .i64 0]) ?_ 2 _ rfl; (with_reducible repeat (first | refine blk_drewN ?_ _ | refine blk_drew ?_ | refine blk_alloc ?_ _)); refine blk_put (cs := #[.int .i64 ((rd_T52 l0 x6_2).f0), .int .i64 0, .int .i64 0]) ?_ 1 _ rfl; (with_reducible repeat (first | refine blk_drewN ?_ _ | refine blk_drew ?_ | refine blk_alloc ?_ _)); refine blk_put (cs := #[.int .i64 0, .int .i64 0, .int .i64 0]) ?_ 0 _ rfl; (with_reducible repeat (first | refine blk_drewN ?_ _ | refine blk_drew ?_ | refine blk_alloc ?_ _)); exact BK134.out) hb); have n2_ := Aside0.mk (below_step (by repeat (first | (with_reducible first | exact HB.out | apply below_alloc | apply pw_below_drewN | apply below_drew1 | refine below_set ?_ GE134.out) | exact HB.out)) hb); clear BK134; clear HB; have HO146 := n0_; have BK134 := n1_; have HB := n2_; clear n0_ n1_ n2_; clear hb ho34))
                    go_ret2
                    exact ⟨_, by first | rfl | (simp [errW_none, errW_some] <;> rfl) | (simp [*, errW_none, errW_some] <;> rfl), by (with_reducible repeat (first | apply Kd.R_alloc | apply Kd.R_drewN | apply Kd.R_drew)); exact HO146.out, by repeat (first | (with_reducible first | exact HB.out | apply below_alloc | apply pw_below_drewN | apply below_drew1 | refine below_set ?_ GE134.out) | exact HB.out)⟩
                · replace c12 := Bool.eq_false_iff.mpr c12
                  subst c12
                  have H1 : (some ((([] : List Int)), false)) = some (r1, r2) := by rw [if_neg (show ¬ (false = true) by decide)] at H; exact H
                  clear H
                  have H := H1
                  clear H1
                  obtain ⟨y147, hy147⟩ : ∃ y_ : List Int, y_ = (([] : List Int)) := ⟨_, rfl⟩
                  replace H : (some (y147, false)) = some (r1, r2) := by first | (rw [hy147]; with_reducible exact H) | (have H2_ := (Option.bind_some _ _).symm.trans H; rw [hy147]; with_reducible exact H2_) | (have H2_ := (Option.bind_some _ _).symm.trans H; with_reducible exact H2_) | with_reducible exact H | (rw [hy147]; exact H) | exact H
                  have Ny147 := Aside0.mk hy147
                  clear hy147
                  simp only [Option.some.injEq, Prod.mk.injEq] at H
                  obtain ⟨rfl, rfl⟩ := H
                  have p133 : 0 ≤ (x6_2 : Int) := of_decide_eq_true (by first | (with_reducible assumption) | assumption)
                  have q133 : x6_2 < (l0.length : Int) := of_decide_eq_true (by first | (with_reducible assumption) | assumption)
                  obtain ⟨ad133, e133, hx133_0, hx133_1, hx133_2⟩ := at_T52 HR0.out x6_2 p133 q133
                  cases e133
                  replace hx133_0 := (HB.out.cell (World.block_lt_of_cell? w _ hx133_0)).trans hx133_0
                  replace hx133_1 := (HB.out.cell (World.block_lt_of_cell? w _ hx133_1)).trans hx133_1
                  replace hx133_2 := (HB.out.cell (World.block_lt_of_cell? w _ hx133_2)).trans hx133_2
                  replace p133 := eq_true p133
                  replace q133 := eq_true q133
                  go_wp2_with (first | ((with_reducible refine gate_dst (N := 7) rfl ?_); (try (refine gate_guard (by rfl) ?_; dsimp only)); refine box_event ?hg (N := 7) ?hd (cs := #[.int .i64 0, .int .i64 0, .int .i64 0]) (t := 52) ?hr ?_; (case hd => rfl); (case hg => rfl); (case hr => first | (go_simp; done) | (go_simp; rfl)); intro gb134 hg w35 hbox hb; have n0_ := Aside0.mk (below_step (by repeat (first | (with_reducible first | exact HB.out | apply below_alloc | apply pw_below_drewN | apply below_drew1) | exact HB.out)) hb); have n1_ := Aside0.mk (hbox); have n2_ := Aside0.mk ((by rw [hg]; exact (below_size (by repeat (first | (with_reducible first | exact HB.out | apply below_alloc | apply pw_below_drewN | apply below_drew1) | exact HB.out))) : w.heap.size ≤ gb134)); have n3_ := Aside0.mk ((by rw [hg]; exact (below_size (by repeat (first | (with_reducible first | exact HB.out | apply below_alloc | apply pw_below_drewN | apply below_drew1) | exact HB.out))) : w.heap.size ≤ gb134)); clear HB; have HB := n0_; have BK134 := n1_; have GW134 := n2_; have GE134 := n3_; clear n0_ n1_ n2_ n3_; clear hb hbox hg; have hcz36_0 : w35.cell? ⟨gb134, 0, none⟩ = some (.int .i64 0) := (blk_cell BK134.out 0).trans rfl; have hcz36_1 : w35.cell? ⟨gb134, 1, none⟩ = some (.int .i64 0) := (blk_cell BK134.out 1).trans rfl; have hcz36_2 : w35.cell? ⟨gb134, 2, none⟩ = some (.int .i64 0) := (blk_cell BK134.out 2).trans rfl; have hfz36_0 := blk_frozen BK134.out 0; have hfz36_1 := blk_frozen BK134.out 1; have hfz36_2 := blk_frozen BK134.out 2) | ((with_reducible refine gate_callee (f := 42) rfl ?_); refine goesL_ (some 33) rfl rfl Try.func42 (by kernel_rfl) rfl #[.int .i64 ((rd_T52 l0 x6_2).f0), .int .i64 1, .int .i64 5] rfl (by (try simp only [List.map_toArray, List.map_cons, List.map_nil]); first | done | rfl | (simp only [List.length_drop, List.length_take]; rfl)) ?_; (with_reducible refine (spec_l1In.calls ((rd_T52 l0 x6_2).f0) 1 5 false _ A11.out).mono ?_); rintro e w' ⟨rfl, ⟨nd, rfl⟩⟩; refine ⟨_, rfl, ?_⟩) | ((with_reducible refine gate_dst (N := 68) rfl ?_); (try (refine gate_guard (by rfl) ?_; dsimp only)); refine Kd.R_lit (Kd.int .i64) _ 3 ?hg (N := 68) ?hd (xs := ([] : List Int)) (inner := []) (ok := fun _ => True) (okp := fun _ => True) ?hr ?hp (fun _ hk => hk) trivial (Below.refl _ _) (Nat.le_refl _) (by simp) ?_; (case hd => rfl); (case hg => rfl); (case hr => first | (go_simp; done) | (go_simp; rfl)); (case hp => exact (Reps.none _ _)); intro v148 w37 ho38 hb hg_ hnew_; clear hg_ hnew_; (first | rw [← Ny147.out] at ho38 | (simp only [Int.reduceToNat] at ho38; rw [← Ny147.out] at ho38)); have n0_ := Aside0.mk (Kd.R_lower ho38 (below_size (by repeat (first | (with_reducible first | exact HB.out | apply below_alloc | apply pw_below_drewN | apply below_drew1 | refine below_set ?_ GE134.out) | exact HB.out)))); have n1_ := Aside0.mk (blk_below (g := gb134) (o := .cells #[.int .i64 ((rd_T52 l0 x6_2).f0), .int .i64 ((rd_T52 l0 x6_2).f1), .int .i64 ((rd_T52 l0 x6_2).f2)] 52 (0, 0)) (by (with_reducible repeat (first | refine blk_drewN ?_ _ | refine blk_drew ?_ | refine blk_alloc ?_ _)); refine blk_put (cs := #[.int .i64 ((rd_T52 l0 x6_2).f0), .int .i64 ((rd_T52 l0 x6_2).f1), .int .i64 0]) ?_ 2 _ rfl; (with_reducible repeat (first | refine blk_drewN ?_ _ | refine blk_drew ?_ | refine blk_alloc ?_ _)); refine blk_put (cs := #[.int .i64 ((rd_T52 l0 x6_2).f0), .int .i64 0, .int .i64 0]) ?_ 1 _ rfl; (with_reducible repeat (first | refine blk_drewN ?_ _ | refine blk_drew ?_ | refine blk_alloc ?_ _)); refine blk_put (cs := #[.int .i64 0, .int .i64 0, .int .i64 0]) ?_ 0 _ rfl; (with_reducible repeat (first | refine blk_drewN ?_ _ | refine blk_drew ?_ | refine blk_alloc ?_ _)); exact BK134.out) hb); have n2_ := Aside0.mk (below_step (by repeat (first | (with_reducible first | exact HB.out | apply below_alloc | apply pw_below_drewN | apply below_drew1 | refine below_set ?_ GE134.out) | exact HB.out)) hb); clear BK134; clear HB; have HO149 := n0_; have BK134 := n1_; have HB := n2_; clear n0_ n1_ n2_; clear hb ho38))
                  go_ret2
                  exact ⟨_, by first | rfl | (simp [errW_none, errW_some] <;> rfl) | (simp [*, errW_none, errW_some] <;> rfl), by (with_reducible repeat (first | apply Kd.R_alloc | apply Kd.R_drewN | apply Kd.R_drew)); exact HO149.out, by repeat (first | (with_reducible first | exact HB.out | apply below_alloc | apply pw_below_drewN | apply below_drew1 | refine below_set ?_ GE134.out) | exact HB.out)⟩
              · rw [if_neg c10] at H
                exact absurd H (by simp)
            · rw [if_neg c9] at H
              have c9b0 : decide (x6_2 < (l0.length : Int)) = false := decide_eq_false c9
              clear c9
              obtain ⟨y150, hy150⟩ : ∃ y_ : List Int, y_ = (([] : List Int)) := ⟨_, rfl⟩
              replace H : (if 0 ≤ (l0.length : Int) then (if ((l0.length : Int) : Int).toNat ≤ 281474976710656 then (spec_EvaluationOrder.l1 k2 l0 y150 (List.replicate ((l0.length : Int) : Int).toNat false)) else (none)) else (none)) = some (r1, r2) := by first | (rw [hy150]; with_reducible exact H) | (have H2_ := (Option.bind_some _ _).symm.trans H; rw [hy150]; with_reducible exact H2_) | (have H2_ := (Option.bind_some _ _).symm.trans H; with_reducible exact H2_) | with_reducible exact H | (rw [hy150]; exact H) | exact H
              have Ny150 := Aside0.mk hy150
              clear hy150
              by_cases c39 : 0 ≤ (l0.length : Int)
              · rw [if_pos c39] at H
                have c39b0 := eq_true c39
                have c39b1 : decide (0 ≤ (l0.length : Int)) = true := decide_eq_true c39
                clear c39
                by_cases c40 : ((l0.length : Int) : Int).toNat ≤ 281474976710656
                · rw [if_pos c40] at H
                  have c40b0 := eq_true c40
                  have c40b1 : decide (((l0.length : Int) : Int).toNat ≤ 281474976710656) = true := decide_eq_true c40
                  clear c40
                  obtain ⟨y153, hy153⟩ : ∃ y_ : List Bool, y_ = (List.replicate ((l0.length : Int) : Int).toNat false) := ⟨_, rfl⟩
                  replace H : (spec_EvaluationOrder.l1 k2 l0 y150 y153) = some (r1, r2) := by first | (rw [hy153]; with_reducible exact H) | (have H2_ := (Option.bind_some _ _).symm.trans H; rw [hy153]; with_reducible exact H2_) | (have H2_ := (Option.bind_some _ _).symm.trans H; with_reducible exact H2_) | with_reducible exact H | (rw [hy153]; exact H) | exact H
                  have Ny153 := Aside0.mk hy153
                  clear hy153
                  have H' := Aside0.mk H
                  clear H
                  go_wp2_with (first | ((with_reducible refine gate_dst (N := 69) rfl ?_); (try (refine gate_guard (by rfl) ?_; dsimp only)); refine Kd.R_lit (Kd.int .i64) _ 3 ?hg (N := 69) ?hd (xs := ([] : List Int)) (inner := []) (ok := fun _ => True) (okp := fun _ => True) ?hr ?hp (fun _ hk => hk) trivial (Below.refl _ _) (Nat.le_refl _) (by simp) ?_; (case hd => rfl); (case hg => rfl); (case hr => first | (go_simp; done) | (go_simp; rfl)); (case hp => exact (Reps.none _ _)); intro v151 w41 ho42 hb hg_ hnew_; clear hg_ hnew_; (first | rw [← Ny150.out] at ho42 | (simp only [Int.reduceToNat] at ho42; rw [← Ny150.out] at ho42)); have n0_ := Aside0.mk (Kd.R_lower ho42 (below_size (by repeat (first | (with_reducible first | exact HB.out | apply below_alloc | apply pw_below_drewN | apply below_drew1) | exact HB.out)))); have n1_ := Aside0.mk (below_step (by repeat (first | (with_reducible first | exact HB.out | apply below_alloc | apply pw_below_drewN | apply below_drew1) | exact HB.out)) hb); clear HB; have HO152 := n0_; have HB := n1_; clear n0_ n1_; clear hb ho42) | ((with_reducible refine gate_dst (N := 72) rfl ?_); (try (refine gate_guard (by rfl) ?_; dsimp only)); refine Kd.R_make Kd.bool _ 4 rfl (N := 72) rfl 60 _ _ rfl (l0.length : Int) rfl rfl Try.underlying60 (.bool false) 1 info4 rfl (by decide) (by omega) false (ok := fun _ => True) (okp := fun _ => True) rfl (fun _ hk => hk) trivial (of_decide_eq_true (by first | (with_reducible assumption) | assumption)) (Nat.le_trans (Nat.mul_le_mul_right _ (of_decide_eq_true (by first | (with_reducible assumption) | assumption) : (l0.length : Int).toNat ≤ 281474976710656)) (by omega)) (Below.refl _ _) (Nat.le_refl _) ?_; intro v154 w43 ho44 hb hg_ hnew_; clear hg_ hnew_; (first | rw [← Ny153.out] at ho44 | (simp only [Int.reduceToNat] at ho44; rw [← Ny153.out] at ho44)); have n0_ := Aside0.mk (Kd.R_below (by (with_reducible repeat (first | apply Kd.R_alloc | apply Kd.R_drewN | apply Kd.R_drew)); exact HO152.out) hb); have n1_ := Aside0.mk (Kd.R_lower ho44 (below_size (by repeat (first | (with_reducible first | exact HB.out | apply below_alloc | apply pw_below_drewN | apply below_drew1) | exact HB.out)))); have n2_ := Aside0.mk (below_step (by repeat (first | (with_reducible first | exact HB.out | apply below_alloc | apply pw_below_drewN | apply below_drew1) | exact HB.out)) hb); clear HO152; clear HB; have HO152 := n0_; have HO155 := n1_; have HB := n2_; clear n0_ n1_ n2_; clear hb ho44))
                  go_loopg [8] k2 (fun kq v8 w' => ∃ (x8_3 : List Int) (x9_3 : List Bool), Aside0 (spec_EvaluationOrder.l1 kq l0 x8_3 x9_3 = some (r1, r2)) ∧ Aside0 (kq ≤ k2) ∧ Aside0 (Kd.R (Kd.int .i64) 3 w' w.heap.size (fun _ => True) v8 x8_3) ∧ Aside0 (Kd.R Kd.bool 4 w' w.heap.size (fun _ => True) v154 x9_3) ∧ Aside0 (Below w.heap.size w w'))
                  case atStart => exact ⟨(y150), (y153), H', ⟨Nat.le_refl _⟩, ⟨by (with_reducible repeat (first | apply Kd.R_alloc | apply Kd.R_drewN | apply Kd.R_drew)); exact HO152.out⟩, ⟨by (with_reducible repeat (first | apply Kd.R_alloc | apply Kd.R_drewN | apply Kd.R_drew)); exact HO155.out⟩, ⟨by repeat (first | (with_reducible first | exact HB.out | apply below_alloc | apply pw_below_drewN | apply below_drew1) | exact HB.out)⟩⟩
                  case round =>
                    clear H'
                    try clear c1
                    try clear p1
                    try clear q1
                    try clear hx1
                    try clear c2
                    try clear p2
                    try clear c3
                    try clear c4
                    try clear c4b0
                    try clear c4b1
                    try clear c6
                    try clear p6
                    try clear c9
                    try clear c9b0
                    try clear c10
                    try clear c10b0
                    try clear c12
                    try clear p13
                    try clear q13
                    try clear hx13
                    try clear c14
                    try clear c15
                    try clear c15b0
                    try clear c15b1
                    try clear c16
                    try clear c16b0
                    try clear c16b1
                    try clear c24
                    try clear c25
                    try clear c39
                    try clear c39b0
                    try clear c39b1
                    try clear c40
                    try clear c40b0
                    try clear c40b1
                    try clear c42
                    try clear hcz18_0
                    try clear hcz18_1
                    try clear hcz18_2
                    try clear hcz20_0
                    try clear hcz20_1
                    try clear hcz20_2
                    try clear hcz26_0
                    try clear hcz26_1
                    try clear hcz26_2
                    try clear hcz28_0
                    try clear hcz28_1
                    try clear hcz28_2
                    try clear hcz32_0
                    try clear hcz32_1
                    try clear hcz32_2
                    try clear hcz36_0
                    try clear hcz36_1
                    try clear hcz36_2
                    try clear hfz18_0
                    try clear hfz18_1
                    try clear hfz18_2
                    try clear hfz20_0
                    try clear hfz20_1
                    try clear hfz20_2
                    try clear hfz26_0
                    try clear hfz26_1
                    try clear hfz26_2
                    try clear hfz28_0
                    try clear hfz28_1
                    try clear hfz28_2
                    try clear hfz32_0
                    try clear hfz32_1
                    try clear hfz32_2
                    try clear hfz36_0
                    try clear hfz36_1
                    try clear hfz36_2
                    try clear hx133_0
                    try clear hx133_1
                    try clear hx133_2
                    try clear p133
                    try clear p2
                    try clear q133
                    obtain ⟨x8_3, x9_3, HA, HK3, HO_8, HO_9, HB⟩ := hrel
                    cases gk with
                    | zero => exact absurd HA.out (by simp [spec_EvaluationOrder.l1])
                    | succ k3 =>
                      have H := HA.out
                      clear HA
                      simp only [spec_EvaluationOrder.l1] at H
                      by_cases c45 : (x8_3.length : Int) < (l0.length : Int)
                      · rw [if_pos c45] at H
                        have c45b0 : decide ((x8_3.length : Int) < (l0.length : Int)) = true := decide_eq_true c45
                        have c45b1 : decide (x8_3.length < l0.length) = true := decide_eq_true (Int.ofNat_lt.mp c45)
                        clear c45
                        have H' := Aside0.mk H
                        clear H
                        obtain ⟨Ao46, co46, eo46⟩ := Kd.R_slice HO_8.out
                        subst eo46
                        go_wp2
                        go_loopg [10, 11] k3 (fun kq v10 v11 w' => ∃ (x10_4 : Int) (x11_4 : Int), v10 = .int .i64 x10_4 ∧ v11 = .int .i64 x11_4 ∧ Aside0 (spec_EvaluationOrder.l2 kq l0 x8_3 x9_3 x10_4 x11_4 = some (r1, r2)) ∧ Aside0 (kq ≤ k3) ∧ Aside0 (Kd.R (Kd.int .i64) 3 w' w.heap.size (fun _ => True) (.slice Ao46 x8_3.length co46) x8_3) ∧ Aside0 (Kd.R Kd.bool 4 w' w.heap.size (fun _ => True) v154 x9_3) ∧ Aside0 (Below w.heap.size w w'))
                        case atStart => exact ⟨((-1)), (wrap64 ((l0.length : Int) - 1)), (by first | rfl | (simp; done) | (simp [*]; done)), (by first | rfl | (simp; done) | (simp [*]; done)), H', ⟨Nat.le_refl _⟩, ⟨by (with_reducible repeat (first | apply Kd.R_alloc | apply Kd.R_drewN | apply Kd.R_drew)); exact HO_8.out⟩, ⟨by (with_reducible repeat (first | apply Kd.R_alloc | apply Kd.R_drewN | apply Kd.R_drew)); exact HO_9.out⟩, ⟨by repeat (first | (with_reducible first | exact HB.out | apply below_alloc | apply pw_below_drewN | apply below_drew1) | exact HB.out)⟩⟩
                        case round =>
                          clear H'
                          try clear c1
                          try clear p1
                          try clear q1
                          try clear hx1
                          try clear c2
                          try clear p2
                          try clear c3
                          try clear c4
                          try clear c4b0
                          try clear c4b1
                          try clear c6
                          try clear p6
                          try clear c9
                          try clear c9b0
                          try clear c10
                          try clear c10b0
                          try clear c12
                          try clear p13
                          try clear q13
                          try clear hx13
                          try clear c14
                          try clear c15
                          try clear c15b0
                          try clear c15b1
                          try clear c16
                          try clear c16b0
                          try clear c16b1
                          try clear c24
                          try clear c25
                          try clear c39
                          try clear c39b0
                          try clear c39b1
                          try clear c40
                          try clear c40b0
                          try clear c40b1
                          try clear c42
                          try clear c45
                          try clear c45b0
                          try clear c45b1
                          try clear hcz18_0
                          try clear hcz18_1
                          try clear hcz18_2
                          try clear hcz20_0
                          try clear hcz20_1
                          try clear hcz20_2
                          try clear hcz26_0
                          try clear hcz26_1
                          try clear hcz26_2
                          try clear hcz28_0
                          try clear hcz28_1
                          try clear hcz28_2
                          try clear hcz32_0
                          try clear hcz32_1
                          try clear hcz32_2
                          try clear hcz36_0
                          try clear hcz36_1
                          try clear hcz36_2
                          try clear hfz18_0
                          try clear hfz18_1
                          try clear hfz18_2
                          try clear hfz20_0
                          try clear hfz20_1
                          try clear hfz20_2
                          try clear hfz26_0
                          try clear hfz26_1
                          try clear hfz26_2
                          try clear hfz28_0
                          try clear hfz28_1
                          try clear hfz28_2
                          try clear hfz32_0
                          try clear hfz32_1
                          try clear hfz32_2
                          try clear hfz36_0
                          try clear hfz36_1
                          try clear hfz36_2
                          try clear hx133_0
                          try clear hx133_1
                          try clear hx133_2
                          try clear p1
                          try clear p13
                          try clear p133
                          try clear p2
                          try clear p6
                          try clear q1
                          try clear q13
                          try clear q133
                          obtain ⟨x10_4, x11_4, rfl, rfl, HA, HK4, HO_8, HO_9, HB⟩ := hrel
                          cases gk with
                          | zero => exact absurd HA.out (by simp [spec_EvaluationOrder.l2])
                          | succ k4 =>
                            have H := HA.out
                            clear HA
                            simp only [spec_EvaluationOrder.l2] at H
                            by_cases c47 : x11_4 ≥ 0
                            · rw [if_pos c47] at H
                              have c47b0 : decide (0 ≤ x11_4) = true := decide_eq_true c47
                              clear c47
                              by_cases c48 : 0 ≤ x11_4
                              · rw [if_pos c48] at H
                                have c48b0 : decide (0 ≤ x11_4) = true := decide_eq_true c48
                                clear c48
                                by_cases c49 : x11_4 < (x9_3.length : Int)
                                · rw [if_pos c49] at H
                                  have c49b0 : decide (x11_4 < (x9_3.length : Int)) = true := decide_eq_true c49
                                  clear c49
                                  obtain ⟨bq50, hbq50⟩ : ∃ b_ : Bool, b_ = (rdOf false x9_3 x11_4) := ⟨_, rfl⟩
                                  replace H : (if bq50 = true then (spec_EvaluationOrder.l2 k4 l0 x8_3 x9_3 x10_4 (wrap64 (x11_4 - 1))) else (if x11_4 < (l0.length : Int) then (if ((rd_T52 l0 x11_4).f0) = 5 then (spec_EvaluationOrder.l2 k4 l0 x8_3 x9_3 x11_4 (wrap64 (x11_4 - 1))) else ((spec_l9Ready.f l0 x9_3 ((rd_T52 l0 x11_4).f1)).bind fun t166 => (if t166 = true then ((spec_l9Ready.f l0 x9_3 ((rd_T52 l0 x11_4).f2)).bind fun t168 => (if t168 = true then (spec_EvaluationOrder.l2 k4 l0 x8_3 x9_3 x11_4 (wrap64 (x11_4 - 1))) else (spec_EvaluationOrder.l2 k4 l0 x8_3 x9_3 x10_4 (wrap64 (x11_4 - 1))))) else (spec_EvaluationOrder.l2 k4 l0 x8_3 x9_3 x10_4 (wrap64 (x11_4 - 1)))))) else (none))) = some (r1, r2) := by rw [← hbq50] at H; exact H
                                  have Nbq50 := Aside0.mk hbq50
                                  clear hbq50
                                  by_cases c51 : bq50 = true
                                  · subst c51
                                    have H1 : (spec_EvaluationOrder.l2 k4 l0 x8_3 x9_3 x10_4 (wrap64 (x11_4 - 1))) = some (r1, r2) := by rw [if_pos rfl] at H; exact H
                                    clear H
                                    have H := H1
                                    clear H1
                                    have H' := Aside0.mk H
                                    clear H
                                    obtain ⟨Ao52, co52, eo52⟩ := Kd.R_slice HO_9.out
                                    subst eo52
                                    have p163 : 0 ≤ (x11_4 : Int) := of_decide_eq_true (by first | (with_reducible assumption) | assumption)
                                    have q163 : x11_4 < (x9_3.length : Int) := of_decide_eq_true (by first | (with_reducible assumption) | assumption)
                                    obtain ⟨ad163, e163, hx163_0⟩ := Kd.at_bool (Kd.R_reads' HO_9.out).2.2 x11_4 p163 q163
                                    (try rw [← Nbq50.out] at hx163_0)
                                    cases e163
                                    replace p163 := eq_true p163
                                    replace q163 := eq_true q163
                                    go_wp2
                                    go_roundg k4
                                    case measure => have := HJ2.out; have := HK2.out; have := HK3.out; have := HK4.out; omega
                                    case rel => exact ⟨(x10_4), (wrap64 (x11_4 - 1)), (by first | rfl | (simp; done) | (simp [*]; done)), (by first | rfl | (simp; done) | (simp [*]; done)), H', ⟨by have := HJ2.out; have := HK2.out; have := HK3.out; have := HK4.out; omega⟩, ⟨by (with_reducible repeat (first | apply Kd.R_alloc | apply Kd.R_drewN | apply Kd.R_drew)); exact HO_8.out⟩, ⟨by (with_reducible repeat (first | apply Kd.R_alloc | apply Kd.R_drewN | apply Kd.R_drew)); exact HO_9.out⟩, ⟨by repeat (first | (with_reducible first | exact HB.out | apply below_alloc | apply pw_below_drewN | apply below_drew1) | exact HB.out)⟩⟩
                                  · replace c51 := Bool.eq_false_iff.mpr c51
                                    subst c51
                                    have H1 : (if x11_4 < (l0.length : Int) then (if ((rd_T52 l0 x11_4).f0) = 5 then (spec_EvaluationOrder.l2 k4 l0 x8_3 x9_3 x11_4 (wrap64 (x11_4 - 1))) else ((spec_l9Ready.f l0 x9_3 ((rd_T52 l0 x11_4).f1)).bind fun t166 => (if t166 = true then ((spec_l9Ready.f l0 x9_3 ((rd_T52 l0 x11_4).f2)).bind fun t168 => (if t168 = true then (spec_EvaluationOrder.l2 k4 l0 x8_3 x9_3 x11_4 (wrap64 (x11_4 - 1))) else (spec_EvaluationOrder.l2 k4 l0 x8_3 x9_3 x10_4 (wrap64 (x11_4 - 1))))) else (spec_EvaluationOrder.l2 k4 l0 x8_3 x9_3 x10_4 (wrap64 (x11_4 - 1)))))) else (none)) = some (r1, r2) := by rw [if_neg (show ¬ (false = true) by decide)] at H; exact H
                                    clear H
                                    have H := H1
                                    clear H1
                                    by_cases c53 : x11_4 < (l0.length : Int)
                                    · rw [if_pos c53] at H
                                      have c53b0 : decide (x11_4 < (l0.length : Int)) = true := decide_eq_true c53
                                      clear c53
                                      by_cases c54 : ((rd_T52 l0 x11_4).f0) = 5
                                      · rw [if_pos c54] at H
                                        have c54b0 : (((rd_T52 l0 x11_4).f0) == 5) = true := beq_iff_eq.mpr c54
                                        have c54b1 : (((rd_T52 l0 x11_4).f0) != 5) = false := bne_eq_false_iff_eq.mpr c54
                                        clear c54
                                        have H' := Aside0.mk H
                                        clear H
                                        obtain ⟨Ao55, co55, eo55⟩ := Kd.R_slice HO_9.out
                                        subst eo55
                                        have p163 : 0 ≤ (x11_4 : Int) := of_decide_eq_true (by first | (with_reducible assumption) | assumption)
                                        have q163 : x11_4 < (x9_3.length : Int) := of_decide_eq_true (by first | (with_reducible assumption) | assumption)
                                        obtain ⟨ad163, e163, hx163_0⟩ := Kd.at_bool (Kd.R_reads' HO_9.out).2.2 x11_4 p163 q163
                                        (try rw [← Nbq50.out] at hx163_0)
                                        cases e163
                                        replace p163 := eq_true p163
                                        replace q163 := eq_true q163
                                        have p164 : 0 ≤ (x11_4 : Int) := of_decide_eq_true (by first | (with_reducible assumption) | assumption)
                                        have q164 : x11_4 < (l0.length : Int) := of_decide_eq_true (by first | (with_reducible assumption) | assumption)
                                        obtain ⟨ad164, e164, hx164_0, hx164_1, hx164_2⟩ := at_T52 HR0.out x11_4 p164 q164
                                        cases e164
                                        replace hx164_0 := (HB.out.cell (World.block_lt_of_cell? w _ hx164_0)).trans hx164_0
                                        replace hx164_1 := (HB.out.cell (World.block_lt_of_cell? w _ hx164_1)).trans hx164_1
                                        replace hx164_2 := (HB.out.cell (World.block_lt_of_cell? w _ hx164_2)).trans hx164_2
                                        replace p164 := eq_true p164
                                        replace q164 := eq_true q164
                                        go_wp2
                                        go_roundg k4
                                        case measure => have := HJ2.out; have := HK2.out; have := HK3.out; have := HK4.out; omega
                                        case rel => exact ⟨(x11_4), (wrap64 (x11_4 - 1)), (by first | rfl | (simp; done) | (simp [*]; done)), (by first | rfl | (simp; done) | (simp [*]; done)), H', ⟨by have := HJ2.out; have := HK2.out; have := HK3.out; have := HK4.out; omega⟩, ⟨by (with_reducible repeat (first | apply Kd.R_alloc | apply Kd.R_drewN | apply Kd.R_drew)); exact HO_8.out⟩, ⟨by (with_reducible repeat (first | apply Kd.R_alloc | apply Kd.R_drewN | apply Kd.R_drew)); exact HO_9.out⟩, ⟨by repeat (first | (with_reducible first | exact HB.out | apply below_alloc | apply pw_below_drewN | apply below_drew1) | exact HB.out)⟩⟩
                                      · rw [if_neg c54] at H
                                        have c54b0 : (((rd_T52 l0 x11_4).f0) == 5) = false := beq_eq_false_iff_ne.mpr c54
                                        have c54b1 : (((rd_T52 l0 x11_4).f0) != 5) = true := bne_iff_ne.mpr c54
                                        replace H := Option.bind_eq_some_iff.mp H
                                        obtain ⟨t166, A560, H⟩ := H
                                        replace H : (if t166 = true then ((spec_l9Ready.f l0 x9_3 ((rd_T52 l0 x11_4).f2)).bind fun t168 => (if t168 = true then (spec_EvaluationOrder.l2 k4 l0 x8_3 x9_3 x11_4 (wrap64 (x11_4 - 1))) else (spec_EvaluationOrder.l2 k4 l0 x8_3 x9_3 x10_4 (wrap64 (x11_4 - 1))))) else (spec_EvaluationOrder.l2 k4 l0 x8_3 x9_3 x10_4 (wrap64 (x11_4 - 1)))) = some (r1, r2) := H
                                        have A56 := Aside0.mk A560
                                        clear A560
                                        by_cases c57 : t166 = true
                                        · subst c57
                                          have H1 : ((spec_l9Ready.f l0 x9_3 ((rd_T52 l0 x11_4).f2)).bind fun t168 => (if t168 = true then (spec_EvaluationOrder.l2 k4 l0 x8_3 x9_3 x11_4 (wrap64 (x11_4 - 1))) else (spec_EvaluationOrder.l2 k4 l0 x8_3 x9_3 x10_4 (wrap64 (x11_4 - 1))))) = some (r1, r2) := by rw [if_pos rfl] at H; exact H
                                          clear H
                                          have H := H1
                                          clear H1
                                          replace H := Option.bind_eq_some_iff.mp H
                                          obtain ⟨t168, A580, H⟩ := H
                                          replace H : (if t168 = true then (spec_EvaluationOrder.l2 k4 l0 x8_3 x9_3 x11_4 (wrap64 (x11_4 - 1))) else (spec_EvaluationOrder.l2 k4 l0 x8_3 x9_3 x10_4 (wrap64 (x11_4 - 1)))) = some (r1, r2) := H
                                          have A58 := Aside0.mk A580
                                          clear A580
                                          by_cases c59 : t168 = true
                                          · subst c59
                                            have H1 : (spec_EvaluationOrder.l2 k4 l0 x8_3 x9_3 x11_4 (wrap64 (x11_4 - 1))) = some (r1, r2) := by rw [if_pos rfl] at H; exact H
                                            clear H
                                            have H := H1
                                            clear H1
                                            have H' := Aside0.mk H
                                            clear H
                                            obtain ⟨Ao60, co60, eo60⟩ := Kd.R_slice HO_9.out
                                            subst eo60
                                            have p163 : 0 ≤ (x11_4 : Int) := of_decide_eq_true (by first | (with_reducible assumption) | assumption)
                                            have q163 : x11_4 < (x9_3.length : Int) := of_decide_eq_true (by first | (with_reducible assumption) | assumption)
                                            obtain ⟨ad163, e163, hx163_0⟩ := Kd.at_bool (Kd.R_reads' HO_9.out).2.2 x11_4 p163 q163
                                            (try rw [← Nbq50.out] at hx163_0)
                                            cases e163
                                            replace p163 := eq_true p163
                                            replace q163 := eq_true q163
                                            have p164 : 0 ≤ (x11_4 : Int) := of_decide_eq_true (by first | (with_reducible assumption) | assumption)
                                            have q164 : x11_4 < (l0.length : Int) := of_decide_eq_true (by first | (with_reducible assumption) | assumption)
                                            obtain ⟨ad164, e164, hx164_0, hx164_1, hx164_2⟩ := at_T52 HR0.out x11_4 p164 q164
                                            cases e164
                                            replace hx164_0 := (HB.out.cell (World.block_lt_of_cell? w _ hx164_0)).trans hx164_0
                                            replace hx164_1 := (HB.out.cell (World.block_lt_of_cell? w _ hx164_1)).trans hx164_1
                                            replace hx164_2 := (HB.out.cell (World.block_lt_of_cell? w _ hx164_2)).trans hx164_2
                                            replace p164 := eq_true p164
                                            replace q164 := eq_true q164
                                            have p165 : 0 ≤ (x11_4 : Int) := of_decide_eq_true (by first | (with_reducible assumption) | assumption)
                                            have q165 : x11_4 < (l0.length : Int) := of_decide_eq_true (by first | (with_reducible assumption) | assumption)
                                            obtain ⟨ad165, e165, hx165_0, hx165_1, hx165_2⟩ := at_T52 HR0.out x11_4 p165 q165
                                            obtain rfl : ad164 = ad165 := (by injection e165)
                                            replace hx165_0 := (HB.out.cell (World.block_lt_of_cell? w _ hx165_0)).trans hx165_0
                                            replace hx165_1 := (HB.out.cell (World.block_lt_of_cell? w _ hx165_1)).trans hx165_1
                                            replace hx165_2 := (HB.out.cell (World.block_lt_of_cell? w _ hx165_2)).trans hx165_2
                                            replace p165 := eq_true p165
                                            replace q165 := eq_true q165
                                            go_wp2_with (first | (go_at_call 44; (with_reducible refine (spec_l9Ready.calls _ _ l0 _ _ x9_3 ((rd_T52 l0 x11_4).f1) true _ ?side1 ?side2 ?side3 ?side4 A56.out).mono ?_); (case side1 => repeat (first | exact (Kd.C_below HR0.out HB.out) | (with_reducible refine Kd.C_alloc ?_ _) | (with_reducible refine Kd.C_drewN ?_ _) | (with_reducible refine Kd.C_drew ?_))); (case side2 => exact HC0.out); (case side3 => repeat (first | exact (Kd.R_reads' HO_9.out).2.2 | (with_reducible refine Kd.C_alloc ?_ _) | (with_reducible refine Kd.C_drewN ?_ _) | (with_reducible refine Kd.C_drew ?_))); (case side4 => exact (Kd.R_reads' HO_9.out).2.1); rintro e w' ⟨rfl, ⟨nd, rfl⟩⟩; have p167 : 0 ≤ (x11_4 : Int) := of_decide_eq_true (by first | (with_reducible assumption) | assumption); have q167 : x11_4 < (l0.length : Int) := of_decide_eq_true (by first | (with_reducible assumption) | assumption); obtain ⟨ad167, e167, hx167_0, hx167_1, hx167_2⟩ := at_T52 HR0.out x11_4 p167 q167; obtain rfl : ad164 = ad167 := (by injection e167); replace hx167_0 := (HB.out.cell (World.block_lt_of_cell? w _ hx167_0)).trans hx167_0; replace hx167_1 := (HB.out.cell (World.block_lt_of_cell? w _ hx167_1)).trans hx167_1; replace hx167_2 := (HB.out.cell (World.block_lt_of_cell? w _ hx167_2)).trans hx167_2; replace p167 := eq_true p167; replace q167 := eq_true q167) | (go_at_call 44; (with_reducible refine (spec_l9Ready.calls _ _ l0 _ _ x9_3 ((rd_T52 l0 x11_4).f2) true _ ?side1 ?side2 ?side3 ?side4 A58.out).mono ?_); (case side1 => repeat (first | exact (Kd.C_below HR0.out (by repeat (first | (with_reducible first | exact HB.out | apply below_alloc | apply pw_below_drewN | apply below_drew1) | exact HB.out))) | (with_reducible refine Kd.C_alloc ?_ _) | (with_reducible refine Kd.C_drewN ?_ _) | (with_reducible refine Kd.C_drew ?_))); (case side2 => exact HC0.out); (case side3 => repeat (first | exact (Kd.R_reads' HO_9.out).2.2 | (with_reducible refine Kd.C_alloc ?_ _) | (with_reducible refine Kd.C_drewN ?_ _) | (with_reducible refine Kd.C_drew ?_))); (case side4 => exact (Kd.R_reads' HO_9.out).2.1); rintro e w' ⟨rfl, ⟨nd, rfl⟩⟩))
                                            go_roundg k4
                                            case measure => have := HJ2.out; have := HK2.out; have := HK3.out; have := HK4.out; omega
                                            case rel => exact ⟨(x11_4), (wrap64 (x11_4 - 1)), (by first | rfl | (simp; done) | (simp [*]; done)), (by first | rfl | (simp; done) | (simp [*]; done)), H', ⟨by have := HJ2.out; have := HK2.out; have := HK3.out; have := HK4.out; omega⟩, ⟨by (with_reducible repeat (first | apply Kd.R_alloc | apply Kd.R_drewN | apply Kd.R_drew)); exact HO_8.out⟩, ⟨by (with_reducible repeat (first | apply Kd.R_alloc | apply Kd.R_drewN | apply Kd.R_drew)); exact HO_9.out⟩, ⟨by repeat (first | (with_reducible first | exact HB.out | apply below_alloc | apply pw_below_drewN | apply below_drew1) | exact HB.out)⟩⟩
                                          · replace c59 := Bool.eq_false_iff.mpr c59
                                            subst c59
                                            have H1 : (spec_EvaluationOrder.l2 k4 l0 x8_3 x9_3 x10_4 (wrap64 (x11_4 - 1))) = some (r1, r2) := by rw [if_neg (show ¬ (false = true) by decide)] at H; exact H
                                            clear H
                                            have H := H1
                                            clear H1
                                            have H' := Aside0.mk H
                                            clear H
                                            obtain ⟨Ao61, co61, eo61⟩ := Kd.R_slice HO_9.out
                                            subst eo61
                                            have p163 : 0 ≤ (x11_4 : Int) := of_decide_eq_true (by first | (with_reducible assumption) | assumption)
                                            have q163 : x11_4 < (x9_3.length : Int) := of_decide_eq_true (by first | (with_reducible assumption) | assumption)
                                            obtain ⟨ad163, e163, hx163_0⟩ := Kd.at_bool (Kd.R_reads' HO_9.out).2.2 x11_4 p163 q163
                                            (try rw [← Nbq50.out] at hx163_0)
                                            cases e163
                                            replace p163 := eq_true p163
                                            replace q163 := eq_true q163
                                            have p164 : 0 ≤ (x11_4 : Int) := of_decide_eq_true (by first | (with_reducible assumption) | assumption)
                                            have q164 : x11_4 < (l0.length : Int) := of_decide_eq_true (by first | (with_reducible assumption) | assumption)
                                            obtain ⟨ad164, e164, hx164_0, hx164_1, hx164_2⟩ := at_T52 HR0.out x11_4 p164 q164
                                            cases e164
                                            replace hx164_0 := (HB.out.cell (World.block_lt_of_cell? w _ hx164_0)).trans hx164_0
                                            replace hx164_1 := (HB.out.cell (World.block_lt_of_cell? w _ hx164_1)).trans hx164_1
                                            replace hx164_2 := (HB.out.cell (World.block_lt_of_cell? w _ hx164_2)).trans hx164_2
                                            replace p164 := eq_true p164
                                            replace q164 := eq_true q164
                                            have p165 : 0 ≤ (x11_4 : Int) := of_decide_eq_true (by first | (with_reducible assumption) | assumption)
                                            have q165 : x11_4 < (l0.length : Int) := of_decide_eq_true (by first | (with_reducible assumption) | assumption)
                                            obtain ⟨ad165, e165, hx165_0, hx165_1, hx165_2⟩ := at_T52 HR0.out x11_4 p165 q165
                                            obtain rfl : ad164 = ad165 := (by injection e165)
                                            replace hx165_0 := (HB.out.cell (World.block_lt_of_cell? w _ hx165_0)).trans hx165_0
                                            replace hx165_1 := (HB.out.cell (World.block_lt_of_cell? w _ hx165_1)).trans hx165_1
                                            replace hx165_2 := (HB.out.cell (World.block_lt_of_cell? w _ hx165_2)).trans hx165_2
                                            replace p165 := eq_true p165
                                            replace q165 := eq_true q165
                                            go_wp2_with (first | (go_at_call 44; (with_reducible refine (spec_l9Ready.calls _ _ l0 _ _ x9_3 ((rd_T52 l0 x11_4).f1) true _ ?side1 ?side2 ?side3 ?side4 A56.out).mono ?_); (case side1 => repeat (first | exact (Kd.C_below HR0.out HB.out) | (with_reducible refine Kd.C_alloc ?_ _) | (with_reducible refine Kd.C_drewN ?_ _) | (with_reducible refine Kd.C_drew ?_))); (case side2 => exact HC0.out); (case side3 => repeat (first | exact (Kd.R_reads' HO_9.out).2.2 | (with_reducible refine Kd.C_alloc ?_ _) | (with_reducible refine Kd.C_drewN ?_ _) | (with_reducible refine Kd.C_drew ?_))); (case side4 => exact (Kd.R_reads' HO_9.out).2.1); rintro e w' ⟨rfl, ⟨nd, rfl⟩⟩; have p167 : 0 ≤ (x11_4 : Int) := of_decide_eq_true (by first | (with_reducible assumption) | assumption); have q167 : x11_4 < (l0.length : Int) := of_decide_eq_true (by first | (with_reducible assumption) | assumption); obtain ⟨ad167, e167, hx167_0, hx167_1, hx167_2⟩ := at_T52 HR0.out x11_4 p167 q167; obtain rfl : ad164 = ad167 := (by injection e167); replace hx167_0 := (HB.out.cell (World.block_lt_of_cell? w _ hx167_0)).trans hx167_0; replace hx167_1 := (HB.out.cell (World.block_lt_of_cell? w _ hx167_1)).trans hx167_1; replace hx167_2 := (HB.out.cell (World.block_lt_of_cell? w _ hx167_2)).trans hx167_2; replace p167 := eq_true p167; replace q167 := eq_true q167) | (go_at_call 44; (with_reducible refine (spec_l9Ready.calls _ _ l0 _ _ x9_3 ((rd_T52 l0 x11_4).f2) false _ ?side1 ?side2 ?side3 ?side4 A58.out).mono ?_); (case side1 => repeat (first | exact (Kd.C_below HR0.out (by repeat (first | (with_reducible first | exact HB.out | apply below_alloc | apply pw_below_drewN | apply below_drew1) | exact HB.out))) | (with_reducible refine Kd.C_alloc ?_ _) | (with_reducible refine Kd.C_drewN ?_ _) | (with_reducible refine Kd.C_drew ?_))); (case side2 => exact HC0.out); (case side3 => repeat (first | exact (Kd.R_reads' HO_9.out).2.2 | (with_reducible refine Kd.C_alloc ?_ _) | (with_reducible refine Kd.C_drewN ?_ _) | (with_reducible refine Kd.C_drew ?_))); (case side4 => exact (Kd.R_reads' HO_9.out).2.1); rintro e w' ⟨rfl, ⟨nd, rfl⟩⟩))
                                            go_roundg k4
                                            case measure => have := HJ2.out; have := HK2.out; have := HK3.out; have := HK4.out; omega
                                            case rel => exact ⟨(x10_4), (wrap64 (x11_4 - 1)), (by first | rfl | (simp; done) | (simp [*]; done)), (by first | rfl | (simp; done) | (simp [*]; done)), H', ⟨by have := HJ2.out; have := HK2.out; have := HK3.out; have := HK4.out; omega⟩, ⟨by (with_reducible repeat (first | apply Kd.R_alloc | apply Kd.R_drewN | apply Kd.R_drew)); exact HO_8.out⟩, ⟨by (with_reducible repeat (first | apply Kd.R_alloc | apply Kd.R_drewN | apply Kd.R_drew)); exact HO_9.out⟩, ⟨by repeat (first | (with_reducible first | exact HB.out | apply below_alloc | apply pw_below_drewN | apply below_drew1) | exact HB.out)⟩⟩
                                        · replace c57 := Bool.eq_false_iff.mpr c57
                                          subst c57
                                          have H1 : (spec_EvaluationOrder.l2 k4 l0 x8_3 x9_3 x10_4 (wrap64 (x11_4 - 1))) = some (r1, r2) := by rw [if_neg (show ¬ (false = true) by decide)] at H; exact H
                                          clear H
                                          have H := H1
                                          clear H1
                                          have H' := Aside0.mk H
                                          clear H
                                          obtain ⟨Ao62, co62, eo62⟩ := Kd.R_slice HO_9.out
                                          subst eo62
                                          have p163 : 0 ≤ (x11_4 : Int) := of_decide_eq_true (by first | (with_reducible assumption) | assumption)
                                          have q163 : x11_4 < (x9_3.length : Int) := of_decide_eq_true (by first | (with_reducible assumption) | assumption)
                                          obtain ⟨ad163, e163, hx163_0⟩ := Kd.at_bool (Kd.R_reads' HO_9.out).2.2 x11_4 p163 q163
                                          (try rw [← Nbq50.out] at hx163_0)
                                          cases e163
                                          replace p163 := eq_true p163
                                          replace q163 := eq_true q163
                                          have p164 : 0 ≤ (x11_4 : Int) := of_decide_eq_true (by first | (with_reducible assumption) | assumption)
                                          have q164 : x11_4 < (l0.length : Int) := of_decide_eq_true (by first | (with_reducible assumption) | assumption)
                                          obtain ⟨ad164, e164, hx164_0, hx164_1, hx164_2⟩ := at_T52 HR0.out x11_4 p164 q164
                                          cases e164
                                          replace hx164_0 := (HB.out.cell (World.block_lt_of_cell? w _ hx164_0)).trans hx164_0
                                          replace hx164_1 := (HB.out.cell (World.block_lt_of_cell? w _ hx164_1)).trans hx164_1
                                          replace hx164_2 := (HB.out.cell (World.block_lt_of_cell? w _ hx164_2)).trans hx164_2
                                          replace p164 := eq_true p164
                                          replace q164 := eq_true q164
                                          have p165 : 0 ≤ (x11_4 : Int) := of_decide_eq_true (by first | (with_reducible assumption) | assumption)
                                          have q165 : x11_4 < (l0.length : Int) := of_decide_eq_true (by first | (with_reducible assumption) | assumption)
                                          obtain ⟨ad165, e165, hx165_0, hx165_1, hx165_2⟩ := at_T52 HR0.out x11_4 p165 q165
                                          obtain rfl : ad164 = ad165 := (by injection e165)
                                          replace hx165_0 := (HB.out.cell (World.block_lt_of_cell? w _ hx165_0)).trans hx165_0
                                          replace hx165_1 := (HB.out.cell (World.block_lt_of_cell? w _ hx165_1)).trans hx165_1
                                          replace hx165_2 := (HB.out.cell (World.block_lt_of_cell? w _ hx165_2)).trans hx165_2
                                          replace p165 := eq_true p165
                                          replace q165 := eq_true q165
                                          go_wp2_with (first | (go_at_call 44; (with_reducible refine (spec_l9Ready.calls _ _ l0 _ _ x9_3 ((rd_T52 l0 x11_4).f1) false _ ?side1 ?side2 ?side3 ?side4 A56.out).mono ?_); (case side1 => repeat (first | exact (Kd.C_below HR0.out HB.out) | (with_reducible refine Kd.C_alloc ?_ _) | (with_reducible refine Kd.C_drewN ?_ _) | (with_reducible refine Kd.C_drew ?_))); (case side2 => exact HC0.out); (case side3 => repeat (first | exact (Kd.R_reads' HO_9.out).2.2 | (with_reducible refine Kd.C_alloc ?_ _) | (with_reducible refine Kd.C_drewN ?_ _) | (with_reducible refine Kd.C_drew ?_))); (case side4 => exact (Kd.R_reads' HO_9.out).2.1); rintro e w' ⟨rfl, ⟨nd, rfl⟩⟩))
                                          go_roundg k4
                                          case measure => have := HJ2.out; have := HK2.out; have := HK3.out; have := HK4.out; omega
                                          case rel => exact ⟨(x10_4), (wrap64 (x11_4 - 1)), (by first | rfl | (simp; done) | (simp [*]; done)), (by first | rfl | (simp; done) | (simp [*]; done)), H', ⟨by have := HJ2.out; have := HK2.out; have := HK3.out; have := HK4.out; omega⟩, ⟨by (with_reducible repeat (first | apply Kd.R_alloc | apply Kd.R_drewN | apply Kd.R_drew)); exact HO_8.out⟩, ⟨by (with_reducible repeat (first | apply Kd.R_alloc | apply Kd.R_drewN | apply Kd.R_drew)); exact HO_9.out⟩, ⟨by repeat (first | (with_reducible first | exact HB.out | apply below_alloc | apply pw_below_drewN | apply below_drew1) | exact HB.out)⟩⟩
                                    · rw [if_neg c53] at H
                                      exact absurd H (by simp)
                                · rw [if_neg c49] at H
                                  exact absurd H (by simp)
                              · rw [if_neg c48] at H
                                exact absurd H (by simp)
                            · rw [if_neg c47] at H
                              have c47b0 : decide (0 ≤ x11_4) = false := decide_eq_false c47
                              clear c47
                              by_cases c63 : x10_4 < 0
                              · rw [if_pos c63] at H
                                have c63b0 : decide (x10_4 < 0) = true := decide_eq_true c63
                                clear c63
                                obtain ⟨y156, hy156⟩ : ∃ y_ : List Int, y_ = (([] : List Int)) := ⟨_, rfl⟩
                                replace H : (some (y156, false)) = some (r1, r2) := by first | (rw [hy156]; with_reducible exact H) | (have H2_ := (Option.bind_some _ _).symm.trans H; rw [hy156]; with_reducible exact H2_) | (have H2_ := (Option.bind_some _ _).symm.trans H; with_reducible exact H2_) | with_reducible exact H | (rw [hy156]; exact H) | exact H
                                have Ny156 := Aside0.mk hy156
                                clear hy156
                                simp only [Option.some.injEq, Prod.mk.injEq] at H
                                obtain ⟨rfl, rfl⟩ := H
                                go_wp2_with (first | ((with_reducible refine gate_dst (N := 121) rfl ?_); (try (refine gate_guard (by rfl) ?_; dsimp only)); refine Kd.R_lit (Kd.int .i64) _ 3 ?hg (N := 121) ?hd (xs := ([] : List Int)) (inner := []) (ok := fun _ => True) (okp := fun _ => True) ?hr ?hp (fun _ hk => hk) trivial (Below.refl _ _) (Nat.le_refl _) (by simp) ?_; (case hd => rfl); (case hg => rfl); (case hr => first | (go_simp; done) | (go_simp; rfl)); (case hp => exact (Reps.none _ _)); intro v157 w64 ho65 hb hg_ hnew_; clear hg_ hnew_; (first | rw [← Ny156.out] at ho65 | (simp only [Int.reduceToNat] at ho65; rw [← Ny156.out] at ho65)); have n0_ := Aside0.mk (Kd.R_elder' (by (with_reducible repeat (first | apply Kd.R_alloc | apply Kd.R_drewN | apply Kd.R_drew)); exact HO_8.out) (Kd.R_base ho65) hb); have n1_ := Aside0.mk (Kd.R_below (by (with_reducible repeat (first | apply Kd.R_alloc | apply Kd.R_drewN | apply Kd.R_drew)); exact HO_9.out) hb); have n2_ := Aside0.mk (Kd.R_lower (Kd.R_new' ho65 (Kd.R_lt (by (with_reducible repeat (first | apply Kd.R_alloc | apply Kd.R_drewN | apply Kd.R_drew)); exact HO_8.out))) (below_size (by repeat (first | (with_reducible first | exact HB.out | apply below_alloc | apply pw_below_drewN | apply below_drew1) | exact HB.out)))); have n3_ := Aside0.mk (below_step (by repeat (first | (with_reducible first | exact HB.out | apply below_alloc | apply pw_below_drewN | apply below_drew1) | exact HB.out)) hb); clear HO_8; clear HO_9; clear HB; have HO_8 := n0_; have HO_9 := n1_; have HO158 := n2_; have HB := n3_; clear n0_ n1_ n2_ n3_; clear hb ho65))
                                go_ret2
                                exact ⟨_, by first | rfl | (simp [errW_none, errW_some] <;> rfl) | (simp [*, errW_none, errW_some] <;> rfl), by (with_reducible repeat (first | apply Kd.R_alloc | apply Kd.R_drewN | apply Kd.R_drew)); exact Kd.R_mono HO158.out (fun _ hk => trivial), by repeat (first | (with_reducible first | exact HB.out | apply below_alloc | apply pw_below_drewN | apply below_drew1) | exact HB.out)⟩
                              · rw [if_neg c63] at H
                                have c63b0 : decide (x10_4 < 0) = false := decide_eq_false c63
                                clear c63
                                by_cases c66 : 0 ≤ x10_4
                                · rw [if_pos c66] at H
                                  have c66b0 : decide (0 ≤ x10_4) = true := decide_eq_true c66
                                  clear c66
                                  by_cases c67 : x10_4 < (x9_3.length : Int)
                                  · rw [if_pos c67] at H
                                    have c67b0 : decide (x10_4 < (x9_3.length : Int)) = true := decide_eq_true c67
                                    clear c67
                                    obtain ⟨y159, hy159⟩ : ∃ y_ : List Bool, y_ = (x9_3.set (x10_4 : Int).toNat true) := ⟨_, rfl⟩
                                    replace H : (if x8_3.length < 17592186044416 then (spec_EvaluationOrder.l1 k4 l0 (x8_3 ++ [x10_4]) y159) else (none)) = some (r1, r2) := by first | (rw [hy159]; with_reducible exact H) | (have H2_ := (Option.bind_some _ _).symm.trans H; rw [hy159]; with_reducible exact H2_) | (have H2_ := (Option.bind_some _ _).symm.trans H; with_reducible exact H2_) | with_reducible exact H | (rw [hy159]; exact H) | exact H
                                    have Ny159 := Aside0.mk hy159
                                    clear hy159
                                    by_cases c69 : x8_3.length < 17592186044416
                                    · rw [if_pos c69] at H
                                      have LMc69 := Aside0.mk c69
                                      clear c69
                                      obtain ⟨y160, hy160⟩ : ∃ y_ : List Int, y_ = (x8_3 ++ [x10_4]) := ⟨_, rfl⟩
                                      replace H : (spec_EvaluationOrder.l1 k4 l0 y160 y159) = some (r1, r2) := by first | (rw [hy160]; with_reducible exact H) | (have H2_ := (Option.bind_some _ _).symm.trans H; rw [hy160]; with_reducible exact H2_) | (have H2_ := (Option.bind_some _ _).symm.trans H; with_reducible exact H2_) | with_reducible exact H | (rw [hy160]; exact H) | exact H
                                      have Ny160 := Aside0.mk hy160
                                      clear hy160
                                      have H' := Aside0.mk H
                                      clear H
                                      have p68 : 0 ≤ (x10_4 : Int) := of_decide_eq_true (by first | (with_reducible assumption) | assumption)
                                      have q68 : (x10_4 : Int) < ((x9_3.length : Int) : Int) := of_decide_eq_true (by first | (with_reducible assumption) | assumption)
                                      obtain ⟨go68, co68, eo68, gb68, gl68, cl68, HG68⟩ := Kd.R_form HO_9.out (by omega)
                                      (first | cases eo68 | (injection eo68 with ea_ en_ ec_; (first | subst ea_ | (injection ea_ with ea_; subst ea_)); subst ec_; clear en_))
                                      have GB68 := Aside0.mk gb68
                                      have GG68 := Aside0.mk HG68
                                      clear gb68 gl68 HG68
                                      obtain ⟨hx68_0, hf68_0⟩ := Kd.R_celln false HO_9.out (x10_4 : Int) p68 q68
                                      replace p68 := eq_true p68
                                      replace q68 := eq_true q68
                                      have HP70 := Kd.R_putg HO_9.out (x10_4 : Int) true
                                      go_wp2_with (first | ((with_reducible refine gate_store (t := 4) (p := 124) rfl ?_); refine store_event (t := 4) (p := 124) (v := ?vo_w71) (w1 := (wr.setCell ⟨go68, (x10_4 : Int).toNat, none⟩ (.bool true))) ?hg ?ho ?hn ?hr ?_; (case ho => rfl); (case hg => rfl); (case hn => rfl); (case hr => first | (go_simp; done) | (go_simp; rfl)); intro w71 hw; have hg : wr.grownBy w71 (some go68) := (by rw [hw]; exact HP70.2); have hp_ : Kd.R Kd.bool 4 w71 w.heap.size (fun _ => True) (.slice (some ⟨go68, 0, none⟩) x9_3.length co68) y159 := (by rw [hw, Ny159.out]; exact HP70.1); clear HP70; have n0_ := Aside0.mk (Kd.R_over' (v := (.slice (some ⟨go68, 0, none⟩) x9_3.length co68)) (by (with_reducible repeat (first | apply Kd.R_alloc | apply Kd.R_drewN | apply Kd.R_drew)); exact HO_8.out) (Kd.R_typed HO_9.out) (by decide) hg); have n1_ := Aside0.mk (hp_); have n2_ := Aside0.mk ((by rw [hw]; exact below_set (HB.out) GB68.out : Below w.heap.size w w71)); clear HO_8; clear HO_9; clear HB; have HO_8 := n0_; have HO_9 := n1_; have HB := n2_; clear n0_ n1_ n2_; clear hg hw hp_) | ((with_reducible refine gate_builtin (b := .append) (xs := #[.tmp 125, .tmp 127]) rfl ?_); (try (refine gate_guard (by rfl) ?_; dsimp only)); at_builtin; refine Kd.R_append (Kd.int .i64) (w0 := w) w.heap.size rfl (.tmp 125) (.tmp 127) 22 3 (.int .i64 0) 8 rfl Try.underlying22 info3 rfl (by decide) (by omega) (.slice Ao46 x8_3.length co46) x8_3 x10_4 [.int .i64 x10_4] (fun _ => True) (fun _ => False) rfl rfl ?aP (fun _ hk => hk.elim) ?aF ?aO ?aB ?aS ?aL ?_; (case aP => exact rfl); (case aB => exact (by repeat (first | (with_reducible first | exact HB.out | apply below_alloc | apply pw_below_drewN | apply below_drew1) | exact HB.out))); (case aF => exact (fun _ _ => trivial)); (case aO => exact (by (with_reducible repeat (first | apply Kd.R_alloc | apply Kd.R_drewN | apply Kd.R_drew)); exact HO_8.out)); (case aS => exact (below_size (by repeat (first | (with_reducible first | exact HB.out | apply below_alloc | apply pw_below_drewN | apply below_drew1) | exact HB.out)))); (case aL => have := LMc69.out; omega); intro v161 w72 ho hb hg hat; rw [← Ny160.out] at ho; have n0_ := Aside0.mk (Kd.R_over' (by (with_reducible repeat (first | apply Kd.R_alloc | apply Kd.R_drewN | apply Kd.R_drew)); exact HO_9.out) (Kd.R_typed (by (with_reducible repeat (first | apply Kd.R_alloc | apply Kd.R_drewN | apply Kd.R_drew)); exact HO_8.out)) (by decide) hg); have n1_ := Aside0.mk (hb); have n2_ := Aside0.mk (ho); clear HO_9; clear HB; clear HO_8; have HO_9 := n0_; have HB := n1_; have HO162 := n2_; clear n0_ n1_ n2_; clear ho hb hg hat))
                                      go_roundg k4
                                      case measure => have := HJ2.out; have := HK2.out; have := HK3.out; have := HK4.out; omega
                                      case rel => exact ⟨(y160), (y159), H', ⟨by have := HJ2.out; have := HK2.out; have := HK3.out; have := HK4.out; omega⟩, ⟨by (with_reducible repeat (first | apply Kd.R_alloc | apply Kd.R_drewN | apply Kd.R_drew)); exact HO162.out⟩, ⟨by (with_reducible repeat (first | apply Kd.R_alloc | apply Kd.R_drewN | apply Kd.R_drew)); exact HO_9.out⟩, ⟨by repeat (first | (with_reducible first | exact HB.out | apply below_alloc | apply pw_below_drewN | apply below_drew1) | exact HB.out)⟩⟩
                                    · rw [if_neg c69] at H
                                      exact absurd H (by simp)
                                  · rw [if_neg c67] at H
                                    exact absurd H (by simp)
                                · rw [if_neg c66] at H
                                  exact absurd H (by simp)
                      · rw [if_neg c45] at H
                        have c45b0 : decide ((x8_3.length : Int) < (l0.length : Int)) = false := decide_eq_false c45
                        have c45b1 : decide (x8_3.length < l0.length) = false := decide_eq_false (fun h => c45 (Int.ofNat_lt.mpr h))
                        clear c45
                        simp only [Option.some.injEq, Prod.mk.injEq] at H
                        obtain ⟨rfl, rfl⟩ := H
                        obtain ⟨Ao73, co73, eo73⟩ := Kd.R_slice HO_8.out
                        subst eo73
                        go_wp2
                        go_ret2
                        exact ⟨_, by first | rfl | (simp [errW_none, errW_some] <;> rfl) | (simp [*, errW_none, errW_some] <;> rfl), by (with_reducible repeat (first | apply Kd.R_alloc | apply Kd.R_drewN | apply Kd.R_drew)); exact HO_8.out, by repeat (first | (with_reducible first | exact HB.out | apply below_alloc | apply pw_below_drewN | apply below_drew1) | exact HB.out)⟩
                · rw [if_neg c40] at H
                  exact absurd H (by simp)
              · rw [if_neg c39] at H
                exact absurd H (by simp)

end Go.Proofs.Ytpefkclpnkefnaa.GFnExactRunDiagram

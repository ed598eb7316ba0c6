/- Functions of the program as Lean functions, with proofs that the machine comes to their answers; written by this session's program mkprint.py; no condition beyond each theorem's own. -/
import Derived.Test.YtflemeaaiokjmaaGFnTimerOffx0
import Derived.Test.YtflemeaaiokjmaaGFnTimerOffx1
namespace Go.Proofs.Ytflemeaaiokjmaa.GFnTimerOff
open Go.RowKit Go.Proofs.YtflemeaaiokjmaaV.PrintWords Go.Proofs.YtflemeaaiokjmaaV.PrintLast Go.Proofs.YtflemeaaiokjmaaV.PrintMore
attribute [local go_sem] max2_int min2_int max_two min_two max_three min_three max_four min_four   -- for this text's walks alone
set_option linter.unusedVariables false
set_option linter.unusedSimpArgs false

/-! ### spec_TimerTrace: function 48 -/
mutual
def spec_TimerTrace.j0 : Nat → List Bool → Int → List Bool → Bool → Int → Int → Int → Bool → Bool → Option (List Bool)
  | 0, _, _, _, _, _, _, _, _, _ => none
  | k + 1, x1, x2, x7, x22, x118000, x118001, x118002, x118003, x118004 => if x22 = true then (some x7) else (spec_TimerTrace.l0 k x1 x2 x7 0 x118000 x118001 x118002 x118003 x118004)
def spec_TimerTrace.l0 : Nat → List Bool → Int → List Bool → Int → Int → Int → Int → Bool → Bool → Option (List Bool)
  | 0, _, _, _, _, _, _, _, _, _ => none
  | k + 1, x1, x2, x7, x8, x118000, x118001, x118002, x118003, x118004 => if x8 < (x1.length : Int) then (if 0 ≤ x8 then ((spec_l5Step.f x118000 x118001 x118002 x118003 x118004 (rdOf false x1 x8) x2).bind fun bt124 => (if x7.length < 140737488355328 then (spec_TimerTrace.l0 k x1 x2 (x7 ++ [bt124.2.2.2.2]) (wrap64 (x8 + 1)) bt124.1 bt124.2.1 bt124.2.2.1 bt124.2.2.2.1 bt124.2.2.2.2) else (none))) else (none)) else (some x7)
end
def spec_TimerTrace.f (k : Nat) (a0_0 : Int) (a0_1 : Int) (a0_2 : Int) (a0_3 : Bool) (a0_4 : Bool) (l1 : List Bool) (a2 : Int) : Option (List Bool) := (some (([] : List Bool) : List Bool)).bind fun y118 => ((spec_TimerValid.f a0_0 a0_1 a0_2 a0_3 a0_4).bind fun t121 => (if t121 = true then ((spec_l1In.f a2 0 1000).bind fun t122 => (if t122 = true then (spec_TimerTrace.j0 k l1 a2 y118 (decide ((l1.length : Int) > 200)) a0_0 a0_1 a0_2 a0_3 a0_4) else (spec_TimerTrace.j0 k l1 a2 y118 true a0_0 a0_1 a0_2 a0_3 a0_4))) else (spec_TimerTrace.j0 k l1 a2 y118 true a0_0 a0_1 a0_2 a0_3 a0_4)))
theorem spec_TimerTrace.mono_l : ∀ k, (∀ y0 y1 y2 y3 y4 y5 y6 y7 y8, LeO (spec_TimerTrace.j0 k y0 y1 y2 y3 y4 y5 y6 y7 y8) (spec_TimerTrace.j0 (k + 1) y0 y1 y2 y3 y4 y5 y6 y7 y8)) ∧ (∀ y0 y1 y2 y3 y4 y5 y6 y7 y8, LeO (spec_TimerTrace.l0 k y0 y1 y2 y3 y4 y5 y6 y7 y8) (spec_TimerTrace.l0 (k + 1) y0 y1 y2 y3 y4 y5 y6 y7 y8))
  | 0 => ⟨fun _ _ _ _ _ _ _ _ _ r h => by simp [spec_TimerTrace.j0] at h, fun _ _ _ _ _ _ _ _ _ r h => by simp [spec_TimerTrace.l0] at h⟩
  | k + 1 => by
    obtain ⟨ih0, ih1⟩ := spec_TimerTrace.mono_l k
    refine ⟨?_, ?_⟩
    · intro y0 y1 y2 y3 y4 y5 y6 y7 y8
      unfold spec_TimerTrace.j0
      repeat' first
      | (with_reducible exact ih0 _ _ _ _ _ _ _ _ _)
      | (with_reducible exact ih1 _ _ _ _ _ _ _ _ _)
      | (with_reducible exact LeO.refl _)
      | (with_reducible exact LeO.none _)
      | (with_reducible refine LeO.ite ?_ ?_)
      | (with_reducible refine LeO.bind ?_ (fun _ => ?_))
      | exact ih0 _ _ _ _ _ _ _ _ _
      | exact ih1 _ _ _ _ _ _ _ _ _
      | exact LeO.none _
      | refine LeO.ite ?_ ?_
      | refine LeO.bind ?_ (fun _ => ?_)
    · intro y0 y1 y2 y3 y4 y5 y6 y7 y8
      unfold spec_TimerTrace.l0
      repeat' first
      | (with_reducible exact ih0 _ _ _ _ _ _ _ _ _)
      | (with_reducible exact ih1 _ _ _ _ _ _ _ _ _)
      | (with_reducible exact LeO.refl _)
      | (with_reducible exact LeO.none _)
      | (with_reducible refine LeO.ite ?_ ?_)
      | (with_reducible refine LeO.bind ?_ (fun _ => ?_))
      | exact ih0 _ _ _ _ _ _ _ _ _
      | exact ih1 _ _ _ _ _ _ _ _ _
      | exact LeO.none _
      | refine LeO.ite ?_ ?_
      | refine LeO.bind ?_ (fun _ => ?_)
theorem spec_TimerTrace.mono : ∀ a0 a1 a2 a3 a4 a5 a6 k, LeO (spec_TimerTrace.f k a0 a1 a2 a3 a4 a5 a6) (spec_TimerTrace.f (k + 1) a0 a1 a2 a3 a4 a5 a6) := by
  intro a0 a1 a2 a3 a4 a5 a6 k
  obtain ⟨ih0, ih1⟩ := spec_TimerTrace.mono_l k
  unfold spec_TimerTrace.f
  repeat' first
      | (with_reducible exact ih0 _ _ _ _ _ _ _ _ _)
      | (with_reducible exact ih1 _ _ _ _ _ _ _ _ _)
      | (with_reducible exact LeO.refl _)
      | (with_reducible exact LeO.none _)
      | (with_reducible refine LeO.ite ?_ ?_)
      | (with_reducible refine LeO.bind ?_ (fun _ => ?_))
      | exact ih0 _ _ _ _ _ _ _ _ _
      | exact ih1 _ _ _ _ _ _ _ _ _
      | exact LeO.none _
      | refine LeO.ite ?_ ?_
      | refine LeO.bind ?_ (fun _ => ?_)
def spec_TimerTrace.T7 : Bool × List (List Nat × List Nat) := (true, [([], []), ([], []), ([], []), ([1, 2], [1, 2]), ([3], [3]), ([], []), ([0, 4, 5], [0, 4, 5]), ([6, 6, 0, 1, 2, 3, 4, 5, 6], [6])])
def spec_TimerTrace.B7 : List Nat := [0, 0, 0, 6, 14, 0, 63, 127]
theorem spec_TimerTrace.tab7 : rtab .any (opsOf Try.f48 7) = spec_TimerTrace.T7 := by kernel_rfl
theorem spec_TimerTrace.bits7 : waitsOk spec_TimerTrace.T7.2 spec_TimerTrace.B7 = true := by kernel_rfl
set_option maxHeartbeats 8000000 in
set_option maxRecDepth 100000 in
theorem spec_TimerTrace.calls (k : Nat) (a0_0 : Int) (a0_1 : Int) (a0_2 : Int) (a0_3 : Bool) (a0_4 : Bool) (A1 : Option Addr) (c1 : Nat) (l1 : List Bool) (a2 : Int) (r : List Bool) (w : World) (hr1 : Kd.C Kd.bool w A1 l1.length l1) (hc1 : l1.length ≤ c1) (h : spec_TimerTrace.f k a0_0 a0_1 a0_2 a0_3 a0_4 l1 a2 = some r) :
    Calls Try.prog 48 #[.agg #[.int .i64 a0_0, .int .i64 a0_1, .int .i64 a0_2, .bool a0_3, .bool a0_4], .slice A1 l1.length c1, .int .i64 a2] w fun e w' => ∃ v0_ : Value, e = .returned (v0_) ∧ Kd.R Kd.bool 4 w' w.heap.size (fun _ => True) v0_ r ∧ Below w.heap.size w w' := by
  have hu28 := Try.underlying28
  have HR1 := Aside0.mk hr1
  have HC1 := Aside0.mk hc1
  clear hr1 hc1
  have HB := Aside0.mk (Below.refl w.heap.size w)
  have H : ((some (([] : List Bool) : List Bool)).bind fun y118 => ((spec_TimerValid.f a0_0 a0_1 a0_2 a0_3 a0_4).bind fun t121 => (if t121 = true then ((spec_l1In.f a2 0 1000).bind fun t122 => (if t122 = true then (spec_TimerTrace.j0 k l1 a2 y118 (decide ((l1.length : Int) > 200)) a0_0 a0_1 a0_2 a0_3 a0_4) else (spec_TimerTrace.j0 k l1 a2 y118 true a0_0 a0_1 a0_2 a0_3 a0_4))) else (spec_TimerTrace.j0 k l1 a2 y118 true a0_0 a0_1 a0_2 a0_3 a0_4)))) = some r := h
  clear h
  obtain ⟨y118, hy118⟩ : ∃ y_ : List Bool, y_ = (([] : List Bool)) := ⟨_, rfl⟩
  replace H : ((spec_TimerValid.f a0_0 a0_1 a0_2 a0_3 a0_4).bind fun t121 => (if t121 = true then ((spec_l1In.f a2 0 1000).bind fun t122 => (if t122 = true then (spec_TimerTrace.j0 k l1 a2 y118 (decide ((l1.length : Int) > 200)) a0_0 a0_1 a0_2 a0_3 a0_4) else (spec_TimerTrace.j0 k l1 a2 y118 true a0_0 a0_1 a0_2 a0_3 a0_4))) else (spec_TimerTrace.j0 k l1 a2 y118 true a0_0 a0_1 a0_2 a0_3 a0_4))) = some r := by first | (rw [hy118]; with_reducible exact H) | (have H2_ := (Option.bind_some _ _).symm.trans H; rw [hy118]; with_reducible exact H2_) | (have H2_ := (Option.bind_some _ _).symm.trans H; with_reducible exact H2_) | with_reducible exact H | (rw [hy118]; exact H) | exact H
  have Ny118 := Aside0.mk hy118
  clear hy118
  have HC4 := Aside0.mk H
  clear H
  go_enter Try.func48, Try.ntmps48
  go_upto_region 2 with (first | ((with_reducible refine gate_dst (N := 3) rfl ?_); (try (refine gate_guard (by rfl) ?_; dsimp only)); refine box_event ?hg (N := 3) ?hd (cs := #[.int .i64 a0_0, .int .i64 a0_1, .int .i64 a0_2, .bool a0_3, .bool a0_4]) (t := 28) ?hr ?_; (case hd => rfl); (case hg => rfl); (case hr => first | (go_simp; done) | (go_simp; rfl)); intro gb117 hg w5 hbox hb; have n0_ := Aside0.mk (below_step (by repeat (first | (with_reducible first | exact HB.out | apply below_alloc | apply pw_below_drewN | apply below_drew1) | exact HB.out)) hb); have n1_ := Aside0.mk (hbox); have n2_ := Aside0.mk ((by rw [hg]; exact (below_size (by repeat (first | (with_reducible first | exact HB.out | apply below_alloc | apply pw_below_drewN | apply below_drew1) | exact HB.out))) : w.heap.size ≤ gb117)); have n3_ := Aside0.mk ((by rw [hg]; exact (below_size (by repeat (first | (with_reducible first | exact HB.out | apply below_alloc | apply pw_below_drewN | apply below_drew1) | exact HB.out))) : w.heap.size ≤ gb117)); clear HB; have HB := n0_; have BK117 := n1_; have GW117 := n2_; have GE117 := n3_; clear n0_ n1_ n2_ n3_; clear hb hbox hg) | ((with_reducible refine gate_dst (N := 9) rfl ?_); (try (refine gate_guard (by rfl) ?_; dsimp only)); refine Kd.R_lit Kd.bool _ 4 ?hg (N := 9) ?hd (xs := ([] : List Bool)) (inner := []) (ok := fun _ => True) (okp := fun _ => True) ?hr ?hp (fun _ hk => hk) trivial (Below.refl _ _) (Nat.le_refl _) (by simp) ?_; (case hd => rfl); (case hg => rfl); (case hr => first | (go_simp; done) | (go_simp; rfl)); (case hp => exact (Reps.none _ _)); intro v119 w6 ho7 hb hg_ hnew_; clear hg_ hnew_; (first | rw [← Ny118.out] at ho7 | (simp only [Int.reduceToNat] at ho7; rw [← Ny118.out] at ho7)); have n0_ := Aside0.mk (Kd.R_lower ho7 (below_size (by repeat (first | (with_reducible first | exact HB.out | apply below_alloc | apply pw_below_drewN | apply below_drew1 | refine below_set ?_ GE117.out) | exact HB.out)))); have n1_ := Aside0.mk (blk_below (g := gb117) (o := .cells #[.int .i64 a0_0, .int .i64 a0_1, .int .i64 a0_2, .bool a0_3, .bool a0_4] 28 (0, 0)) (by (with_reducible repeat (first | refine blk_drewN ?_ _ | refine blk_drew ?_ | refine blk_alloc ?_ _)); exact BK117.out) hb); have n2_ := Aside0.mk (below_step (by repeat (first | (with_reducible first | exact HB.out | apply below_alloc | apply pw_below_drewN | apply below_drew1 | refine below_set ?_ GE117.out) | exact HB.out)) hb); clear BK117; clear HB; have HO120 := n0_; have BK117 := n1_; have HB := n2_; clear n0_ n1_ n2_; clear hb ho7))
  (try simp only [Act.put, List.setIfInBounds_toArray, List.set_cons_zero, List.set_cons_succ])
  go_cut [22] (fun v22 wc => ∃ (kq : Nat) (x22_3 : Bool), v22 = .bool x22_3 ∧ Aside0 (spec_TimerTrace.j0 kq l1 a2 y118 x22_3 a0_0 a0_1 a0_2 a0_3 a0_4 = some r) ∧ Aside0 (kq ≤ k) ∧ Aside0 (Kd.R Kd.bool 4 wc w.heap.size (fun _ => True) v119 y118) ∧ Aside0 (wc.heap[gb117]? = some (.cells #[.int .i64 a0_0, .int .i64 a0_1, .int .i64 a0_2, .bool a0_3, .bool a0_4] 28 (0, 0))) ∧ Aside0 (Below w.heap.size w wc))
  case first =>
    have H := HC4.out
    clear HC4
    replace H := Option.bind_eq_some_iff.mp H
    obtain ⟨t121, A80, H⟩ := H
    replace H : (if t121 = true then ((spec_l1In.f a2 0 1000).bind fun t122 => (if t122 = true then (spec_TimerTrace.j0 k l1 a2 y118 (decide ((l1.length : Int) > 200)) a0_0 a0_1 a0_2 a0_3 a0_4) else (spec_TimerTrace.j0 k l1 a2 y118 true a0_0 a0_1 a0_2 a0_3 a0_4))) else (spec_TimerTrace.j0 k l1 a2 y118 true a0_0 a0_1 a0_2 a0_3 a0_4)) = some r := H
    have A8 := Aside0.mk A80
    clear A80
    by_cases c9 : t121 = true
    · subst c9
      have H1 : ((spec_l1In.f a2 0 1000).bind fun t122 => (if t122 = true then (spec_TimerTrace.j0 k l1 a2 y118 (decide ((l1.length : Int) > 200)) a0_0 a0_1 a0_2 a0_3 a0_4) else (spec_TimerTrace.j0 k l1 a2 y118 true a0_0 a0_1 a0_2 a0_3 a0_4))) = some r := by rw [if_pos rfl] at H; exact H
      clear H
      have H := H1
      clear H1
      replace H := Option.bind_eq_some_iff.mp H
      obtain ⟨t122, A100, H⟩ := H
      replace H : (if t122 = true then (spec_TimerTrace.j0 k l1 a2 y118 (decide ((l1.length : Int) > 200)) a0_0 a0_1 a0_2 a0_3 a0_4) else (spec_TimerTrace.j0 k l1 a2 y118 true a0_0 a0_1 a0_2 a0_3 a0_4)) = some r := H
      have A10 := Aside0.mk A100
      clear A100
      by_cases c11 : t122 = true
      · subst c11
        have H1 : (spec_TimerTrace.j0 k l1 a2 y118 (decide ((l1.length : Int) > 200)) a0_0 a0_1 a0_2 a0_3 a0_4) = some r := by rw [if_pos rfl] at H; exact H
        clear H
        have H := H1
        clear H1
        have H' := Aside0.mk H
        clear H
        have hcz12_0 : w6.cell? ⟨gb117, 0, none⟩ = some (.int .i64 a0_0) := (blk_cell BK117.out 0).trans rfl
        have hcz12_1 : w6.cell? ⟨gb117, 1, none⟩ = some (.int .i64 a0_1) := (blk_cell BK117.out 1).trans rfl
        have hcz12_2 : w6.cell? ⟨gb117, 2, none⟩ = some (.int .i64 a0_2) := (blk_cell BK117.out 2).trans rfl
        have hcz12_3 : w6.cell? ⟨gb117, 3, none⟩ = some (.bool a0_3) := (blk_cell BK117.out 3).trans rfl
        have hcz12_4 : w6.cell? ⟨gb117, 4, none⟩ = some (.bool a0_4) := (blk_cell BK117.out 4).trans rfl
        have hfz12_0 := blk_frozen BK117.out 0
        have hfz12_1 := blk_frozen BK117.out 1
        have hfz12_2 := blk_frozen BK117.out 2
        have hfz12_3 := blk_frozen BK117.out 3
        have hfz12_4 := blk_frozen BK117.out 4
        go_wp2_with (first | ((with_reducible refine gate_callee (f := 58) rfl ?_); refine goesL_ (some 11) rfl rfl Try.func58 (by kernel_rfl) rfl #[.agg #[.int .i64 a0_0, .int .i64 a0_1, .int .i64 a0_2, .bool a0_3, .bool a0_4]] rfl (by (try simp only [List.map_toArray, List.map_cons, List.map_nil]); first | done | rfl | (simp only [List.length_drop, List.length_take]; rfl)) ?_; (with_reducible refine (spec_TimerValid.calls a0_0 a0_1 a0_2 a0_3 a0_4 true _ A8.out).mono ?_); rintro e w13 ⟨rfl, hb⟩; refine ⟨_, rfl, ?_⟩; have n0_ := Aside0.mk (Kd.R_below (by (with_reducible repeat (first | apply Kd.R_alloc | apply Kd.R_drewN | apply Kd.R_drew)); exact HO120.out) hb); have n1_ := Aside0.mk (blk_below (g := gb117) (o := .cells #[.int .i64 a0_0, .int .i64 a0_1, .int .i64 a0_2, .bool a0_3, .bool a0_4] 28 (0, 0)) (by (with_reducible repeat (first | refine blk_drewN ?_ _ | refine blk_drew ?_ | refine blk_alloc ?_ _)); exact BK117.out) hb); have n2_ := Aside0.mk (below_step (by repeat (first | (with_reducible first | exact HB.out | apply below_alloc | apply pw_below_drewN | apply below_drew1 | refine below_set ?_ GE117.out) | exact HB.out)) hb); clear HO120; clear BK117; clear HB; have HO120 := n0_; have BK117 := n1_; have HB := n2_; clear n0_ n1_ n2_; (try clear hb); (try clear hb2); (try clear hk); (try clear hi)) | (go_at_call 65; (with_reducible refine (spec_l1In.calls a2 0 1000 true _ A10.out).mono ?_); rintro e w' ⟨rfl, ⟨nd, rfl⟩⟩))
        go_meet
        case rel => exact ⟨_, (decide ((l1.length : Int) > 200)), (by first | rfl | (simp; done) | (simp [*]; done)), H', ⟨by first | omega | exact Nat.le_refl _⟩, ⟨by (with_reducible repeat (first | apply Kd.R_alloc | apply Kd.R_drewN | apply Kd.R_drew)); exact HO120.out⟩, ⟨by (with_reducible repeat (first | refine blk_drewN ?_ _ | refine blk_drew ?_ | refine blk_alloc ?_ _)); exact BK117.out⟩, ⟨by repeat (first | (with_reducible first | exact HB.out | apply below_alloc | apply pw_below_drewN | apply below_drew1 | refine below_set ?_ GE117.out) | exact HB.out)⟩⟩
      · replace c11 := Bool.eq_false_iff.mpr c11
        subst c11
        have H1 : (spec_TimerTrace.j0 k l1 a2 y118 true a0_0 a0_1 a0_2 a0_3 a0_4) = some r := by rw [if_neg (show ¬ (false = true) by decide)] at H; exact H
        clear H
        have H := H1
        clear H1
        have H' := Aside0.mk H
        clear H
        have hcz14_0 : w6.cell? ⟨gb117, 0, none⟩ = some (.int .i64 a0_0) := (blk_cell BK117.out 0).trans rfl
        have hcz14_1 : w6.cell? ⟨gb117, 1, none⟩ = some (.int .i64 a0_1) := (blk_cell BK117.out 1).trans rfl
        have hcz14_2 : w6.cell? ⟨gb117, 2, none⟩ = some (.int .i64 a0_2) := (blk_cell BK117.out 2).trans rfl
        have hcz14_3 : w6.cell? ⟨gb117, 3, none⟩ = some (.bool a0_3) := (blk_cell BK117.out 3).trans rfl
        have hcz14_4 : w6.cell? ⟨gb117, 4, none⟩ = some (.bool a0_4) := (blk_cell BK117.out 4).trans rfl
        have hfz14_0 := blk_frozen BK117.out 0
        have hfz14_1 := blk_frozen BK117.out 1
        have hfz14_2 := blk_frozen BK117.out 2
        have hfz14_3 := blk_frozen BK117.out 3
        have hfz14_4 := blk_frozen BK117.out 4
        go_wp2_with (first | ((with_reducible refine gate_callee (f := 58) rfl ?_); refine goesL_ (some 11) rfl rfl Try.func58 (by kernel_rfl) rfl #[.agg #[.int .i64 a0_0, .int .i64 a0_1, .int .i64 a0_2, .bool a0_3, .bool a0_4]] rfl (by (try simp only [List.map_toArray, List.map_cons, List.map_nil]); first | done | rfl | (simp only [List.length_drop, List.length_take]; rfl)) ?_; (with_reducible refine (spec_TimerValid.calls a0_0 a0_1 a0_2 a0_3 a0_4 true _ A8.out).mono ?_); rintro e w15 ⟨rfl, hb⟩; refine ⟨_, rfl, ?_⟩; have n0_ := Aside0.mk (Kd.R_below (by (with_reducible repeat (first | apply Kd.R_alloc | apply Kd.R_drewN | apply Kd.R_drew)); exact HO120.out) hb); have n1_ := Aside0.mk (blk_below (g := gb117) (o := .cells #[.int .i64 a0_0, .int .i64 a0_1, .int .i64 a0_2, .bool a0_3, .bool a0_4] 28 (0, 0)) (by (with_reducible repeat (first | refine blk_drewN ?_ _ | refine blk_drew ?_ | refine blk_alloc ?_ _)); exact BK117.out) hb); have n2_ := Aside0.mk (below_step (by repeat (first | (with_reducible first | exact HB.out | apply below_alloc | apply pw_below_drewN | apply below_drew1 | refine below_set ?_ GE117.out) | exact HB.out)) hb); clear HO120; clear BK117; clear HB; have HO120 := n0_; have BK117 := n1_; have HB := n2_; clear n0_ n1_ n2_; (try clear hb); (try clear hb2); (try clear hk); (try clear hi)) | (go_at_call 65; (with_reducible refine (spec_l1In.calls a2 0 1000 false _ A10.out).mono ?_); rintro e w' ⟨rfl, ⟨nd, rfl⟩⟩))
        go_meet
        case rel => exact ⟨_, (true), (by first | rfl | (simp; done) | (simp [*]; done)), H', ⟨by first | omega | exact Nat.le_refl _⟩, ⟨by (with_reducible repeat (first | apply Kd.R_alloc | apply Kd.R_drewN | apply Kd.R_drew)); exact HO120.out⟩, ⟨by (with_reducible repeat (first | refine blk_drewN ?_ _ | refine blk_drew ?_ | refine blk_alloc ?_ _)); exact BK117.out⟩, ⟨by repeat (first | (with_reducible first | exact HB.out | apply below_alloc | apply pw_below_drewN | apply below_drew1 | refine below_set ?_ GE117.out) | exact HB.out)⟩⟩
    · replace c9 := Bool.eq_false_iff.mpr c9
      subst c9
      have H1 : (spec_TimerTrace.j0 k l1 a2 y118 true a0_0 a0_1 a0_2 a0_3 a0_4) = some r := by rw [if_neg (show ¬ (false = true) by decide)] at H; exact H
      clear H
      have H := H1
      clear H1
      have H' := Aside0.mk H
      clear H
      have hcz16_0 : w6.cell? ⟨gb117, 0, none⟩ = some (.int .i64 a0_0) := (blk_cell BK117.out 0).trans rfl
      have hcz16_1 : w6.cell? ⟨gb117, 1, none⟩ = some (.int .i64 a0_1) := (blk_cell BK117.out 1).trans rfl
      have hcz16_2 : w6.cell? ⟨gb117, 2, none⟩ = some (.int .i64 a0_2) := (blk_cell BK117.out 2).trans rfl
      have hcz16_3 : w6.cell? ⟨gb117, 3, none⟩ = some (.bool a0_3) := (blk_cell BK117.out 3).trans rfl
      have hcz16_4 : w6.cell? ⟨gb117, 4, none⟩ = some (.bool a0_4) := (blk_cell BK117.out 4).trans rfl
      have hfz16_0 := blk_frozen BK117.out 0
      have hfz16_1 := blk_frozen BK117.out 1
      have hfz16_2 := blk_frozen BK117.out 2
      have hfz16_3 := blk_frozen BK117.out 3
      have hfz16_4 := blk_frozen BK117.out 4
      go_wp2_with (first | ((with_reducible refine gate_callee (f := 58) rfl ?_); refine goesL_ (some 11) rfl rfl Try.func58 (by kernel_rfl) rfl #[.agg #[.int .i64 a0_0, .int .i64 a0_1, .int .i64 a0_2, .bool a0_3, .bool a0_4]] rfl (by (try simp only [List.map_toArray, List.map_cons, List.map_nil]); first | done | rfl | (simp only [List.length_drop, List.length_take]; rfl)) ?_; (with_reducible refine (spec_TimerValid.calls a0_0 a0_1 a0_2 a0_3 a0_4 false _ A8.out).mono ?_); rintro e w17 ⟨rfl, hb⟩; refine ⟨_, rfl, ?_⟩; have n0_ := Aside0.mk (Kd.R_below (by (with_reducible repeat (first | apply Kd.R_alloc | apply Kd.R_drewN | apply Kd.R_drew)); exact HO120.out) hb); have n1_ := Aside0.mk (blk_below (g := gb117) (o := .cells #[.int .i64 a0_0, .int .i64 a0_1, .int .i64 a0_2, .bool a0_3, .bool a0_4] 28 (0, 0)) (by (with_reducible repeat (first | refine blk_drewN ?_ _ | refine blk_drew ?_ | refine blk_alloc ?_ _)); exact BK117.out) hb); have n2_ := Aside0.mk (below_step (by repeat (first | (with_reducible first | exact HB.out | apply below_alloc | apply pw_below_drewN | apply below_drew1 | refine below_set ?_ GE117.out) | exact HB.out)) hb); clear HO120; clear BK117; clear HB; have HO120 := n0_; have BK117 := n1_; have HB := n2_; clear n0_ n1_ n2_; (try clear hb); (try clear hb2); (try clear hk); (try clear hi)))
      go_meet
      case rel => exact ⟨_, (true), (by first | rfl | (simp; done) | (simp [*]; done)), H', ⟨by first | omega | exact Nat.le_refl _⟩, ⟨by (with_reducible repeat (first | apply Kd.R_alloc | apply Kd.R_drewN | apply Kd.R_drew)); exact HO120.out⟩, ⟨by (with_reducible repeat (first | refine blk_drewN ?_ _ | refine blk_drew ?_ | refine blk_alloc ?_ _)); exact BK117.out⟩, ⟨by repeat (first | (with_reducible first | exact HB.out | apply below_alloc | apply pw_below_drewN | apply below_drew1 | refine below_set ?_ GE117.out) | exact HB.out)⟩⟩
  case rest =>
    clear HC4
    try clear c1
    try clear p2
    try clear c4
    try clear c5
    try clear c9
    try clear c11
    try clear hcz12_0
    try clear hcz12_1
    try clear hcz12_2
    try clear hcz12_3
    try clear hcz12_4
    try clear hcz14_0
    try clear hcz14_1
    try clear hcz14_2
    try clear hcz14_3
    try clear hcz14_4
    try clear hcz16_0
    try clear hcz16_1
    try clear hcz16_2
    try clear hcz16_3
    try clear hcz16_4
    try clear hfz12_0
    try clear hfz12_1
    try clear hfz12_2
    try clear hfz12_3
    try clear hfz12_4
    try clear hfz14_0
    try clear hfz14_1
    try clear hfz14_2
    try clear hfz14_3
    try clear hfz14_4
    try clear hfz16_0
    try clear hfz16_1
    try clear hfz16_2
    try clear hfz16_3
    try clear hfz16_4
    obtain ⟨kq, x22_3, rfl, HA, HJ3, HO_7, BK117, HB⟩ := hcut
    cases kq with
    | zero => exact absurd HA.out (by simp [spec_TimerTrace.j0])
    | succ kj3 =>
      have H := HA.out
      clear HA
      simp only [spec_TimerTrace.j0] at H
      by_cases c18 : x22_3 = true
      · subst c18
        have H1 : (some y118) = some r := by rw [if_pos rfl] at H; exact H
        clear H
        have H := H1
        clear H1
        obtain rfl := Option.some.inj H
        go_wp2
        go_ret
        exact ⟨_, by first | rfl | (simp [errW_none, errW_some] <;> rfl) | (simp [*, errW_none, errW_some] <;> rfl), by (with_reducible repeat (first | apply Kd.R_alloc | apply Kd.R_drewN | apply Kd.R_drew)); exact HO_7.out, by repeat (first | (with_reducible first | exact HB.out | apply below_alloc | apply pw_below_drewN | apply below_drew1 | refine below_set ?_ GE117.out) | exact HB.out)⟩
      · replace c18 := Bool.eq_false_iff.mpr c18
        subst c18
        have H1 : (spec_TimerTrace.l0 kj3 l1 a2 y118 0 a0_0 a0_1 a0_2 a0_3 a0_4) = some r := by rw [if_neg (show ¬ (false = true) by decide)] at H; exact H
        clear H
        have H := H1
        clear H1
        have H' := Aside0.mk H
        clear H
        go_wp2
        go_loopg [7, 8] kj3 (fun kq v7 v8 w' => ∃ (x7_2 : List Bool) (x8_2 : Int) (x118000_2 : Int) (x118001_2 : Int) (x118002_2 : Int) (x118003_2 : Bool) (x118004_2 : Bool), v8 = .int .i64 x8_2 ∧ Aside0 (spec_TimerTrace.l0 kq l1 a2 x7_2 x8_2 x118000_2 x118001_2 x118002_2 x118003_2 x118004_2 = some r) ∧ Aside0 (kq ≤ kj3) ∧ Aside0 (Kd.R Kd.bool 4 w' w.heap.size (fun _ => True) v7 x7_2) ∧ Aside0 (w'.heap[gb117]? = some (.cells #[.int .i64 x118000_2, .int .i64 x118001_2, .int .i64 x118002_2, .bool x118003_2, .bool x118004_2] 28 (0, 0))) ∧ Aside0 (Below w.heap.size w w'))
        case atStart => exact ⟨(y118), (0), (a0_0), (a0_1), (a0_2), (a0_3), (a0_4), (by first | rfl | (simp; done) | (simp [*]; done)), H', ⟨Nat.le_refl _⟩, ⟨by (with_reducible repeat (first | apply Kd.R_alloc | apply Kd.R_drewN | apply Kd.R_drew)); exact HO_7.out⟩, ⟨by (with_reducible repeat (first | refine blk_drewN ?_ _ | refine blk_drew ?_ | refine blk_alloc ?_ _)); exact BK117.out⟩, ⟨by repeat (first | (with_reducible first | exact HB.out | apply below_alloc | apply pw_below_drewN | apply below_drew1 | refine below_set ?_ GE117.out) | exact HB.out)⟩⟩
        case round =>
          clear H'
          try clear c1
          try clear p2
          try clear c4
          try clear c5
          try clear c9
          try clear c11
          try clear c18
          try clear hcz12_0
          try clear hcz12_1
          try clear hcz12_2
          try clear hcz12_3
          try clear hcz12_4
          try clear hcz14_0
          try clear hcz14_1
          try clear hcz14_2
          try clear hcz14_3
          try clear hcz14_4
          try clear hcz16_0
          try clear hcz16_1
          try clear hcz16_2
          try clear hcz16_3
          try clear hcz16_4
          try clear hfz12_0
          try clear hfz12_1
          try clear hfz12_2
          try clear hfz12_3
          try clear hfz12_4
          try clear hfz14_0
          try clear hfz14_1
          try clear hfz14_2
          try clear hfz14_3
          try clear hfz14_4
          try clear hfz16_0
          try clear hfz16_1
          try clear hfz16_2
          try clear hfz16_3
          try clear hfz16_4
          try clear p2
          obtain ⟨x7_2, x8_2, x118000_2, x118001_2, x118002_2, x118003_2, x118004_2, rfl, HA, HK2, HO_7, BK117, HB⟩ := hrel
          cases gk with
          | zero => exact absurd HA.out (by simp [spec_TimerTrace.l0])
          | succ k2 =>
            have H := HA.out
            clear HA
            simp only [spec_TimerTrace.l0] at H
            by_cases c19 : x8_2 < (l1.length : Int)
            · rw [if_pos c19] at H
              have c19b0 : decide (x8_2 < (l1.length : Int)) = true := decide_eq_true c19
              clear c19
              by_cases c20 : 0 ≤ x8_2
              · rw [if_pos c20] at H
                have c20b0 : decide (0 ≤ x8_2) = true := decide_eq_true c20
                clear c20
                replace H := Option.bind_eq_some_iff.mp H
                obtain ⟨⟨t124, t125, t126, t127, t128⟩, A210, H⟩ := H
                replace H : (if x7_2.length < 140737488355328 then (spec_TimerTrace.l0 k2 l1 a2 (x7_2 ++ [t128]) (wrap64 (x8_2 + 1)) t124 t125 t126 t127 t128) else (none)) = some r := H
                have A21 := Aside0.mk A210
                clear A210
                by_cases c22 : x7_2.length < 140737488355328
                · rw [if_pos c22] at H
                  have LMc22 := Aside0.mk c22
                  clear c22
                  obtain ⟨y129, hy129⟩ : ∃ y_ : List Bool, y_ = (x7_2 ++ [t128]) := ⟨_, rfl⟩
                  replace H : (spec_TimerTrace.l0 k2 l1 a2 y129 (wrap64 (x8_2 + 1)) t124 t125 t126 t127 t128) = some r := by first | (rw [hy129]; with_reducible exact H) | (have H2_ := (Option.bind_some _ _).symm.trans H; rw [hy129]; with_reducible exact H2_) | (have H2_ := (Option.bind_some _ _).symm.trans H; with_reducible exact H2_) | with_reducible exact H | (rw [hy129]; exact H) | exact H
                  have Ny129 := Aside0.mk hy129
                  clear hy129
                  have H' := Aside0.mk H
                  clear H
                  try go_wp2
                  have n0_ := Aside0.mk (Kd.R_drew HO_7.out)
                  have n1_ := Aside0.mk (blk_drew BK117.out)
                  have n2_ := Aside0.mk (below_drew1 HB.out)
                  clear HO_7
                  clear BK117
                  clear HB
                  have HO_7 := n0_
                  have BK117 := n1_
                  have HB := n2_
                  clear n0_ n1_ n2_
                  have p123 : 0 ≤ (x8_2 : Int) := of_decide_eq_true (by first | (with_reducible assumption) | assumption)
                  have q123 : x8_2 < (l1.length : Int) := of_decide_eq_true (by first | (with_reducible assumption) | assumption)
                  obtain ⟨ad123, e123, hx123_0⟩ := Kd.at_bool HR1.out x8_2 p123 q123
                  have hw123_0 := hx123_0
                  cases e123
                  replace hx123_0 := (HB.out.cell (World.block_lt_of_cell? w _ hx123_0)).trans hx123_0
                  replace p123 := eq_true p123
                  replace q123 := eq_true q123
                  refine start_ (n := 8) (S := fun w' => w'.cell? ⟨gb117, 0, none⟩ = some (.int .i64 x118000_2) ∧ w'.cell? ⟨gb117, 1, none⟩ = some (.int .i64 x118001_2) ∧ w'.cell? ⟨gb117, 2, none⟩ = some (.int .i64 x118002_2) ∧ w'.cell? ⟨gb117, 3, none⟩ = some (.bool x118003_2) ∧ w'.cell? ⟨gb117, 4, none⟩ = some (.bool x118004_2) ∧ w'.cell? (ad123.add (x8_2).toNat) = some (.bool (rdOf false l1 x8_2))) (ds := [7]) #[false, false, false, false, false, false, false, false] (by kernel_rfl) rfl rfl ⟨(blk_cell BK117.out 0).trans rfl, (blk_cell BK117.out 1).trans rfl, (blk_cell BK117.out 2).trans rfl, (blk_cell BK117.out 3).trans rfl, (blk_cell BK117.out 4).trans rfl, ((HB.out.cell (World.block_lt_of_cell? w _ hw123_0)).trans hw123_0)⟩ (fun hHeld => ?_); refine with_tabW spec_TimerTrace.tab7 spec_TimerTrace.bits7 (fun HT_ HW_ => ?_)
                  generalize wr.drew = w23 at HO_7 BK117 HB hx123_0 hHeld ⊢
                  refine pure_ (i := 1) (N := some 31) (v := ?_) (a' := ?_) #[false, true, false, false, false, false, false, false] rfl rfl (any_of HT_.out (by kernel_rfl)) (fun _ _ _ h => h) (Or.inl ⟨by rfl, ?_⟩) ?_ ?_
                  rotate_left
                  · intro w'
                    go_simp
                    with_reducible rfl
                  rotate_left
                  · simp only [Act.put, List.setIfInBounds_toArray, List.set_cons_zero, List.set_cons_succ, i64_w, i32_w]
                    rfl
                  refine pure_ (i := 2) (N := some 32) (v := ?_) (a' := ?_) #[false, true, true, false, false, false, false, false] rfl rfl (any_of HT_.out (by kernel_rfl)) (fun _ _ _ h => h) (Or.inl ⟨by rfl, ?_⟩) ?_ ?_
                  rotate_left
                  · intro w'
                    go_simp
                    with_reducible rfl
                  rotate_left
                  · simp only [Act.put, List.setIfInBounds_toArray, List.set_cons_zero, List.set_cons_succ, i64_w, i32_w]
                    rfl
                  refine pure_ (i := 3) (N := some 33) (v := ?_) (a' := ?_) #[false, true, true, true, false, false, false, false] rfl rfl (any_of HT_.out (by kernel_rfl)) (fun _ _ _ h => h) (Or.inl ⟨by rfl, ?_⟩) ?_ ?_
                  rotate_left
                  · intro w'
                    go_simp
                    with_reducible rfl
                  rotate_left
                  · simp only [Act.put, List.setIfInBounds_toArray, List.set_cons_zero, List.set_cons_succ, i64_w, i32_w]
                    rfl
                  refine pure_ (i := 5) (N := some 35) (v := ?_) (a' := ?_) #[false, true, true, true, false, true, false, false] rfl rfl (any_of HT_.out (by kernel_rfl)) (fun _ _ _ h => h) (Or.inl ⟨by rfl, ?_⟩) ?_ ?_
                  rotate_left
                  · intro w'
                    go_simp
                    with_reducible rfl
                  rotate_left
                  · simp only [Act.put, List.setIfInBounds_toArray, List.set_cons_zero, List.set_cons_succ, i64_w, i32_w]
                    rfl
                  refine take_ (i := 0) (N := some 30) (v := ?_) (a' := ?_) #[true, true, true, true, false, true, false, false] rfl rfl (take_ofW HT_.out HW_.out (by kernel_rfl)) (fun _ _ _ h => h) (Or.inl ⟨by rfl, ?_⟩) hHeld ?_ ?_
                  rotate_left
                  · rintro w' ⟨s0, s1, s2, s3, s4, s5⟩
                    go_simp
                    with_reducible rfl
                  rotate_left
                  · simp only [Act.put, List.setIfInBounds_toArray, List.set_cons_zero, List.set_cons_succ, i64_w, i32_w]
                    rfl
                  refine take_ (i := 4) (N := some 34) (v := ?_) (a' := ?_) #[true, true, true, true, true, true, false, false] rfl rfl (take_ofW HT_.out HW_.out (by kernel_rfl)) (fun _ _ _ h => h) (Or.inl ⟨by rfl, ?_⟩) hHeld ?_ ?_
                  rotate_left
                  · rintro w' ⟨s0, s1, s2, s3, s4, s5⟩
                    go_simp
                    with_reducible rfl
                  rotate_left
                  · simp only [Act.put, List.setIfInBounds_toArray, List.set_cons_zero, List.set_cons_succ, i64_w, i32_w]
                    rfl
                  refine one_ (i := 6) (N := some 36) #[true, true, true, true, true, true, true, false] rfl rfl (one_of HT_.out (by kernel_rfl)) (by decide) (fun K hK => ?_)
                  refine goes_ Try.func71 (by kernel_rfl) rfl #[.agg #[.int .i64 x118000_2, .int .i64 x118001_2, .int .i64 x118002_2, .bool x118003_2, .bool x118004_2], .bool (rdOf false l1 x8_2), .int .i64 a2] (by rfl) rfl rfl (by (try simp only [List.map_toArray, List.map_cons, List.map_nil]); first | done | rfl | (simp only [List.length_drop, List.length_take]; rfl)) ?_
                  with_reducible refine (spec_l5Step.calls x118000_2 x118001_2 x118002_2 x118003_2 x118004_2 (rdOf false l1 x8_2) a2 t124 t125 t126 t127 t128 _ A21.out).mono ?_
                  rintro e w24 ⟨rfl, hb⟩
                  refine ⟨_, rfl, ?_⟩
                  have n0_ := Aside0.mk (Kd.R_below (by (with_reducible repeat (first | apply Kd.R_alloc | apply Kd.R_drewN | apply Kd.R_drew)); exact HO_7.out) hb)
                  have n1_ := Aside0.mk (blk_below (g := gb117) (o := .cells #[.int .i64 x118000_2, .int .i64 x118001_2, .int .i64 x118002_2, .bool x118003_2, .bool x118004_2] 28 (0, 0)) (by (with_reducible repeat (first | refine blk_drewN ?_ _ | refine blk_drew ?_ | refine blk_alloc ?_ _)); exact BK117.out) hb)
                  have n2_ := Aside0.mk (below_step (by repeat (first | (with_reducible first | exact HB.out | apply below_alloc | apply pw_below_drewN | apply below_drew1 | refine below_set ?_ GE117.out) | exact HB.out)) hb)
                  clear HO_7
                  clear BK117
                  clear HB
                  have HO_7 := n0_
                  have BK117 := n1_
                  have HB := n2_
                  clear n0_ n1_ n2_
                  (try clear hb)
                  (try clear hb2)
                  (try clear hk)
                  (try clear hi)
                  refine hK.out _ _ ⟨(blk_cell BK117.out 0).trans rfl, (blk_cell BK117.out 1).trans rfl, (blk_cell BK117.out 2).trans rfl, (blk_cell BK117.out 3).trans rfl, (blk_cell BK117.out 4).trans rfl, ((HB.out.cell (World.block_lt_of_cell? w _ hw123_0)).trans hw123_0)⟩ (fun hHeld => ?_)
                  clear hK K
                  refine norm_ (a' := ?_) ?_ ?_
                  rotate_left
                  · show Act.put _ (some 36) _ = _
                    simp only [Act.put, List.setIfInBounds_toArray, List.set_cons_zero, List.set_cons_succ, i64_w, i32_w]
                    rfl
                  refine last_ (i := 7) (N := none) #[true, true, true, true, true, true, true, true] rfl rfl (one_of HT_.out (by kernel_rfl)) (by decide) (fun K hK => ?_)
                  have hs25 : w24.cell? ⟨gb117, 0, none⟩ = some (.int .i64 x118000_2) := (blk_cell BK117.out 0).trans rfl
                  have hfs25 := blk_frozen BK117.out 0
                  have hs26 : w24.cell? ⟨gb117, 1, none⟩ = some (.int .i64 x118001_2) := (blk_cell BK117.out 1).trans rfl
                  have hfs26 := blk_frozen BK117.out 1
                  have hs27 : w24.cell? ⟨gb117, 2, none⟩ = some (.int .i64 x118002_2) := (blk_cell BK117.out 2).trans rfl
                  have hfs27 := blk_frozen BK117.out 2
                  have hs28 : w24.cell? ⟨gb117, 3, none⟩ = some (.bool x118003_2) := (blk_cell BK117.out 3).trans rfl
                  have hfs28 := blk_frozen BK117.out 3
                  have hs29 : w24.cell? ⟨gb117, 4, none⟩ = some (.bool x118004_2) := (blk_cell BK117.out 4).trans rfl
                  have hfs29 := blk_frozen BK117.out 4
                  refine skip_ (w1 := ?_) (by rfl) rfl ?_ ?_
                  rotate_left
                  · go_simp
                    rfl
                  refine hK.out _ _ ?_
                  clear hK K
                  refine done_ (done_of HT_.out (by kernel_rfl)) ?_
                  have hcz30_0 : w24.cell? ⟨gb117, 0, none⟩ = some (.int .i64 x118000_2) := (blk_cell BK117.out 0).trans rfl
                  have hcz30_1 : w24.cell? ⟨gb117, 1, none⟩ = some (.int .i64 x118001_2) := (blk_cell BK117.out 1).trans rfl
                  have hcz30_2 : w24.cell? ⟨gb117, 2, none⟩ = some (.int .i64 x118002_2) := (blk_cell BK117.out 2).trans rfl
                  have hcz30_3 : w24.cell? ⟨gb117, 3, none⟩ = some (.bool x118003_2) := (blk_cell BK117.out 3).trans rfl
                  have hcz30_4 : w24.cell? ⟨gb117, 4, none⟩ = some (.bool x118004_2) := (blk_cell BK117.out 4).trans rfl
                  have hfz30_0 := blk_frozen BK117.out 0
                  have hfz30_1 := blk_frozen BK117.out 1
                  have hfz30_2 := blk_frozen BK117.out 2
                  have hfz30_3 := blk_frozen BK117.out 3
                  have hfz30_4 := blk_frozen BK117.out 4
                  try go_wp2_with (first | ((with_reducible refine gate_builtin (b := .append) (xs := #[.tmp 37, .tmp 40]) rfl ?_); (try (refine gate_guard (by rfl) ?_; dsimp only)); at_builtin; refine Kd.R_append Kd.bool (w0 := w) w.heap.size rfl (.tmp 37) (.tmp 40) 32 4 (.bool false) 1 rfl Try.underlying32 info4 rfl (by decide) (by omega) u7 x7_2 t128 [.bool t128] (fun _ => True) (fun _ => False) rfl (by first | (go_simp; done) | (go_simp; rfl)) ?aP (fun _ hk => hk.elim) ?aF ?aO ?aB ?aS ?aL ?_; (case aP => exact rfl); (case aB => exact (by repeat (first | (with_reducible first | exact HB.out | apply below_alloc | apply pw_below_drewN | apply below_drew1 | refine below_set ?_ GE117.out) | exact HB.out))); (case aF => exact (fun _ _ => trivial)); (case aO => exact (by (with_reducible repeat (first | apply Kd.R_alloc | apply Kd.R_drewN | apply Kd.R_drew)); exact Kd.R_mono (Kd.R_far (p := ⟨gb117, 4, none⟩) (Kd.R_far (p := ⟨gb117, 3, none⟩) (Kd.R_far (p := ⟨gb117, 2, none⟩) (Kd.R_far (p := ⟨gb117, 1, none⟩) (Kd.R_far (p := ⟨gb117, 0, none⟩) (Kd.R_types HO_7.out BK117.out (by decide)) (fun _ hk => hk.2) (.int .i64 t124)) (fun _ hk => hk.2) (.int .i64 t125)) (fun _ hk => hk.2) (.int .i64 t126)) (fun _ hk => hk.2) (.bool t127)) (fun _ hk => hk.2) (.bool t128)) (fun _ hk => trivial))); (case aS => exact (below_size (by repeat (first | (with_reducible first | exact HB.out | apply below_alloc | apply pw_below_drewN | apply below_drew1 | refine below_set ?_ GE117.out) | exact HB.out)))); (case aL => have := LMc22.out; omega); intro v130 w31 ho hb hg hat; rw [← Ny129.out] at ho; have n0_ := Aside0.mk (blk_grown (g := gb117) (o := .cells #[.int .i64 t124, .int .i64 t125, .int .i64 t126, .bool t127, .bool t128] 28 (0, 0)) (by (with_reducible repeat (first | refine blk_drewN ?_ _ | refine blk_drew ?_ | refine blk_alloc ?_ _)); refine blk_put (cs := #[.int .i64 t124, .int .i64 t125, .int .i64 t126, .bool t127, .bool x118004_2]) ?_ 4 _ rfl; (with_reducible repeat (first | refine blk_drewN ?_ _ | refine blk_drew ?_ | refine blk_alloc ?_ _)); refine blk_put (cs := #[.int .i64 t124, .int .i64 t125, .int .i64 t126, .bool x118003_2, .bool x118004_2]) ?_ 3 _ rfl; (with_reducible repeat (first | refine blk_drewN ?_ _ | refine blk_drew ?_ | refine blk_alloc ?_ _)); refine blk_put (cs := #[.int .i64 t124, .int .i64 t125, .int .i64 x118002_2, .bool x118003_2, .bool x118004_2]) ?_ 2 _ rfl; (with_reducible repeat (first | refine blk_drewN ?_ _ | refine blk_drew ?_ | refine blk_alloc ?_ _)); refine blk_put (cs := #[.int .i64 t124, .int .i64 x118001_2, .int .i64 x118002_2, .bool x118003_2, .bool x118004_2]) ?_ 1 _ rfl; (with_reducible repeat (first | refine blk_drewN ?_ _ | refine blk_drew ?_ | refine blk_alloc ?_ _)); refine blk_put (cs := #[.int .i64 x118000_2, .int .i64 x118001_2, .int .i64 x118002_2, .bool x118003_2, .bool x118004_2]) ?_ 0 _ rfl; (with_reducible repeat (first | refine blk_drewN ?_ _ | refine blk_drew ?_ | refine blk_alloc ?_ _)); exact BK117.out) hg (Kd.R_ne HO_7.out BK117.out (by decide))); have n1_ := Aside0.mk (hb); have n2_ := Aside0.mk (ho); clear BK117; clear HB; clear HO_7; have BK117 := n0_; have HB := n1_; have HO131 := n2_; clear n0_ n1_ n2_; clear ho hb hg hat))
                  go_roundg k2
                  case measure => have := HJ3.out; have := HK2.out; omega
                  case rel => exact ⟨(y129), (wrap64 (x8_2 + 1)), (t124), (t125), (t126), (t127), (t128), (by first | rfl | (simp; done) | (simp [*]; done)), H', ⟨by have := HJ3.out; have := HK2.out; omega⟩, ⟨by (with_reducible repeat (first | apply Kd.R_alloc | apply Kd.R_drewN | apply Kd.R_drew)); exact HO131.out⟩, ⟨by (with_reducible repeat (first | refine blk_drewN ?_ _ | refine blk_drew ?_ | refine blk_alloc ?_ _)); exact BK117.out⟩, ⟨by repeat (first | (with_reducible first | exact HB.out | apply below_alloc | apply pw_below_drewN | apply below_drew1 | refine below_set ?_ GE117.out) | exact HB.out)⟩⟩
                · rw [if_neg c22] at H
                  exact absurd H (by simp)
              · rw [if_neg c20] at H
                exact absurd H (by simp)
            · rw [if_neg c19] at H
              have c19b0 : decide (x8_2 < (l1.length : Int)) = false := decide_eq_false c19
              clear c19
              obtain rfl := Option.some.inj H
              go_wp2
              go_ret
              exact ⟨_, by first | rfl | (simp [errW_none, errW_some] <;> rfl) | (simp [*, errW_none, errW_some] <;> rfl), by (with_reducible repeat (first | apply Kd.R_alloc | apply Kd.R_drewN | apply Kd.R_drew)); exact HO_7.out, by repeat (first | (with_reducible first | exact HB.out | apply below_alloc | apply pw_below_drewN | apply below_drew1 | refine below_set ?_ GE117.out) | exact HB.out)⟩

/-! ### impl_RisingEdge: function 61 -/
def impl_RisingEdge.f (a0 : Bool) (a1 : Bool) : Option (Bool) := if a1 = true then (some (!a0)) else (some false)
set_option maxHeartbeats 8000000 in
set_option maxRecDepth 100000 in
theorem impl_RisingEdge.calls (a0 : Bool) (a1 : Bool) (r : Bool) (w : World) (h : impl_RisingEdge.f a0 a1 = some r) :
    Calls Try.prog 61 #[.bool a0, .bool a1] w fun e w' => e = .returned (.bool r) ∧ Drawn0 w w' := by
  have H : (if a1 = true then (some (!a0)) else (some false)) = some r := h
  clear h
  by_cases c3 : a1 = true
  · subst c3
    have H1 : (some (!a0)) = some r := by rw [if_pos rfl] at H; exact H
    clear H
    have H := H1
    clear H1
    obtain rfl := Option.some.inj H
    go_enter Try.func61, Try.ntmps61
    go_wp2
    go_ret
    exact ⟨by first | rfl | (simp; done) | (simp [*]; done), by repeat (first | exact Drawn0.refl _ | apply Drawn0.step)⟩
  · replace c3 := Bool.eq_false_iff.mpr c3
    subst c3
    have H1 : (some false) = some r := by rw [if_neg (show ¬ (false = true) by decide)] at H; exact H
    clear H
    have H := H1
    clear H1
    obtain rfl := Option.some.inj H
    go_enter Try.func61, Try.ntmps61
    go_wp2
    go_ret
    exact ⟨by first | rfl | (simp; done) | (simp [*]; done), by repeat (first | exact Drawn0.refl _ | apply Drawn0.step)⟩

end Go.Proofs.Ytflemeaaiokjmaa.GFnTimerOff

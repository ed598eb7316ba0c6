-- PRINTED BY print.sh 35421559b90ae4d0a3588c463048766b98c2df88dd9212a6774a882060cdf62d: not written by this session
import Derived.Test.YtflemeaaiokjmaaPFnExactCountEdgesx0
import Derived.Test.YtflemeaaiokjmaaPFnExactCountEdgesx1
import Derived.Test.YtflemeaaiokjmaaPFnExactCountEdgesx2
namespace Go.Proofs.Ytflemeaaiokjmaa.PFnExactCountEdges
open Go.RowKit Go.Proofs.YtflemeaaiokjmaaW.PrintWords Go.Proofs.YtflemeaaiokjmaaW.PrintLast Go.Proofs.YtflemeaaiokjmaaW.PrintMore
attribute [local go_sem] max2_int min2_int max_two min_two max_three min_three max_four min_four   -- for this text's walks alone
set_option linter.unusedVariables false
set_option linter.unusedSimpArgs false

/-! ### spec_CountEdges: function 43 -/
mutual
def spec_CountEdges.j0 : Nat → List Bool → Bool → Int → Int → Bool → Bool → Option (Int × Int × Bool × Bool)
  | 0, _, _, _, _, _, _ => none
  | k + 1, x1, x13, x119000, x119001, x119002, x119003 => if x13 = true then (some (0, 0, false, false)) else (spec_CountEdges.l0 k x1 0 x119000 x119001 x119002 x119003)
def spec_CountEdges.l0 : Nat → List Bool → Int → Int → Int → Bool → Bool → Option (Int × Int × Bool × Bool)
  | 0, _, _, _, _, _, _ => none
  | k + 1, x1, x5, x119000, x119001, x119002, x119003 => if x5 < (x1.length : Int) then (if 0 ≤ x5 then ((spec_l6Step.f k x119000 x119001 x119002 x119003 (rdOf false x1 x5) false false false).bind fun bt122 => (spec_CountEdges.l0 k x1 (wrap64 (x5 + 1)) bt122.1 bt122.2.1 bt122.2.2.1 bt122.2.2.2)) else (none)) else (some (x119000, x119001, x119002, x119003))
end
def spec_CountEdges.f (k : Nat) (a0_0 : Int) (a0_1 : Int) (a0_2 : Bool) (a0_3 : Bool) (l1 : List Bool) : Option (Int × Int × Bool × Bool) := (spec_CounterValid.f a0_0 a0_1 a0_2 a0_3).bind fun t120 => (if t120 = true then (spec_CountEdges.j0 k l1 (decide ((l1.length : Int) > 200)) a0_0 a0_1 a0_2 a0_3) else (spec_CountEdges.j0 k l1 true a0_0 a0_1 a0_2 a0_3))
theorem spec_CountEdges.mono_l : ∀ k, (∀ y0 y1 y2 y3 y4 y5, LeO (spec_CountEdges.j0 k y0 y1 y2 y3 y4 y5) (spec_CountEdges.j0 (k + 1) y0 y1 y2 y3 y4 y5)) ∧ (∀ y0 y1 y2 y3 y4 y5, LeO (spec_CountEdges.l0 k y0 y1 y2 y3 y4 y5) (spec_CountEdges.l0 (k + 1) y0 y1 y2 y3 y4 y5))
  | 0 => ⟨fun _ _ _ _ _ _ r h => by simp [spec_CountEdges.j0] at h, fun _ _ _ _ _ _ r h => by simp [spec_CountEdges.l0] at h⟩
  | k + 1 => by
    obtain ⟨ih0, ih1⟩ := spec_CountEdges.mono_l k
    refine ⟨?_, ?_⟩
    · intro y0 y1 y2 y3 y4 y5
      unfold spec_CountEdges.j0
      repeat' first
      | (with_reducible exact ih0 _ _ _ _ _ _)
      | (with_reducible exact ih1 _ _ _ _ _ _)
      | (with_reducible exact spec_l6Step.mono _ _ _ _ _ _ _ _ _)
      | (with_reducible exact LeO.refl _)
      | (with_reducible exact LeO.none _)
      | (with_reducible refine LeO.ite ?_ ?_)
      | (with_reducible refine LeO.bind ?_ (fun _ => ?_))
      | exact ih0 _ _ _ _ _ _
      | exact ih1 _ _ _ _ _ _
      | exact spec_l6Step.mono _ _ _ _ _ _ _ _ _
      | exact LeO.none _
      | refine LeO.ite ?_ ?_
      | refine LeO.bind ?_ (fun _ => ?_)
    · intro y0 y1 y2 y3 y4 y5
      unfold spec_CountEdges.l0
      repeat' first
      | (with_reducible exact ih0 _ _ _ _ _ _)
      | (with_reducible exact ih1 _ _ _ _ _ _)
      | (with_reducible exact spec_l6Step.mono _ _ _ _ _ _ _ _ _)
      | (with_reducible exact LeO.refl _)
      | (with_reducible exact LeO.none _)
      | (with_reducible refine LeO.ite ?_ ?_)
      | (with_reducible refine LeO.bind ?_ (fun _ => ?_))
      | exact ih0 _ _ _ _ _ _
      | exact ih1 _ _ _ _ _ _
      | exact spec_l6Step.mono _ _ _ _ _ _ _ _ _
      | exact LeO.none _
      | refine LeO.ite ?_ ?_
      | refine LeO.bind ?_ (fun _ => ?_)
theorem spec_CountEdges.mono : ∀ a0 a1 a2 a3 a4 k, LeO (spec_CountEdges.f k a0 a1 a2 a3 a4) (spec_CountEdges.f (k + 1) a0 a1 a2 a3 a4) := by
  intro a0 a1 a2 a3 a4 k
  obtain ⟨ih0, ih1⟩ := spec_CountEdges.mono_l k
  unfold spec_CountEdges.f
  repeat' first
      | (with_reducible exact ih0 _ _ _ _ _ _)
      | (with_reducible exact ih1 _ _ _ _ _ _)
      | (with_reducible exact spec_l6Step.mono _ _ _ _ _ _ _ _ _)
      | (with_reducible exact LeO.refl _)
      | (with_reducible exact LeO.none _)
      | (with_reducible refine LeO.ite ?_ ?_)
      | (with_reducible refine LeO.bind ?_ (fun _ => ?_))
      | exact ih0 _ _ _ _ _ _
      | exact ih1 _ _ _ _ _ _
      | exact spec_l6Step.mono _ _ _ _ _ _ _ _ _
      | exact LeO.none _
      | refine LeO.ite ?_ ?_
      | refine LeO.bind ?_ (fun _ => ?_)
set_option maxHeartbeats 8000000 in
set_option maxRecDepth 100000 in
theorem spec_CountEdges.calls (k : Nat) (a0_0 : Int) (a0_1 : Int) (a0_2 : Bool) (a0_3 : Bool) (A1 : Option Addr) (c1 : Nat) (l1 : List Bool) (r1 : Int) (r2 : Int) (r3 : Bool) (r4 : Bool) (w : World) (hr1 : Kd.C Kd.bool w A1 l1.length l1) (hc1 : l1.length ≤ c1) (h : spec_CountEdges.f k a0_0 a0_1 a0_2 a0_3 l1 = some (r1, r2, r3, r4)) :
    Calls Try.prog 43 #[.agg #[.int .i64 a0_0, .int .i64 a0_1, .bool a0_2, .bool a0_3], .slice A1 l1.length c1] w fun e w' => e = .returned (.agg #[.int .i64 r1, .int .i64 r2, .bool r3, .bool r4]) ∧ Below w.heap.size w w' := by
  have hu40 := Try.underlying40
  have HR1 := Aside0.mk hr1
  have HC1 := Aside0.mk hc1
  clear hr1 hc1
  have HB := Aside0.mk (Below.refl w.heap.size w)
  have H : ((spec_CounterValid.f a0_0 a0_1 a0_2 a0_3).bind fun t120 => (if t120 = true then (spec_CountEdges.j0 k l1 (decide ((l1.length : Int) > 200)) a0_0 a0_1 a0_2 a0_3) else (spec_CountEdges.j0 k l1 true a0_0 a0_1 a0_2 a0_3))) = some (r1, r2, r3, r4) := h
  clear h
  have HC3 := Aside0.mk H
  clear H
  go_enter Try.func43, Try.ntmps43
  go_upto_region 1 with (first | ((with_reducible refine gate_dst (N := 2) rfl ?_); (try (refine gate_guard (by rfl) ?_; dsimp only)); refine box_event ?hg (N := 2) ?hd (cs := #[.int .i64 a0_0, .int .i64 a0_1, .bool a0_2, .bool a0_3]) (t := 40) ?hr ?_; (case hd => rfl); (case hg => rfl); (case hr => first | (go_simp; done) | (go_simp; rfl)); intro gb118 hg w4 hbox hb; have n0_ := Aside0.mk (below_step (by repeat (first | (with_reducible first | exact HB.out | apply below_alloc | apply pw_below_drewN | apply below_drew1) | exact HB.out)) hb); have n1_ := Aside0.mk (hbox); have n2_ := Aside0.mk ((by rw [hg]; exact (below_size (by repeat (first | (with_reducible first | exact HB.out | apply below_alloc | apply pw_below_drewN | apply below_drew1) | exact HB.out))) : w.heap.size ≤ gb118)); have n3_ := Aside0.mk ((by rw [hg]; exact (below_size (by repeat (first | (with_reducible first | exact HB.out | apply below_alloc | apply pw_below_drewN | apply below_drew1) | exact HB.out))) : w.heap.size ≤ gb118)); clear HB; have HB := n0_; have BK118 := n1_; have GW118 := n2_; have GE118 := n3_; clear n0_ n1_ n2_ n3_; clear hb hbox hg) | ((with_reducible refine gate_dst (N := 4) rfl ?_); (try (refine gate_guard (by rfl) ?_; dsimp only)); refine box_event ?hg (N := 4) ?hd (cs := #[.int .i64 0, .int .i64 0, .bool false, .bool false]) (t := 40) ?hr ?_; (case hd => rfl); (case hg => rfl); (case hr => first | (go_simp; done) | (go_simp; rfl)); intro gb119 hg w5 hbox hb; have n0_ := Aside0.mk (blk_below (g := gb118) (o := .cells #[.int .i64 a0_0, .int .i64 a0_1, .bool a0_2, .bool a0_3] 40 (0, 0)) (by (with_reducible repeat (first | refine blk_drewN ?_ _ | refine blk_drew ?_ | refine blk_alloc ?_ _)); exact BK118.out) hb); have n1_ := Aside0.mk (below_step (by repeat (first | (with_reducible first | exact HB.out | apply below_alloc | apply pw_below_drewN | apply below_drew1 | refine below_set ?_ GE118.out) | exact HB.out)) hb); have n2_ := Aside0.mk (hbox); have n3_ := Aside0.mk ((by rw [hg]; exact (below_size (by repeat (first | (with_reducible first | exact HB.out | apply below_alloc | apply pw_below_drewN | apply below_drew1 | refine below_set ?_ GE118.out) | exact HB.out))) : w.heap.size ≤ gb119)); have n4_ := Aside0.mk ((by rw [hg]; exact (below_size (by repeat (first | (with_reducible first | exact HB.out | apply below_alloc | apply pw_below_drewN | apply below_drew1 | refine below_set ?_ GE118.out) | exact HB.out))) : w.heap.size ≤ gb119)); have n5_ := Aside0.mk ((by rw [hg]; exact Nat.ne_of_lt (blk_lt (g := gb118) (o := .cells #[.int .i64 a0_0, .int .i64 a0_1, .bool a0_2, .bool a0_3] 40 (0, 0)) (by (with_reducible repeat (first | refine blk_drewN ?_ _ | refine blk_drew ?_ | refine blk_alloc ?_ _)); exact BK118.out)) : gb118 ≠ gb119)); have n6_ := Aside0.mk ((by rw [hg]; exact Nat.ne_of_gt (blk_lt (g := gb118) (o := .cells #[.int .i64 a0_0, .int .i64 a0_1, .bool a0_2, .bool a0_3] 40 (0, 0)) (by (with_reducible repeat (first | refine blk_drewN ?_ _ | refine blk_drew ?_ | refine blk_alloc ?_ _)); exact BK118.out)) : gb119 ≠ gb118)); clear BK118; clear HB; have BK118 := n0_; have HB := n1_; have BK119 := n2_; have GW119 := n3_; have GE119 := n4_; have NB118_119 := n5_; have NB119_118 := n6_; clear n0_ n1_ n2_ n3_ n4_ n5_ n6_; clear hb hbox hg))
  (try simp only [Act.put, List.setIfInBounds_toArray, List.set_cons_zero, List.set_cons_succ])
  go_cut [13] (fun v13 wc => ∃ (kq : Nat) (x13_2 : Bool), v13 = .bool x13_2 ∧ Aside0 (spec_CountEdges.j0 kq l1 x13_2 a0_0 a0_1 a0_2 a0_3 = some (r1, r2, r3, r4)) ∧ Aside0 (kq ≤ k) ∧ Aside0 (wc.heap[gb118]? = some (.cells #[.int .i64 a0_0, .int .i64 a0_1, .bool a0_2, .bool a0_3] 40 (0, 0))) ∧ Aside0 (wc.heap[gb119]? = some (.cells #[.int .i64 0, .int .i64 0, .bool false, .bool false] 40 (0, 0))) ∧ Aside0 (Below w.heap.size w wc))
  case first =>
    have H := HC3.out
    clear HC3
    replace H := Option.bind_eq_some_iff.mp H
    obtain ⟨t120, A60, H⟩ := H
    replace H : (if t120 = true then (spec_CountEdges.j0 k l1 (decide ((l1.length : Int) > 200)) a0_0 a0_1 a0_2 a0_3) else (spec_CountEdges.j0 k l1 true a0_0 a0_1 a0_2 a0_3)) = some (r1, r2, r3, r4) := H
    have A6 := Aside0.mk A60
    clear A60
    by_cases c7 : t120 = true
    · subst c7
      have H1 : (spec_CountEdges.j0 k l1 (decide ((l1.length : Int) > 200)) a0_0 a0_1 a0_2 a0_3) = some (r1, r2, r3, r4) := by rw [if_pos rfl] at H; exact H
      clear H
      have H := H1
      clear H1
      have H' := Aside0.mk H
      clear H
      have hnb8 := NB118_119.out
      have hnc8 := NB119_118.out
      have hcz9_0 : w5.cell? ⟨gb118, 0, none⟩ = some (.int .i64 a0_0) := (blk_cell BK118.out 0).trans rfl
      have hcz9_1 : w5.cell? ⟨gb118, 1, none⟩ = some (.int .i64 a0_1) := (blk_cell BK118.out 1).trans rfl
      have hcz9_2 : w5.cell? ⟨gb118, 2, none⟩ = some (.bool a0_2) := (blk_cell BK118.out 2).trans rfl
      have hcz9_3 : w5.cell? ⟨gb118, 3, none⟩ = some (.bool a0_3) := (blk_cell BK118.out 3).trans rfl
      have hfz9_0 := blk_frozen BK118.out 0
      have hfz9_1 := blk_frozen BK118.out 1
      have hfz9_2 := blk_frozen BK118.out 2
      have hfz9_3 := blk_frozen BK118.out 3
      go_wp2_with (first | ((with_reducible refine gate_callee (f := 62) rfl ?_); refine goesL_ (some 7) rfl rfl Try.func62 (by kernel_rfl) rfl #[.agg #[.int .i64 a0_0, .int .i64 a0_1, .bool a0_2, .bool a0_3]] rfl (by (try simp only [List.map_toArray, List.map_cons, List.map_nil]); first | done | rfl | (simp only [List.length_drop, List.length_take]; rfl)) ?_; (with_reducible refine (spec_CounterValid.calls a0_0 a0_1 a0_2 a0_3 true _ A6.out).mono ?_); rintro e w10 ⟨rfl, hb⟩; refine ⟨_, rfl, ?_⟩; have n0_ := Aside0.mk (blk_below (g := gb118) (o := .cells #[.int .i64 a0_0, .int .i64 a0_1, .bool a0_2, .bool a0_3] 40 (0, 0)) (by (with_reducible repeat (first | refine blk_drewN ?_ _ | refine blk_drew ?_ | refine blk_alloc ?_ _)); exact BK118.out) hb); have n1_ := Aside0.mk (blk_below (g := gb119) (o := .cells #[.int .i64 0, .int .i64 0, .bool false, .bool false] 40 (0, 0)) (by (with_reducible repeat (first | refine blk_drewN ?_ _ | refine blk_drew ?_ | refine blk_alloc ?_ _)); exact BK119.out) hb); have n2_ := Aside0.mk (below_step (by repeat (first | (with_reducible first | exact HB.out | apply below_alloc | apply pw_below_drewN | apply below_drew1 | refine below_set ?_ GE118.out | refine below_set ?_ GE119.out) | exact HB.out)) hb); clear BK118; clear BK119; clear HB; have BK118 := n0_; have BK119 := n1_; have HB := n2_; clear n0_ n1_ n2_; (try clear hb); (try clear hb2); (try clear hk); (try clear hi)))
      go_meet
      case rel => exact ⟨_, (decide ((l1.length : Int) > 200)), (by first | rfl | (simp; done) | (simp [*]; done)), H', ⟨by first | omega | exact Nat.le_refl _⟩, ⟨by (with_reducible repeat (first | refine blk_drewN ?_ _ | refine blk_drew ?_ | refine blk_alloc ?_ _)); exact BK118.out⟩, ⟨by (with_reducible repeat (first | refine blk_drewN ?_ _ | refine blk_drew ?_ | refine blk_alloc ?_ _)); exact BK119.out⟩, ⟨by repeat (first | (with_reducible first | exact HB.out | apply below_alloc | apply pw_below_drewN | apply below_drew1 | refine below_set ?_ GE118.out | refine below_set ?_ GE119.out) | exact HB.out)⟩⟩
    · replace c7 := Bool.eq_false_iff.mpr c7
      subst c7
      have H1 : (spec_CountEdges.j0 k l1 true a0_0 a0_1 a0_2 a0_3) = some (r1, r2, r3, r4) := by rw [if_neg (show ¬ (false = true) by decide)] at H; exact H
      clear H
      have H := H1
      clear H1
      have H' := Aside0.mk H
      clear H
      have hnb11 := NB118_119.out
      have hnc11 := NB119_118.out
      have hcz12_0 : w5.cell? ⟨gb118, 0, none⟩ = some (.int .i64 a0_0) := (blk_cell BK118.out 0).trans rfl
      have hcz12_1 : w5.cell? ⟨gb118, 1, none⟩ = some (.int .i64 a0_1) := (blk_cell BK118.out 1).trans rfl
      have hcz12_2 : w5.cell? ⟨gb118, 2, none⟩ = some (.bool a0_2) := (blk_cell BK118.out 2).trans rfl
      have hcz12_3 : w5.cell? ⟨gb118, 3, none⟩ = some (.bool a0_3) := (blk_cell BK118.out 3).trans rfl
      have hfz12_0 := blk_frozen BK118.out 0
      have hfz12_1 := blk_frozen BK118.out 1
      have hfz12_2 := blk_frozen BK118.out 2
      have hfz12_3 := blk_frozen BK118.out 3
      go_wp2_with (first | ((with_reducible refine gate_callee (f := 62) rfl ?_); refine goesL_ (some 7) rfl rfl Try.func62 (by kernel_rfl) rfl #[.agg #[.int .i64 a0_0, .int .i64 a0_1, .bool a0_2, .bool a0_3]] rfl (by (try simp only [List.map_toArray, List.map_cons, List.map_nil]); first | done | rfl | (simp only [List.length_drop, List.length_take]; rfl)) ?_; (with_reducible refine (spec_CounterValid.calls a0_0 a0_1 a0_2 a0_3 false _ A6.out).mono ?_); rintro e w13 ⟨rfl, hb⟩; refine ⟨_, rfl, ?_⟩; have n0_ := Aside0.mk (blk_below (g := gb118) (o := .cells #[.int .i64 a0_0, .int .i64 a0_1, .bool a0_2, .bool a0_3] 40 (0, 0)) (by (with_reducible repeat (first | refine blk_drewN ?_ _ | refine blk_drew ?_ | refine blk_alloc ?_ _)); exact BK118.out) hb); have n1_ := Aside0.mk (blk_below (g := gb119) (o := .cells #[.int .i64 0, .int .i64 0, .bool false, .bool false] 40 (0, 0)) (by (with_reducible repeat (first | refine blk_drewN ?_ _ | refine blk_drew ?_ | refine blk_alloc ?_ _)); exact BK119.out) hb); have n2_ := Aside0.mk (below_step (by repeat (first | (with_reducible first | exact HB.out | apply below_alloc | apply pw_below_drewN | apply below_drew1 | refine below_set ?_ GE118.out | refine below_set ?_ GE119.out) | exact HB.out)) hb); clear BK118; clear BK119; clear HB; have BK118 := n0_; have BK119 := n1_; have HB := n2_; clear n0_ n1_ n2_; (try clear hb); (try clear hb2); (try clear hk); (try clear hi)))
      go_meet
      case rel => exact ⟨_, (true), (by first | rfl | (simp; done) | (simp [*]; done)), H', ⟨by first | omega | exact Nat.le_refl _⟩, ⟨by (with_reducible repeat (first | refine blk_drewN ?_ _ | refine blk_drew ?_ | refine blk_alloc ?_ _)); exact BK118.out⟩, ⟨by (with_reducible repeat (first | refine blk_drewN ?_ _ | refine blk_drew ?_ | refine blk_alloc ?_ _)); exact BK119.out⟩, ⟨by repeat (first | (with_reducible first | exact HB.out | apply below_alloc | apply pw_below_drewN | apply below_drew1 | refine below_set ?_ GE118.out | refine below_set ?_ GE119.out) | exact HB.out)⟩⟩
  case rest =>
    clear HC3
    try clear c1
    try clear p2
    try clear c4
    try clear c6
    try clear c7
    try clear c8
    try clear c11
    try clear hcz12_0
    try clear hcz12_1
    try clear hcz12_2
    try clear hcz12_3
    try clear hcz9_0
    try clear hcz9_1
    try clear hcz9_2
    try clear hcz9_3
    try clear hfz12_0
    try clear hfz12_1
    try clear hfz12_2
    try clear hfz12_3
    try clear hfz9_0
    try clear hfz9_1
    try clear hfz9_2
    try clear hfz9_3
    obtain ⟨kq, x13_2, rfl, HA, HJ2, BK118, BK119, HB⟩ := hcut
    cases kq with
    | zero => exact absurd HA.out (by simp [spec_CountEdges.j0])
    | succ kj2 =>
      have H := HA.out
      clear HA
      simp only [spec_CountEdges.j0] at H
      by_cases c14 : x13_2 = true
      · subst c14
        have H1 : (some (0, 0, false, false)) = some (r1, r2, r3, r4) := by rw [if_pos rfl] at H; exact H
        clear H
        have H := H1
        clear H1
        simp only [Option.some.injEq, Prod.mk.injEq] at H
        obtain ⟨rfl, rfl, rfl, rfl⟩ := H
        have hnb15 := NB119_118.out
        have hnc15 := NB118_119.out
        have hcz16_0 : wc.cell? ⟨gb119, 0, none⟩ = some (.int .i64 0) := (blk_cell BK119.out 0).trans rfl
        have hcz16_1 : wc.cell? ⟨gb119, 1, none⟩ = some (.int .i64 0) := (blk_cell BK119.out 1).trans rfl
        have hcz16_2 : wc.cell? ⟨gb119, 2, none⟩ = some (.bool false) := (blk_cell BK119.out 2).trans rfl
        have hcz16_3 : wc.cell? ⟨gb119, 3, none⟩ = some (.bool false) := (blk_cell BK119.out 3).trans rfl
        have hfz16_0 := blk_frozen BK119.out 0
        have hfz16_1 := blk_frozen BK119.out 1
        have hfz16_2 := blk_frozen BK119.out 2
        have hfz16_3 := blk_frozen BK119.out 3
        go_wp2
        refine bodyPost_ret (results_cell_row rfl _ _ gb119 40 #[.int .i64 0, .int .i64 0, .bool false, .bool false] (0, 0) _ rfl (by (with_reducible repeat (first | refine blk_drewN ?_ _ | refine blk_drew ?_ | refine blk_alloc ?_ _)); refine blk_put (cs := #[.int .i64 0, .int .i64 0, .bool false, .bool false]) ?_ 3 _ rfl; (with_reducible repeat (first | refine blk_drewN ?_ _ | refine blk_drew ?_ | refine blk_alloc ?_ _)); refine blk_put (cs := #[.int .i64 0, .int .i64 0, .bool false, .bool false]) ?_ 2 _ rfl; (with_reducible repeat (first | refine blk_drewN ?_ _ | refine blk_drew ?_ | refine blk_alloc ?_ _)); refine blk_put (cs := #[.int .i64 0, .int .i64 0, .bool false, .bool false]) ?_ 1 _ rfl; (with_reducible repeat (first | refine blk_drewN ?_ _ | refine blk_drew ?_ | refine blk_alloc ?_ _)); refine blk_put (cs := #[.int .i64 0, .int .i64 0, .bool false, .bool false]) ?_ 0 _ rfl; (with_reducible repeat (first | refine blk_drewN ?_ _ | refine blk_drew ?_ | refine blk_alloc ?_ _)); exact BK119.out) Try.underlying40 rfl (by kernel_rfl)) rfl ?_
        exact ⟨by first | rfl | (simp [errW_none, errW_some] <;> rfl) | (simp [*, errW_none, errW_some] <;> rfl), by repeat (first | (with_reducible first | exact HB.out | apply below_alloc | apply pw_below_drewN | apply below_drew1 | refine below_set ?_ GE118.out | refine below_set ?_ GE119.out) | exact HB.out)⟩
      · replace c14 := Bool.eq_false_iff.mpr c14
        subst c14
        have H1 : (spec_CountEdges.l0 kj2 l1 0 a0_0 a0_1 a0_2 a0_3) = some (r1, r2, r3, r4) := by rw [if_neg (show ¬ (false = true) by decide)] at H; exact H
        clear H
        have H := H1
        clear H1
        have H' := Aside0.mk H
        clear H
        go_wp2
        go_loopg [5] kj2 (fun kq v5 w' => ∃ (x5_2 : Int) (x119000_2 : Int) (x119001_2 : Int) (x119002_2 : Bool) (x119003_2 : Bool), v5 = .int .i64 x5_2 ∧ Aside0 (spec_CountEdges.l0 kq l1 x5_2 x119000_2 x119001_2 x119002_2 x119003_2 = some (r1, r2, r3, r4)) ∧ Aside0 (kq ≤ kj2) ∧ Aside0 (w'.heap[gb118]? = some (.cells #[.int .i64 x119000_2, .int .i64 x119001_2, .bool x119002_2, .bool x119003_2] 40 (0, 0))) ∧ Aside0 (w'.heap[gb119]? = some (.cells #[.int .i64 0, .int .i64 0, .bool false, .bool false] 40 (0, 0))) ∧ Aside0 (Below w.heap.size w w'))
        case atStart => exact ⟨(0), (a0_0), (a0_1), (a0_2), (a0_3), (by first | rfl | (simp; done) | (simp [*]; done)), H', ⟨Nat.le_refl _⟩, ⟨by (with_reducible repeat (first | refine blk_drewN ?_ _ | refine blk_drew ?_ | refine blk_alloc ?_ _)); exact BK118.out⟩, ⟨by (with_reducible repeat (first | refine blk_drewN ?_ _ | refine blk_drew ?_ | refine blk_alloc ?_ _)); exact BK119.out⟩, ⟨by repeat (first | (with_reducible first | exact HB.out | apply below_alloc | apply pw_below_drewN | apply below_drew1 | refine below_set ?_ GE118.out | refine below_set ?_ GE119.out) | exact HB.out)⟩⟩
        case round =>
          clear H'
          try clear c1
          try clear p2
          try clear c4
          try clear c6
          try clear c7
          try clear c8
          try clear c11
          try clear c14
          try clear c15
          try clear hcz12_0
          try clear hcz12_1
          try clear hcz12_2
          try clear hcz12_3
          try clear hcz16_0
          try clear hcz16_1
          try clear hcz16_2
          try clear hcz16_3
          try clear hcz9_0
          try clear hcz9_1
          try clear hcz9_2
          try clear hcz9_3
          try clear hfz12_0
          try clear hfz12_1
          try clear hfz12_2
          try clear hfz12_3
          try clear hfz16_0
          try clear hfz16_1
          try clear hfz16_2
          try clear hfz16_3
          try clear hfz9_0
          try clear hfz9_1
          try clear hfz9_2
          try clear hfz9_3
          try clear p2
          obtain ⟨x5_2, x119000_2, x119001_2, x119002_2, x119003_2, rfl, HA, HK2, BK118, BK119, HB⟩ := hrel
          cases gk with
          | zero => exact absurd HA.out (by simp [spec_CountEdges.l0])
          | succ k2 =>
            have H := HA.out
            clear HA
            simp only [spec_CountEdges.l0] at H
            by_cases c17 : x5_2 < (l1.length : Int)
            · rw [if_pos c17] at H
              have c17b0 : decide (x5_2 < (l1.length : Int)) = true := decide_eq_true c17
              clear c17
              by_cases c18 : 0 ≤ x5_2
              · rw [if_pos c18] at H
                have c18b0 : decide (0 ≤ x5_2) = true := decide_eq_true c18
                clear c18
                replace H := Option.bind_eq_some_iff.mp H
                obtain ⟨⟨t122, t123, t124, t125⟩, A190, H⟩ := H
                replace H : (spec_CountEdges.l0 k2 l1 (wrap64 (x5_2 + 1)) t122 t123 t124 t125) = some (r1, r2, r3, r4) := H
                have A19 := Aside0.mk A190
                clear A190
                have H' := Aside0.mk H
                clear H
                try go_wp2
                have n0_ := Aside0.mk (blk_drew BK118.out)
                have n1_ := Aside0.mk (blk_drew BK119.out)
                have n2_ := Aside0.mk (below_drew1 HB.out)
                clear BK118
                clear BK119
                clear HB
                have BK118 := n0_
                have BK119 := n1_
                have HB := n2_
                clear n0_ n1_ n2_
                have p121 : 0 ≤ (x5_2 : Int) := of_decide_eq_true (by first | (with_reducible assumption) | assumption)
                have q121 : x5_2 < (l1.length : Int) := of_decide_eq_true (by first | (with_reducible assumption) | assumption)
                obtain ⟨ad121, e121, hx121_0⟩ := Kd.at_bool HR1.out x5_2 p121 q121
                have hw121_0 := hx121_0
                cases e121
                replace hx121_0 := (HB.out.cell (World.block_lt_of_cell? w _ hx121_0)).trans hx121_0
                replace p121 := eq_true p121
                replace q121 := eq_true q121
                refine start_ (n := 7) (S := fun w' => w'.cell? ⟨gb118, 0, none⟩ = some (.int .i64 x119000_2) ∧ w'.cell? ⟨gb118, 1, none⟩ = some (.int .i64 x119001_2) ∧ w'.cell? ⟨gb118, 2, none⟩ = some (.bool x119002_2) ∧ w'.cell? ⟨gb118, 3, none⟩ = some (.bool x119003_2) ∧ w'.cell? (ad121.add (x5_2).toNat) = some (.bool (rdOf false l1 x5_2))) (ds := [6]) #[false, false, false, false, false, false, false] (by kernel_rfl) rfl rfl ⟨(blk_cell BK118.out 0).trans rfl, (blk_cell BK118.out 1).trans rfl, (blk_cell BK118.out 2).trans rfl, (blk_cell BK118.out 3).trans rfl, ((HB.out.cell (World.block_lt_of_cell? w _ hw121_0)).trans hw121_0)⟩ (fun hHeld => ?_)
                generalize wr.drew = w20 at BK118 BK119 HB hx121_0 hHeld ⊢
                refine pure_ (i := 1) (N := some 22) (v := ?_) (a' := ?_) #[false, true, false, false, false, false, false] rfl rfl (by kernel_rfl) (fun _ _ _ h => h) (Or.inl ⟨by rfl, ?_⟩) ?_ ?_
                rotate_left
                · intro w'
                  go_simp
                  with_reducible rfl
                rotate_left
                · simp only [Act.put, List.setIfInBounds_toArray, List.set_cons_zero, List.set_cons_succ, i64_w, i32_w]
                  rfl
                refine pure_ (i := 2) (N := some 23) (v := ?_) (a' := ?_) #[false, true, true, false, false, false, false] rfl rfl (by kernel_rfl) (fun _ _ _ h => h) (Or.inl ⟨by rfl, ?_⟩) ?_ ?_
                rotate_left
                · intro w'
                  go_simp
                  with_reducible rfl
                rotate_left
                · simp only [Act.put, List.setIfInBounds_toArray, List.set_cons_zero, List.set_cons_succ, i64_w, i32_w]
                  rfl
                refine pure_ (i := 3) (N := some 24) (v := ?_) (a' := ?_) #[false, true, true, true, false, false, false] rfl rfl (by kernel_rfl) (fun _ _ _ h => h) (Or.inl ⟨by rfl, ?_⟩) ?_ ?_
                rotate_left
                · intro w'
                  go_simp
                  with_reducible rfl
                rotate_left
                · simp only [Act.put, List.setIfInBounds_toArray, List.set_cons_zero, List.set_cons_succ, i64_w, i32_w]
                  rfl
                refine take_ (i := 0) (N := some 21) (v := ?_) (a' := ?_) #[true, true, true, true, false, false, false] rfl rfl (by kernel_rfl) (fun _ _ _ h => h) (Or.inl ⟨by rfl, ?_⟩) hHeld ?_ ?_
                rotate_left
                · rintro w' ⟨s0, s1, s2, s3, s4⟩
                  go_simp
                  with_reducible rfl
                rotate_left
                · simp only [Act.put, List.setIfInBounds_toArray, List.set_cons_zero, List.set_cons_succ, i64_w, i32_w]
                  rfl
                refine take_ (i := 4) (N := some 25) (v := ?_) (a' := ?_) #[true, true, true, true, true, false, false] rfl rfl (by kernel_rfl) (fun _ _ _ h => h) (Or.inl ⟨by rfl, ?_⟩) hHeld ?_ ?_
                rotate_left
                · rintro w' ⟨s0, s1, s2, s3, s4⟩
                  go_simp
                  with_reducible rfl
                rotate_left
                · simp only [Act.put, List.setIfInBounds_toArray, List.set_cons_zero, List.set_cons_succ, i64_w, i32_w]
                  rfl
                refine one_ (i := 5) (N := some 26) #[true, true, true, true, true, true, false] rfl rfl (by kernel_rfl) (by decide) (fun K hK => ?_)
                refine goes_ Try.func63 (by kernel_rfl) rfl #[.agg #[.int .i64 x119000_2, .int .i64 x119001_2, .bool x119002_2, .bool x119003_2], .bool (rdOf false l1 x5_2), .bool false, .bool false, .bool false] (by rfl) rfl rfl (by (try simp only [List.map_toArray, List.map_cons, List.map_nil]); first | done | rfl | (simp only [List.length_drop, List.length_take]; rfl)) ?_
                with_reducible refine (spec_l6Step.calls k2 x119000_2 x119001_2 x119002_2 x119003_2 (rdOf false l1 x5_2) false false false t122 t123 t124 t125 _ A19.out).mono ?_
                rintro e w21 ⟨rfl, hb⟩
                refine ⟨_, rfl, ?_⟩
                have n0_ := Aside0.mk (blk_below (g := gb118) (o := .cells #[.int .i64 x119000_2, .int .i64 x119001_2, .bool x119002_2, .bool x119003_2] 40 (0, 0)) (by (with_reducible repeat (first | refine blk_drewN ?_ _ | refine blk_drew ?_ | refine blk_alloc ?_ _)); exact BK118.out) hb)
                have n1_ := Aside0.mk (blk_below (g := gb119) (o := .cells #[.int .i64 0, .int .i64 0, .bool false, .bool false] 40 (0, 0)) (by (with_reducible repeat (first | refine blk_drewN ?_ _ | refine blk_drew ?_ | refine blk_alloc ?_ _)); exact BK119.out) hb)
                have n2_ := Aside0.mk (below_step (by repeat (first | (with_reducible first | exact HB.out | apply below_alloc | apply pw_below_drewN | apply below_drew1 | refine below_set ?_ GE118.out | refine below_set ?_ GE119.out) | exact HB.out)) hb)
                clear BK118
                clear BK119
                clear HB
                have BK118 := n0_
                have BK119 := n1_
                have HB := n2_
                clear n0_ n1_ n2_
                (try clear hb)
                (try clear hb2)
                (try clear hk)
                (try clear hi)
                refine hK.out _ _ ⟨(blk_cell BK118.out 0).trans rfl, (blk_cell BK118.out 1).trans rfl, (blk_cell BK118.out 2).trans rfl, (blk_cell BK118.out 3).trans rfl, ((HB.out.cell (World.block_lt_of_cell? w _ hw121_0)).trans hw121_0)⟩ (fun hHeld => ?_)
                clear hK K
                refine norm_ (a' := ?_) ?_ ?_
                rotate_left
                · show Act.put _ (some 26) _ = _
                  simp only [Act.put, List.setIfInBounds_toArray, List.set_cons_zero, List.set_cons_succ, i64_w, i32_w]
                  rfl
                refine last_ (i := 6) (N := none) #[true, true, true, true, true, true, true] rfl rfl (by kernel_rfl) (by decide) (fun K hK => ?_)
                have hs22 : w21.cell? ⟨gb118, 0, none⟩ = some (.int .i64 x119000_2) := (blk_cell BK118.out 0).trans rfl
                have hfs22 := blk_frozen BK118.out 0
                have hns22_1 := NB119_118.out
                have hms22_1 := NB118_119.out
                have hs23 : w21.cell? ⟨gb118, 1, none⟩ = some (.int .i64 x119001_2) := (blk_cell BK118.out 1).trans rfl
                have hfs23 := blk_frozen BK118.out 1
                have hns23_1 := NB119_118.out
                have hms23_1 := NB118_119.out
                have hs24 : w21.cell? ⟨gb118, 2, none⟩ = some (.bool x119002_2) := (blk_cell BK118.out 2).trans rfl
                have hfs24 := blk_frozen BK118.out 2
                have hns24_1 := NB119_118.out
                have hms24_1 := NB118_119.out
                have hs25 : w21.cell? ⟨gb118, 3, none⟩ = some (.bool x119003_2) := (blk_cell BK118.out 3).trans rfl
                have hfs25 := blk_frozen BK118.out 3
                have hns25_1 := NB119_118.out
                have hms25_1 := NB118_119.out
                refine skip_ (w1 := ?_) (by rfl) rfl ?_ ?_
                rotate_left
                · go_simp
                  rfl
                refine hK.out _ _ ?_
                clear hK K
                refine done_ (by kernel_rfl) ?_
                try go_wp2
                go_roundg k2
                case measure => have := HJ2.out; have := HK2.out; omega
                case rel => exact ⟨(wrap64 (x5_2 + 1)), (t122), (t123), (t124), (t125), (by first | rfl | (simp; done) | (simp [*]; done)), H', ⟨by have := HJ2.out; have := HK2.out; omega⟩, ⟨by (with_reducible repeat (first | refine blk_drewN ?_ _ | refine blk_drew ?_ | refine blk_alloc ?_ _)); refine blk_put (cs := #[.int .i64 t122, .int .i64 t123, .bool t124, .bool x119003_2]) ?_ 3 _ rfl; (with_reducible repeat (first | refine blk_drewN ?_ _ | refine blk_drew ?_ | refine blk_alloc ?_ _)); refine blk_put (cs := #[.int .i64 t122, .int .i64 t123, .bool x119002_2, .bool x119003_2]) ?_ 2 _ rfl; (with_reducible repeat (first | refine blk_drewN ?_ _ | refine blk_drew ?_ | refine blk_alloc ?_ _)); refine blk_put (cs := #[.int .i64 t122, .int .i64 x119001_2, .bool x119002_2, .bool x119003_2]) ?_ 1 _ rfl; (with_reducible repeat (first | refine blk_drewN ?_ _ | refine blk_drew ?_ | refine blk_alloc ?_ _)); refine blk_put (cs := #[.int .i64 x119000_2, .int .i64 x119001_2, .bool x119002_2, .bool x119003_2]) ?_ 0 _ rfl; (with_reducible repeat (first | refine blk_drewN ?_ _ | refine blk_drew ?_ | refine blk_alloc ?_ _)); exact BK118.out⟩, ⟨by (with_reducible repeat (first | refine blk_drewN ?_ _ | refine blk_drew ?_ | refine blk_alloc ?_ _)); refine blk_far ?_ NB119_118.out _; (with_reducible repeat (first | refine blk_drewN ?_ _ | refine blk_drew ?_ | refine blk_alloc ?_ _)); refine blk_far ?_ NB119_118.out _; (with_reducible repeat (first | refine blk_drewN ?_ _ | refine blk_drew ?_ | refine blk_alloc ?_ _)); refine blk_far ?_ NB119_118.out _; (with_reducible repeat (first | refine blk_drewN ?_ _ | refine blk_drew ?_ | refine blk_alloc ?_ _)); refine blk_far ?_ NB119_118.out _; (with_reducible repeat (first | refine blk_drewN ?_ _ | refine blk_drew ?_ | refine blk_alloc ?_ _)); exact BK119.out⟩, ⟨by repeat (first | (with_reducible first | exact HB.out | apply below_alloc | apply pw_below_drewN | apply below_drew1 | refine below_set ?_ GE118.out | refine below_set ?_ GE119.out) | exact HB.out)⟩⟩
              · rw [if_neg c18] at H
                exact absurd H (by simp)
            · rw [if_neg c17] at H
              have c17b0 : decide (x5_2 < (l1.length : Int)) = false := decide_eq_false c17
              clear c17
              simp only [Option.some.injEq, Prod.mk.injEq] at H
              obtain ⟨rfl, rfl, rfl, rfl⟩ := H
              have hnb26 := NB118_119.out
              have hnc26 := NB119_118.out
              have hcz27_0 : wr.cell? ⟨gb118, 0, none⟩ = some (.int .i64 x119000_2) := (blk_cell BK118.out 0).trans rfl
              have hcz27_1 : wr.cell? ⟨gb118, 1, none⟩ = some (.int .i64 x119001_2) := (blk_cell BK118.out 1).trans rfl
              have hcz27_2 : wr.cell? ⟨gb118, 2, none⟩ = some (.bool x119002_2) := (blk_cell BK118.out 2).trans rfl
              have hcz27_3 : wr.cell? ⟨gb118, 3, none⟩ = some (.bool x119003_2) := (blk_cell BK118.out 3).trans rfl
              have hfz27_0 := blk_frozen BK118.out 0
              have hfz27_1 := blk_frozen BK118.out 1
              have hfz27_2 := blk_frozen BK118.out 2
              have hfz27_3 := blk_frozen BK118.out 3
              have hcz28_0 : wr.cell? ⟨gb119, 0, none⟩ = some (.int .i64 0) := (blk_cell BK119.out 0).trans rfl
              have hcz28_1 : wr.cell? ⟨gb119, 1, none⟩ = some (.int .i64 0) := (blk_cell BK119.out 1).trans rfl
              have hcz28_2 : wr.cell? ⟨gb119, 2, none⟩ = some (.bool false) := (blk_cell BK119.out 2).trans rfl
              have hcz28_3 : wr.cell? ⟨gb119, 3, none⟩ = some (.bool false) := (blk_cell BK119.out 3).trans rfl
              have hfz28_0 := blk_frozen BK119.out 0
              have hfz28_1 := blk_frozen BK119.out 1
              have hfz28_2 := blk_frozen BK119.out 2
              have hfz28_3 := blk_frozen BK119.out 3
              go_wp2
              refine bodyPost_ret (results_cell_row rfl _ _ gb119 40 #[.int .i64 x119000_2, .int .i64 x119001_2, .bool x119002_2, .bool x119003_2] (0, 0) _ rfl (by (with_reducible repeat (first | refine blk_drewN ?_ _ | refine blk_drew ?_ | refine blk_alloc ?_ _)); refine blk_put (cs := #[.int .i64 x119000_2, .int .i64 x119001_2, .bool x119002_2, .bool false]) ?_ 3 _ rfl; (with_reducible repeat (first | refine blk_drewN ?_ _ | refine blk_drew ?_ | refine blk_alloc ?_ _)); refine blk_put (cs := #[.int .i64 x119000_2, .int .i64 x119001_2, .bool false, .bool false]) ?_ 2 _ rfl; (with_reducible repeat (first | refine blk_drewN ?_ _ | refine blk_drew ?_ | refine blk_alloc ?_ _)); refine blk_put (cs := #[.int .i64 x119000_2, .int .i64 0, .bool false, .bool false]) ?_ 1 _ rfl; (with_reducible repeat (first | refine blk_drewN ?_ _ | refine blk_drew ?_ | refine blk_alloc ?_ _)); refine blk_put (cs := #[.int .i64 0, .int .i64 0, .bool false, .bool false]) ?_ 0 _ rfl; (with_reducible repeat (first | refine blk_drewN ?_ _ | refine blk_drew ?_ | refine blk_alloc ?_ _)); exact BK119.out) Try.underlying40 rfl (by kernel_rfl)) rfl ?_
              exact ⟨by first | rfl | (simp [errW_none, errW_some] <;> rfl) | (simp [*, errW_none, errW_some] <;> rfl), by repeat (first | (with_reducible first | exact HB.out | apply below_alloc | apply pw_below_drewN | apply below_drew1 | refine below_set ?_ GE118.out | refine below_set ?_ GE119.out) | exact HB.out)⟩

/-! ### impl_RisingEdge: function 61 -/
def impl_RisingEdge.f (a0 : Bool) (a1 : Bool) : Option (Bool) := if a1 = true then (some (!a0)) else (some false)
set_option maxHeartbeats 8000000 in
set_option maxRecDepth 100000 in
theorem impl_RisingEdge.calls (a0 : Bool) (a1 : Bool) (r : Bool) (w : World) (h : impl_RisingEdge.f a0 a1 = some r) :
    Calls Try.prog 61 #[.bool a0, .bool a1] w fun e w' => e = .returned (.bool r) ∧ Drawn0 w w' := by
  have H : (if a1 = true then (some (!a0)) else (some false)) = some r := h
  clear h
  by_cases c3 : a1 = true
  · subst c3
    have H1 : (some (!a0)) = some r := by rw [if_pos rfl] at H; exact H
    clear H
    have H := H1
    clear H1
    obtain rfl := Option.some.inj H
    go_enter Try.func61, Try.ntmps61
    go_wp2
    go_ret
    exact ⟨by first | rfl | (simp; done) | (simp [*]; done), by repeat (first | exact Drawn0.refl _ | apply Drawn0.step)⟩
  · replace c3 := Bool.eq_false_iff.mpr c3
    subst c3
    have H1 : (some false) = some r := by rw [if_neg (show ¬ (false = true) by decide)] at H; exact H
    clear H
    have H := H1
    clear H1
    obtain rfl := Option.some.inj H
    go_enter Try.func61, Try.ntmps61
    go_wp2
    go_ret
    exact ⟨by first | rfl | (simp; done) | (simp [*]; done), by repeat (first | exact Drawn0.refl _ | apply Drawn0.step)⟩

/-! ### impl_in: function 66 -/
def impl_in.f (a0 : Int) (a1 : Int) (a2 : Int) : Option (Bool) := if a0 ≥ a1 then (some (decide (a0 ≤ a2))) else (some false)
set_option maxHeartbeats 8000000 in
set_option maxRecDepth 100000 in
theorem impl_in.calls (a0 : Int) (a1 : Int) (a2 : Int) (r : Bool) (w : World) (h : impl_in.f a0 a1 a2 = some r) :
    Calls Try.prog 66 #[.int .i64 a0, .int .i64 a1, .int .i64 a2] w fun e w' => e = .returned (.bool r) ∧ Drawn0 w w' := by
  have H : (if a0 ≥ a1 then (some (decide (a0 ≤ a2))) else (some false)) = some r := h
  clear h
  by_cases c4 : a0 ≥ a1
  · rw [if_pos c4] at H
    have c4b0 : decide (a1 ≤ a0) = true := decide_eq_true c4
    clear c4
    obtain rfl := Option.some.inj H
    go_enter Try.func66, Try.ntmps66
    go_wp2
    go_ret
    exact ⟨by first | rfl | (simp; done) | (simp [*]; done), by repeat (first | exact Drawn0.refl _ | apply Drawn0.step)⟩
  · rw [if_neg c4] at H
    have c4b0 : decide (a1 ≤ a0) = false := decide_eq_false c4
    clear c4
    obtain rfl := Option.some.inj H
    go_enter Try.func66, Try.ntmps66
    go_wp2
    go_ret
    exact ⟨by first | rfl | (simp; done) | (simp [*]; done), by repeat (first | exact Drawn0.refl _ | apply Drawn0.step)⟩

/-! ### impl_CounterValid: function 64 -/
def impl_CounterValid.f (a0_0 : Int) (a0_1 : Int) (a0_2 : Bool) (a0_3 : Bool) : Option (Bool) := (impl_in.f a0_0 0 9999).bind fun t127 => (if t127 = true then ((impl_in.f a0_1 0 9999).bind fun t128 => (some t128)) else (some false))
set_option maxHeartbeats 8000000 in
set_option maxRecDepth 100000 in
theorem impl_CounterValid.calls (a0_0 : Int) (a0_1 : Int) (a0_2 : Bool) (a0_3 : Bool) (r : Bool) (w : World) (h : impl_CounterValid.f a0_0 a0_1 a0_2 a0_3 = some r) :
    Calls Try.prog 64 #[.agg #[.int .i64 a0_0, .int .i64 a0_1, .bool a0_2, .bool a0_3]] w fun e w' => e = .returned (.bool r) ∧ Below w.heap.size w w' := by
  have hu40 := Try.underlying40
  have HB := Aside0.mk (Below.refl w.heap.size w)
  have H : ((impl_in.f a0_0 0 9999).bind fun t127 => (if t127 = true then ((impl_in.f a0_1 0 9999).bind fun t128 => (some t128)) else (some false))) = some r := h
  clear h
  replace H := Option.bind_eq_some_iff.mp H
  obtain ⟨t127, A20, H⟩ := H
  replace H : (if t127 = true then ((impl_in.f a0_1 0 9999).bind fun t128 => (some t128)) else (some false)) = some r := H
  have A2 := Aside0.mk A20
  clear A20
  by_cases c3 : t127 = true
  · subst c3
    have H1 : ((impl_in.f a0_1 0 9999).bind fun t128 => (some t128)) = some r := by rw [if_pos rfl] at H; exact H
    clear H
    have H := H1
    clear H1
    replace H := Option.bind_eq_some_iff.mp H
    obtain ⟨t128, A40, H⟩ := H
    replace H : (some t128) = some r := H
    have A4 := Aside0.mk A40
    clear A40
    obtain rfl := Option.some.inj H
    go_enter Try.func64, Try.ntmps64
    go_wp2_with (first | ((with_reducible refine gate_dst (N := 1) rfl ?_); refine box_event ?hg (N := 1) ?hd (cs := #[.int .i64 a0_0, .int .i64 a0_1, .bool a0_2, .bool a0_3]) (t := 40) ?hr ?_; (case hd => rfl); (case hg => rfl); (case hr => first | (go_simp; done) | (go_simp; rfl)); intro gb126 hg w5 hbox hb; have n0_ := Aside0.mk (below_step (by repeat (first | (with_reducible first | exact HB.out | apply below_alloc | apply pw_below_drewN | apply below_drew1) | exact HB.out)) hb); have n1_ := Aside0.mk (hbox); have n2_ := Aside0.mk ((by rw [hg]; exact (below_size (by repeat (first | (with_reducible first | exact HB.out | apply below_alloc | apply pw_below_drewN | apply below_drew1) | exact HB.out))) : w.heap.size ≤ gb126)); have n3_ := Aside0.mk ((by rw [hg]; exact (below_size (by repeat (first | (with_reducible first | exact HB.out | apply below_alloc | apply pw_below_drewN | apply below_drew1) | exact HB.out))) : w.heap.size ≤ gb126)); clear HB; have HB := n0_; have BK126 := n1_; have GW126 := n2_; have GE126 := n3_; clear n0_ n1_ n2_ n3_; clear hb hbox hg; have hcz6_0 : w5.cell? ⟨gb126, 0, none⟩ = some (.int .i64 a0_0) := (blk_cell BK126.out 0).trans rfl; have hcz6_1 : w5.cell? ⟨gb126, 1, none⟩ = some (.int .i64 a0_1) := (blk_cell BK126.out 1).trans rfl; have hcz6_2 : w5.cell? ⟨gb126, 2, none⟩ = some (.bool a0_2) := (blk_cell BK126.out 2).trans rfl; have hcz6_3 : w5.cell? ⟨gb126, 3, none⟩ = some (.bool a0_3) := (blk_cell BK126.out 3).trans rfl; have hfz6_0 := blk_frozen BK126.out 0; have hfz6_1 := blk_frozen BK126.out 1; have hfz6_2 := blk_frozen BK126.out 2; have hfz6_3 := blk_frozen BK126.out 3) | ((with_reducible refine gate_callee (f := 66) rfl ?_); refine goesL_ (some 5) rfl rfl Try.func66 (by kernel_rfl) rfl #[.int .i64 a0_0, .int .i64 0, .int .i64 9999] rfl (by (try simp only [List.map_toArray, List.map_cons, List.map_nil]); first | done | rfl | (simp only [List.length_drop, List.length_take]; rfl)) ?_; (with_reducible refine (impl_in.calls a0_0 0 9999 true _ A2.out).mono ?_); rintro e w' ⟨rfl, ⟨nd, rfl⟩⟩; refine ⟨_, rfl, ?_⟩) | (go_at_call 66; (with_reducible refine (impl_in.calls a0_1 0 9999 t128 _ A4.out).mono ?_); rintro e w' ⟨rfl, ⟨nd, rfl⟩⟩))
    go_ret
    exact ⟨by first | rfl | (simp [errW_none, errW_some] <;> rfl) | (simp [*, errW_none, errW_some] <;> rfl), by repeat (first | (with_reducible first | exact HB.out | apply below_alloc | apply pw_below_drewN | apply below_drew1 | refine below_set ?_ GE126.out) | exact HB.out)⟩
  · replace c3 := Bool.eq_false_iff.mpr c3
    subst c3
    have H1 : (some false) = some r := by rw [if_neg (show ¬ (false = true) by decide)] at H; exact H
    clear H
    have H := H1
    clear H1
    obtain rfl := Option.some.inj H
    go_enter Try.func64, Try.ntmps64
    go_wp2_with (first | ((with_reducible refine gate_dst (N := 1) rfl ?_); refine box_event ?hg (N := 1) ?hd (cs := #[.int .i64 a0_0, .int .i64 a0_1, .bool a0_2, .bool a0_3]) (t := 40) ?hr ?_; (case hd => rfl); (case hg => rfl); (case hr => first | (go_simp; done) | (go_simp; rfl)); intro gb126 hg w7 hbox hb; have n0_ := Aside0.mk (below_step (by repeat (first | (with_reducible first | exact HB.out | apply below_alloc | apply pw_below_drewN | apply below_drew1) | exact HB.out)) hb); have n1_ := Aside0.mk (hbox); have n2_ := Aside0.mk ((by rw [hg]; exact (below_size (by repeat (first | (with_reducible first | exact HB.out | apply below_alloc | apply pw_below_drewN | apply below_drew1) | exact HB.out))) : w.heap.size ≤ gb126)); have n3_ := Aside0.mk ((by rw [hg]; exact (below_size (by repeat (first | (with_reducible first | exact HB.out | apply below_alloc | apply pw_below_drewN | apply below_drew1) | exact HB.out))) : w.heap.size ≤ gb126)); clear HB; have HB := n0_; have BK126 := n1_; have GW126 := n2_; have GE126 := n3_; clear n0_ n1_ n2_ n3_; clear hb hbox hg; have hcz8_0 : w7.cell? ⟨gb126, 0, none⟩ = some (.int .i64 a0_0) := (blk_cell BK126.out 0).trans rfl; have hcz8_1 : w7.cell? ⟨gb126, 1, none⟩ = some (.int .i64 a0_1) := (blk_cell BK126.out 1).trans rfl; have hcz8_2 : w7.cell? ⟨gb126, 2, none⟩ = some (.bool a0_2) := (blk_cell BK126.out 2).trans rfl; have hcz8_3 : w7.cell? ⟨gb126, 3, none⟩ = some (.bool a0_3) := (blk_cell BK126.out 3).trans rfl; have hfz8_0 := blk_frozen BK126.out 0; have hfz8_1 := blk_frozen BK126.out 1; have hfz8_2 := blk_frozen BK126.out 2; have hfz8_3 := blk_frozen BK126.out 3) | ((with_reducible refine gate_callee (f := 66) rfl ?_); refine goesL_ (some 5) rfl rfl Try.func66 (by kernel_rfl) rfl #[.int .i64 a0_0, .int .i64 0, .int .i64 9999] rfl (by (try simp only [List.map_toArray, List.map_cons, List.map_nil]); first | done | rfl | (simp only [List.length_drop, List.length_take]; rfl)) ?_; (with_reducible refine (impl_in.calls a0_0 0 9999 false _ A2.out).mono ?_); rintro e w' ⟨rfl, ⟨nd, rfl⟩⟩; refine ⟨_, rfl, ?_⟩))
    go_ret
    exact ⟨by first | rfl | (simp [errW_none, errW_some] <;> rfl) | (simp [*, errW_none, errW_some] <;> rfl), by repeat (first | (with_reducible first | exact HB.out | apply below_alloc | apply pw_below_drewN | apply below_drew1 | refine below_set ?_ GE126.out) | exact HB.out)⟩

/-! ### impl_CounterStep: function 32 -/
def impl_CounterStep.j0 : Nat → Bool → Bool → Bool → Bool → Bool → Int → Int → Bool → Bool → Option (Int × Int × Bool × Bool)
  | 0, _, _, _, _, _, _, _, _, _ => none
  | k + 1, x1, x2, x11, x12, x33, x130000, x130001, x130002, x130003 => if x33 = true then (some (x130000, mn (wrap64 (x130001 + 1)) 9999, x1, x2)) else (if x12 = true then (if x11 = true then (some (x130000, x130001, x1, x2)) else (some (x130000, mx (wrap64 (x130001 - 1)) 0, x1, x2))) else (some (x130000, x130001, x1, x2)))
def impl_CounterStep.f (k : Nat) (a0_0 : Int) (a0_1 : Int) (a0_2 : Bool) (a0_3 : Bool) (a1 : Bool) (a2 : Bool) (a3 : Bool) (a4 : Bool) : Option (Int × Int × Bool × Bool) := (impl_CounterValid.f a0_0 a0_1 a0_2 a0_3).bind fun t131 => (if t131 = true then ((impl_RisingEdge.f a0_2 a1).bind fun t132 => ((impl_RisingEdge.f a0_3 a2).bind fun t133 => (if a3 = true then (some (a0_0, 0, a1, a2)) else (if a4 = true then (some (a0_0, a0_0, a1, a2)) else (if t132 = true then (impl_CounterStep.j0 k a1 a2 t132 t133 (!t133) a0_0 a0_1 a0_2 a0_3) else (impl_CounterStep.j0 k a1 a2 t132 t133 false a0_0 a0_1 a0_2 a0_3)))))) else (some (0, 0, false, false)))
theorem impl_CounterStep.mono_l : ∀ k, (∀ y0 y1 y2 y3 y4 y5 y6 y7 y8, LeO (impl_CounterStep.j0 k y0 y1 y2 y3 y4 y5 y6 y7 y8) (impl_CounterStep.j0 (k + 1) y0 y1 y2 y3 y4 y5 y6 y7 y8))
  | 0 => fun _ _ _ _ _ _ _ _ _ r h => by simp [impl_CounterStep.j0] at h
  | k + 1 => by
    have ih0 := impl_CounterStep.mono_l k
    · intro y0 y1 y2 y3 y4 y5 y6 y7 y8
      unfold impl_CounterStep.j0
      repeat' first
      | (with_reducible exact ih0 _ _ _ _ _ _ _ _ _)
      | (with_reducible exact LeO.refl _)
      | (with_reducible exact LeO.none _)
      | (with_reducible refine LeO.ite ?_ ?_)
      | (with_reducible refine LeO.bind ?_ (fun _ => ?_))
      | exact ih0 _ _ _ _ _ _ _ _ _
      | exact LeO.none _
      | refine LeO.ite ?_ ?_
      | refine LeO.bind ?_ (fun _ => ?_)
theorem impl_CounterStep.mono : ∀ a0 a1 a2 a3 a4 a5 a6 a7 k, LeO (impl_CounterStep.f k a0 a1 a2 a3 a4 a5 a6 a7) (impl_CounterStep.f (k + 1) a0 a1 a2 a3 a4 a5 a6 a7) := by
  intro a0 a1 a2 a3 a4 a5 a6 a7 k
  have ih0 := impl_CounterStep.mono_l k
  unfold impl_CounterStep.f
  repeat' first
      | (with_reducible exact ih0 _ _ _ _ _ _ _ _ _)
      | (with_reducible exact LeO.refl _)
      | (with_reducible exact LeO.none _)
      | (with_reducible refine LeO.ite ?_ ?_)
      | (with_reducible refine LeO.bind ?_ (fun _ => ?_))
      | exact ih0 _ _ _ _ _ _ _ _ _
      | exact LeO.none _
      | refine LeO.ite ?_ ?_
      | refine LeO.bind ?_ (fun _ => ?_)
set_option maxHeartbeats 8000000 in
set_option maxRecDepth 100000 in
theorem impl_CounterStep.calls (k : Nat) (a0_0 : Int) (a0_1 : Int) (a0_2 : Bool) (a0_3 : Bool) (a1 : Bool) (a2 : Bool) (a3 : Bool) (a4 : Bool) (r1 : Int) (r2 : Int) (r3 : Bool) (r4 : Bool) (w : World) (h : impl_CounterStep.f k a0_0 a0_1 a0_2 a0_3 a1 a2 a3 a4 = some (r1, r2, r3, r4)) :
    Calls Try.prog 32 #[.agg #[.int .i64 a0_0, .int .i64 a0_1, .bool a0_2, .bool a0_3], .bool a1, .bool a2, .bool a3, .bool a4] w fun e w' => e = .returned (.agg #[.int .i64 r1, .int .i64 r2, .bool r3, .bool r4]) ∧ Below w.heap.size w w' := by
  have hu40 := Try.underlying40
  have HB := Aside0.mk (Below.refl w.heap.size w)
  have H : ((impl_CounterValid.f a0_0 a0_1 a0_2 a0_3).bind fun t131 => (if t131 = true then ((impl_RisingEdge.f a0_2 a1).bind fun t132 => ((impl_RisingEdge.f a0_3 a2).bind fun t133 => (if a3 = true then (some (a0_0, 0, a1, a2)) else (if a4 = true then (some (a0_0, a0_0, a1, a2)) else (if t132 = true then (impl_CounterStep.j0 k a1 a2 t132 t133 (!t133) a0_0 a0_1 a0_2 a0_3) else (impl_CounterStep.j0 k a1 a2 t132 t133 false a0_0 a0_1 a0_2 a0_3)))))) else (some (0, 0, false, false)))) = some (r1, r2, r3, r4) := h
  clear h
  replace H := Option.bind_eq_some_iff.mp H
  obtain ⟨t131, A60, H⟩ := H
  replace H : (if t131 = true then ((impl_RisingEdge.f a0_2 a1).bind fun t132 => ((impl_RisingEdge.f a0_3 a2).bind fun t133 => (if a3 = true then (some (a0_0, 0, a1, a2)) else (if a4 = true then (some (a0_0, a0_0, a1, a2)) else (if t132 = true then (impl_CounterStep.j0 k a1 a2 t132 t133 (!t133) a0_0 a0_1 a0_2 a0_3) else (impl_CounterStep.j0 k a1 a2 t132 t133 false a0_0 a0_1 a0_2 a0_3)))))) else (some (0, 0, false, false))) = some (r1, r2, r3, r4) := H
  have A6 := Aside0.mk A60
  clear A60
  by_cases c7 : t131 = true
  · subst c7
    have H1 : ((impl_RisingEdge.f a0_2 a1).bind fun t132 => ((impl_RisingEdge.f a0_3 a2).bind fun t133 => (if a3 = true then (some (a0_0, 0, a1, a2)) else (if a4 = true then (some (a0_0, a0_0, a1, a2)) else (if t132 = true then (impl_CounterStep.j0 k a1 a2 t132 t133 (!t133) a0_0 a0_1 a0_2 a0_3) else (impl_CounterStep.j0 k a1 a2 t132 t133 false a0_0 a0_1 a0_2 a0_3)))))) = some (r1, r2, r3, r4) := by rw [if_pos rfl] at H; exact H
    clear H
    have H := H1
    clear H1
    replace H := Option.bind_eq_some_iff.mp H
    obtain ⟨t132, A80, H⟩ := H
    replace H : ((impl_RisingEdge.f a0_3 a2).bind fun t133 => (if a3 = true then (some (a0_0, 0, a1, a2)) else (if a4 = true then (some (a0_0, a0_0, a1, a2)) else (if t132 = true then (impl_CounterStep.j0 k a1 a2 t132 t133 (!t133) a0_0 a0_1 a0_2 a0_3) else (impl_CounterStep.j0 k a1 a2 t132 t133 false a0_0 a0_1 a0_2 a0_3))))) = some (r1, r2, r3, r4) := H
    have A8 := Aside0.mk A80
    clear A80
    replace H := Option.bind_eq_some_iff.mp H
    obtain ⟨t133, A90, H⟩ := H
    replace H : (if a3 = true then (some (a0_0, 0, a1, a2)) else (if a4 = true then (some (a0_0, a0_0, a1, a2)) else (if t132 = true then (impl_CounterStep.j0 k a1 a2 t132 t133 (!t133) a0_0 a0_1 a0_2 a0_3) else (impl_CounterStep.j0 k a1 a2 t132 t133 false a0_0 a0_1 a0_2 a0_3)))) = some (r1, r2, r3, r4) := H
    have A9 := Aside0.mk A90
    clear A90
    by_cases c10 : a3 = true
    · subst c10
      have H1 : (some (a0_0, 0, a1, a2)) = some (r1, r2, r3, r4) := by rw [if_pos rfl] at H; exact H
      clear H
      have H := H1
      clear H1
      simp only [Option.some.injEq, Prod.mk.injEq] at H
      obtain ⟨rfl, rfl, rfl, rfl⟩ := H
      go_enter Try.func32, Try.ntmps32
      go_wp2_with (first | ((with_reducible refine gate_dst (N := 5) rfl ?_); refine box_event ?hg (N := 5) ?hd (cs := #[.int .i64 a0_0, .int .i64 a0_1, .bool a0_2, .bool a0_3]) (t := 40) ?hr ?_; (case hd => rfl); (case hg => rfl); (case hr => first | (go_simp; done) | (go_simp; rfl)); intro gb129 hg w11 hbox hb; have n0_ := Aside0.mk (below_step (by repeat (first | (with_reducible first | exact HB.out | apply below_alloc | apply pw_below_drewN | apply below_drew1) | exact HB.out)) hb); have n1_ := Aside0.mk (hbox); have n2_ := Aside0.mk ((by rw [hg]; exact (below_size (by repeat (first | (with_reducible first | exact HB.out | apply below_alloc | apply pw_below_drewN | apply below_drew1) | exact HB.out))) : w.heap.size ≤ gb129)); have n3_ := Aside0.mk ((by rw [hg]; exact (below_size (by repeat (first | (with_reducible first | exact HB.out | apply below_alloc | apply pw_below_drewN | apply below_drew1) | exact HB.out))) : w.heap.size ≤ gb129)); clear HB; have HB := n0_; have BK129 := n1_; have GW129 := n2_; have GE129 := n3_; clear n0_ n1_ n2_ n3_; clear hb hbox hg) | ((with_reducible refine gate_dst (N := 10) rfl ?_); refine box_event ?hg (N := 10) ?hd (cs := #[.int .i64 0, .int .i64 0, .bool false, .bool false]) (t := 40) ?hr ?_; (case hd => rfl); (case hg => rfl); (case hr => first | (go_simp; done) | (go_simp; rfl)); intro gb130 hg w12 hbox hb; have n0_ := Aside0.mk (blk_below (g := gb129) (o := .cells #[.int .i64 a0_0, .int .i64 a0_1, .bool a0_2, .bool a0_3] 40 (0, 0)) (by (with_reducible repeat (first | refine blk_drewN ?_ _ | refine blk_drew ?_ | refine blk_alloc ?_ _)); exact BK129.out) hb); have n1_ := Aside0.mk (below_step (by repeat (first | (with_reducible first | exact HB.out | apply below_alloc | apply pw_below_drewN | apply below_drew1 | refine below_set ?_ GE129.out) | exact HB.out)) hb); have n2_ := Aside0.mk (hbox); have n3_ := Aside0.mk ((by rw [hg]; exact (below_size (by repeat (first | (with_reducible first | exact HB.out | apply below_alloc | apply pw_below_drewN | apply below_drew1 | refine below_set ?_ GE129.out) | exact HB.out))) : w.heap.size ≤ gb130)); have n4_ := Aside0.mk ((by rw [hg]; exact (below_size (by repeat (first | (with_reducible first | exact HB.out | apply below_alloc | apply pw_below_drewN | apply below_drew1 | refine below_set ?_ GE129.out) | exact HB.out))) : w.heap.size ≤ gb130)); have n5_ := Aside0.mk ((by rw [hg]; exact Nat.ne_of_lt (blk_lt (g := gb129) (o := .cells #[.int .i64 a0_0, .int .i64 a0_1, .bool a0_2, .bool a0_3] 40 (0, 0)) (by (with_reducible repeat (first | refine blk_drewN ?_ _ | refine blk_drew ?_ | refine blk_alloc ?_ _)); exact BK129.out)) : gb129 ≠ gb130)); have n6_ := Aside0.mk ((by rw [hg]; exact Nat.ne_of_gt (blk_lt (g := gb129) (o := .cells #[.int .i64 a0_0, .int .i64 a0_1, .bool a0_2, .bool a0_3] 40 (0, 0)) (by (with_reducible repeat (first | refine blk_drewN ?_ _ | refine blk_drew ?_ | refine blk_alloc ?_ _)); exact BK129.out)) : gb130 ≠ gb129)); clear BK129; clear HB; have BK129 := n0_; have HB := n1_; have BK130 := n2_; have GW130 := n3_; have GE130 := n4_; have NB129_130 := n5_; have NB130_129 := n6_; clear n0_ n1_ n2_ n3_ n4_ n5_ n6_; clear hb hbox hg; have hnb13 := NB129_130.out; have hnc13 := NB130_129.out; have hcz14_0 : w12.cell? ⟨gb129, 0, none⟩ = some (.int .i64 a0_0) := (blk_cell BK129.out 0).trans rfl; have hcz14_1 : w12.cell? ⟨gb129, 1, none⟩ = some (.int .i64 a0_1) := (blk_cell BK129.out 1).trans rfl; have hcz14_2 : w12.cell? ⟨gb129, 2, none⟩ = some (.bool a0_2) := (blk_cell BK129.out 2).trans rfl; have hcz14_3 : w12.cell? ⟨gb129, 3, none⟩ = some (.bool a0_3) := (blk_cell BK129.out 3).trans rfl; have hfz14_0 := blk_frozen BK129.out 0; have hfz14_1 := blk_frozen BK129.out 1; have hfz14_2 := blk_frozen BK129.out 2; have hfz14_3 := blk_frozen BK129.out 3) | (go_at_call 64; (with_reducible refine (impl_CounterValid.calls a0_0 a0_1 a0_2 a0_3 true _ A6.out).mono ?_); rintro e w15 ⟨rfl, hb⟩; have n0_ := Aside0.mk (blk_below (g := gb129) (o := .cells #[.int .i64 a0_0, .int .i64 a0_1, .bool a0_2, .bool a0_3] 40 (0, 0)) (by (with_reducible repeat (first | refine blk_drewN ?_ _ | refine blk_drew ?_ | refine blk_alloc ?_ _)); exact BK129.out) hb); have n1_ := Aside0.mk (blk_below (g := gb130) (o := .cells #[.int .i64 0, .int .i64 0, .bool false, .bool false] 40 (0, 0)) (by (with_reducible repeat (first | refine blk_drewN ?_ _ | refine blk_drew ?_ | refine blk_alloc ?_ _)); exact BK130.out) hb); have n2_ := Aside0.mk (below_step (by repeat (first | (with_reducible first | exact HB.out | apply below_alloc | apply pw_below_drewN | apply below_drew1 | refine below_set ?_ GE129.out | refine below_set ?_ GE130.out) | exact HB.out)) hb); clear BK129; clear BK130; clear HB; have BK129 := n0_; have BK130 := n1_; have HB := n2_; clear n0_ n1_ n2_; (try clear hb); (try clear hb2); (try clear hk); (try clear hi); have hcz16_0 : w15.cell? ⟨gb129, 0, none⟩ = some (.int .i64 a0_0) := (blk_cell BK129.out 0).trans rfl; have hcz16_1 : w15.cell? ⟨gb129, 1, none⟩ = some (.int .i64 a0_1) := (blk_cell BK129.out 1).trans rfl; have hcz16_2 : w15.cell? ⟨gb129, 2, none⟩ = some (.bool a0_2) := (blk_cell BK129.out 2).trans rfl; have hcz16_3 : w15.cell? ⟨gb129, 3, none⟩ = some (.bool a0_3) := (blk_cell BK129.out 3).trans rfl; have hfz16_0 := blk_frozen BK129.out 0; have hfz16_1 := blk_frozen BK129.out 1; have hfz16_2 := blk_frozen BK129.out 2; have hfz16_3 := blk_frozen BK129.out 3) | (go_at_call 61; (with_reducible refine (impl_RisingEdge.calls a0_2 a1 t132 _ A8.out).mono ?_); rintro e w' ⟨rfl, ⟨nd, rfl⟩⟩; (try first | exact ⟨rfl, _, World.drewN_drewN _ _ _⟩ | exact ⟨rfl, _, Eq.trans (World.drewN_drewN _ _ _) (congrArg (World.drewN _) (Nat.add_assoc _ _ _))⟩)) | (go_at_call 61; (with_reducible refine (impl_RisingEdge.calls a0_3 a2 t133 _ A9.out).mono ?_); rintro e w' ⟨rfl, ⟨nd, rfl⟩⟩; (try first | exact ⟨rfl, _, World.drewN_drewN _ _ _⟩ | exact ⟨rfl, _, Eq.trans (World.drewN_drewN _ _ _) (congrArg (World.drewN _) (Nat.add_assoc _ _ _))⟩); have hcz17_0 : w15.cell? ⟨gb130, 0, none⟩ = some (.int .i64 0) := (blk_cell BK130.out 0).trans rfl; have hcz17_1 : w15.cell? ⟨gb130, 1, none⟩ = some (.int .i64 0) := (blk_cell BK130.out 1).trans rfl; have hcz17_2 : w15.cell? ⟨gb130, 2, none⟩ = some (.bool false) := (blk_cell BK130.out 2).trans rfl; have hcz17_3 : w15.cell? ⟨gb130, 3, none⟩ = some (.bool false) := (blk_cell BK130.out 3).trans rfl; have hfz17_0 := blk_frozen BK130.out 0; have hfz17_1 := blk_frozen BK130.out 1; have hfz17_2 := blk_frozen BK130.out 2; have hfz17_3 := blk_frozen BK130.out 3))
      repeat (go_quiet (first | ((with_reducible refine gate_dst (N := 5) rfl ?_); refine box_event ?hg (N := 5) ?hd (cs := #[.int .i64 a0_0, .int .i64 a0_1, .bool a0_2, .bool a0_3]) (t := 40) ?hr ?_; (case hd => rfl); (case hg => rfl); (case hr => first | (go_simp; done) | (go_simp; rfl)); intro gb129 hg w11 hbox hb; have n0_ := Aside0.mk (below_step (by repeat (first | (with_reducible first | exact HB.out | apply below_alloc | apply pw_below_drewN | apply below_drew1) | exact HB.out)) hb); have n1_ := Aside0.mk (hbox); have n2_ := Aside0.mk ((by rw [hg]; exact (below_size (by repeat (first | (with_reducible first | exact HB.out | apply below_alloc | apply pw_below_drewN | apply below_drew1) | exact HB.out))) : w.heap.size ≤ gb129)); have n3_ := Aside0.mk ((by rw [hg]; exact (below_size (by repeat (first | (with_reducible first | exact HB.out | apply below_alloc | apply pw_below_drewN | apply below_drew1) | exact HB.out))) : w.heap.size ≤ gb129)); clear HB; have HB := n0_; have BK129 := n1_; have GW129 := n2_; have GE129 := n3_; clear n0_ n1_ n2_ n3_; clear hb hbox hg) | ((with_reducible refine gate_dst (N := 10) rfl ?_); refine box_event ?hg (N := 10) ?hd (cs := #[.int .i64 0, .int .i64 0, .bool false, .bool false]) (t := 40) ?hr ?_; (case hd => rfl); (case hg => rfl); (case hr => first | (go_simp; done) | (go_simp; rfl)); intro gb130 hg w12 hbox hb; have n0_ := Aside0.mk (blk_below (g := gb129) (o := .cells #[.int .i64 a0_0, .int .i64 a0_1, .bool a0_2, .bool a0_3] 40 (0, 0)) (by (with_reducible repeat (first | refine blk_drewN ?_ _ | refine blk_drew ?_ | refine blk_alloc ?_ _)); exact BK129.out) hb); have n1_ := Aside0.mk (below_step (by repeat (first | (with_reducible first | exact HB.out | apply below_alloc | apply pw_below_drewN | apply below_drew1 | refine below_set ?_ GE129.out) | exact HB.out)) hb); have n2_ := Aside0.mk (hbox); have n3_ := Aside0.mk ((by rw [hg]; exact (below_size (by repeat (first | (with_reducible first | exact HB.out | apply below_alloc | apply pw_below_drewN | apply below_drew1 | refine below_set ?_ GE129.out) | exact HB.out))) : w.heap.size ≤ gb130)); have n4_ := Aside0.mk ((by rw [hg]; exact (below_size (by repeat (first | (with_reducible first | exact HB.out | apply below_alloc | apply pw_below_drewN | apply below_drew1 | refine below_set ?_ GE129.out) | exact HB.out))) : w.heap.size ≤ gb130)); have n5_ := Aside0.mk ((by rw [hg]; exact Nat.ne_of_lt (blk_lt (g := gb129) (o := .cells #[.int .i64 a0_0, .int .i64 a0_1, .bool a0_2, .bool a0_3] 40 (0, 0)) (by (with_reducible repeat (first | refine blk_drewN ?_ _ | refine blk_drew ?_ | refine blk_alloc ?_ _)); exact BK129.out)) : gb129 ≠ gb130)); have n6_ := Aside0.mk ((by rw [hg]; exact Nat.ne_of_gt (blk_lt (g := gb129) (o := .cells #[.int .i64 a0_0, .int .i64 a0_1, .bool a0_2, .bool a0_3] 40 (0, 0)) (by (with_reducible repeat (first | refine blk_drewN ?_ _ | refine blk_drew ?_ | refine blk_alloc ?_ _)); exact BK129.out)) : gb130 ≠ gb129)); clear BK129; clear HB; have BK129 := n0_; have HB := n1_; have BK130 := n2_; have GW130 := n3_; have GE130 := n4_; have NB129_130 := n5_; have NB130_129 := n6_; clear n0_ n1_ n2_ n3_ n4_ n5_ n6_; clear hb hbox hg; have hnb13 := NB129_130.out; have hnc13 := NB130_129.out; have hcz14_0 : w12.cell? ⟨gb129, 0, none⟩ = some (.int .i64 a0_0) := (blk_cell BK129.out 0).trans rfl; have hcz14_1 : w12.cell? ⟨gb129, 1, none⟩ = some (.int .i64 a0_1) := (blk_cell BK129.out 1).trans rfl; have hcz14_2 : w12.cell? ⟨gb129, 2, none⟩ = some (.bool a0_2) := (blk_cell BK129.out 2).trans rfl; have hcz14_3 : w12.cell? ⟨gb129, 3, none⟩ = some (.bool a0_3) := (blk_cell BK129.out 3).trans rfl; have hfz14_0 := blk_frozen BK129.out 0; have hfz14_1 := blk_frozen BK129.out 1; have hfz14_2 := blk_frozen BK129.out 2; have hfz14_3 := blk_frozen BK129.out 3) | (go_at_call 64; (with_reducible refine (impl_CounterValid.calls a0_0 a0_1 a0_2 a0_3 true _ A6.out).mono ?_); rintro e w15 ⟨rfl, hb⟩; have n0_ := Aside0.mk (blk_below (g := gb129) (o := .cells #[.int .i64 a0_0, .int .i64 a0_1, .bool a0_2, .bool a0_3] 40 (0, 0)) (by (with_reducible repeat (first | refine blk_drewN ?_ _ | refine blk_drew ?_ | refine blk_alloc ?_ _)); exact BK129.out) hb); have n1_ := Aside0.mk (blk_below (g := gb130) (o := .cells #[.int .i64 0, .int .i64 0, .bool false, .bool false] 40 (0, 0)) (by (with_reducible repeat (first | refine blk_drewN ?_ _ | refine blk_drew ?_ | refine blk_alloc ?_ _)); exact BK130.out) hb); have n2_ := Aside0.mk (below_step (by repeat (first | (with_reducible first | exact HB.out | apply below_alloc | apply pw_below_drewN | apply below_drew1 | refine below_set ?_ GE129.out | refine below_set ?_ GE130.out) | exact HB.out)) hb); clear BK129; clear BK130; clear HB; have BK129 := n0_; have BK130 := n1_; have HB := n2_; clear n0_ n1_ n2_; (try clear hb); (try clear hb2); (try clear hk); (try clear hi); have hcz16_0 : w15.cell? ⟨gb129, 0, none⟩ = some (.int .i64 a0_0) := (blk_cell BK129.out 0).trans rfl; have hcz16_1 : w15.cell? ⟨gb129, 1, none⟩ = some (.int .i64 a0_1) := (blk_cell BK129.out 1).trans rfl; have hcz16_2 : w15.cell? ⟨gb129, 2, none⟩ = some (.bool a0_2) := (blk_cell BK129.out 2).trans rfl; have hcz16_3 : w15.cell? ⟨gb129, 3, none⟩ = some (.bool a0_3) := (blk_cell BK129.out 3).trans rfl; have hfz16_0 := blk_frozen BK129.out 0; have hfz16_1 := blk_frozen BK129.out 1; have hfz16_2 := blk_frozen BK129.out 2; have hfz16_3 := blk_frozen BK129.out 3) | (go_at_call 61; (with_reducible refine (impl_RisingEdge.calls a0_2 a1 t132 _ A8.out).mono ?_); rintro e w' ⟨rfl, ⟨nd, rfl⟩⟩; (try first | exact ⟨rfl, _, World.drewN_drewN _ _ _⟩ | exact ⟨rfl, _, Eq.trans (World.drewN_drewN _ _ _) (congrArg (World.drewN _) (Nat.add_assoc _ _ _))⟩)) | (go_at_call 61; (with_reducible refine (impl_RisingEdge.calls a0_3 a2 t133 _ A9.out).mono ?_); rintro e w' ⟨rfl, ⟨nd, rfl⟩⟩; (try first | exact ⟨rfl, _, World.drewN_drewN _ _ _⟩ | exact ⟨rfl, _, Eq.trans (World.drewN_drewN _ _ _) (congrArg (World.drewN _) (Nat.add_assoc _ _ _))⟩); have hcz17_0 : w15.cell? ⟨gb130, 0, none⟩ = some (.int .i64 0) := (blk_cell BK130.out 0).trans rfl; have hcz17_1 : w15.cell? ⟨gb130, 1, none⟩ = some (.int .i64 0) := (blk_cell BK130.out 1).trans rfl; have hcz17_2 : w15.cell? ⟨gb130, 2, none⟩ = some (.bool false) := (blk_cell BK130.out 2).trans rfl; have hcz17_3 : w15.cell? ⟨gb130, 3, none⟩ = some (.bool false) := (blk_cell BK130.out 3).trans rfl; have hfz17_0 := blk_frozen BK130.out 0; have hfz17_1 := blk_frozen BK130.out 1; have hfz17_2 := blk_frozen BK130.out 2; have hfz17_3 := blk_frozen BK130.out 3)); try go_wp2_with (first | ((with_reducible refine gate_dst (N := 5) rfl ?_); refine box_event ?hg (N := 5) ?hd (cs := #[.int .i64 a0_0, .int .i64 a0_1, .bool a0_2, .bool a0_3]) (t := 40) ?hr ?_; (case hd => rfl); (case hg => rfl); (case hr => first | (go_simp; done) | (go_simp; rfl)); intro gb129 hg w11 hbox hb; have n0_ := Aside0.mk (below_step (by repeat (first | (with_reducible first | exact HB.out | apply below_alloc | apply pw_below_drewN | apply below_drew1) | exact HB.out)) hb); have n1_ := Aside0.mk (hbox); have n2_ := Aside0.mk ((by rw [hg]; exact (below_size (by repeat (first | (with_reducible first | exact HB.out | apply below_alloc | apply pw_below_drewN | apply below_drew1) | exact HB.out))) : w.heap.size ≤ gb129)); have n3_ := Aside0.mk ((by rw [hg]; exact (below_size (by repeat (first | (with_reducible first | exact HB.out | apply below_alloc | apply pw_below_drewN | apply below_drew1) | exact HB.out))) : w.heap.size ≤ gb129)); clear HB; have HB := n0_; have BK129 := n1_; have GW129 := n2_; have GE129 := n3_; clear n0_ n1_ n2_ n3_; clear hb hbox hg) | ((with_reducible refine gate_dst (N := 10) rfl ?_); refine box_event ?hg (N := 10) ?hd (cs := #[.int .i64 0, .int .i64 0, .bool false, .bool false]) (t := 40) ?hr ?_; (case hd => rfl); (case hg => rfl); (case hr => first | (go_simp; done) | (go_simp; rfl)); intro gb130 hg w12 hbox hb; have n0_ := Aside0.mk (blk_below (g := gb129) (o := .cells #[.int .i64 a0_0, .int .i64 a0_1, .bool a0_2, .bool a0_3] 40 (0, 0)) (by (with_reducible repeat (first | refine blk_drewN ?_ _ | refine blk_drew ?_ | refine blk_alloc ?_ _)); exact BK129.out) hb); have n1_ := Aside0.mk (below_step (by repeat (first | (with_reducible first | exact HB.out | apply below_alloc | apply pw_below_drewN | apply below_drew1 | refine below_set ?_ GE129.out) | exact HB.out)) hb); have n2_ := Aside0.mk (hbox); have n3_ := Aside0.mk ((by rw [hg]; exact (below_size (by repeat (first | (with_reducible first | exact HB.out | apply below_alloc | apply pw_below_drewN | apply below_drew1 | refine below_set ?_ GE129.out) | exact HB.out))) : w.heap.size ≤ gb130)); have n4_ := Aside0.mk ((by rw [hg]; exact (below_size (by repeat (first | (with_reducible first | exact HB.out | apply below_alloc | apply pw_below_drewN | apply below_drew1 | refine below_set ?_ GE129.out) | exact HB.out))) : w.heap.size ≤ gb130)); have n5_ := Aside0.mk ((by rw [hg]; exact Nat.ne_of_lt (blk_lt (g := gb129) (o := .cells #[.int .i64 a0_0, .int .i64 a0_1, .bool a0_2, .bool a0_3] 40 (0, 0)) (by (with_reducible repeat (first | refine blk_drewN ?_ _ | refine blk_drew ?_ | refine blk_alloc ?_ _)); exact BK129.out)) : gb129 ≠ gb130)); have n6_ := Aside0.mk ((by rw [hg]; exact Nat.ne_of_gt (blk_lt (g := gb129) (o := .cells #[.int .i64 a0_0, .int .i64 a0_1, .bool a0_2, .bool a0_3] 40 (0, 0)) (by (with_reducible repeat (first | refine blk_drewN ?_ _ | refine blk_drew ?_ | refine blk_alloc ?_ _)); exact BK129.out)) : gb130 ≠ gb129)); clear BK129; clear HB; have BK129 := n0_; have HB := n1_; have BK130 := n2_; have GW130 := n3_; have GE130 := n4_; have NB129_130 := n5_; have NB130_129 := n6_; clear n0_ n1_ n2_ n3_ n4_ n5_ n6_; clear hb hbox hg; have hnb13 := NB129_130.out; have hnc13 := NB130_129.out; have hcz14_0 : w12.cell? ⟨gb129, 0, none⟩ = some (.int .i64 a0_0) := (blk_cell BK129.out 0).trans rfl; have hcz14_1 : w12.cell? ⟨gb129, 1, none⟩ = some (.int .i64 a0_1) := (blk_cell BK129.out 1).trans rfl; have hcz14_2 : w12.cell? ⟨gb129, 2, none⟩ = some (.bool a0_2) := (blk_cell BK129.out 2).trans rfl; have hcz14_3 : w12.cell? ⟨gb129, 3, none⟩ = some (.bool a0_3) := (blk_cell BK129.out 3).trans rfl; have hfz14_0 := blk_frozen BK129.out 0; have hfz14_1 := blk_frozen BK129.out 1; have hfz14_2 := blk_frozen BK129.out 2; have hfz14_3 := blk_frozen BK129.out 3) | (go_at_call 64; (with_reducible refine (impl_CounterValid.calls a0_0 a0_1 a0_2 a0_3 true _ A6.out).mono ?_); rintro e w15 ⟨rfl, hb⟩; have n0_ := Aside0.mk (blk_below (g := gb129) (o := .cells #[.int .i64 a0_0, .int .i64 a0_1, .bool a0_2, .bool a0_3] 40 (0, 0)) (by (with_reducible repeat (first | refine blk_drewN ?_ _ | refine blk_drew ?_ | refine blk_alloc ?_ _)); exact BK129.out) hb); have n1_ := Aside0.mk (blk_below (g := gb130) (o := .cells #[.int .i64 0, .int .i64 0, .bool false, .bool false] 40 (0, 0)) (by (with_reducible repeat (first | refine blk_drewN ?_ _ | refine blk_drew ?_ | refine blk_alloc ?_ _)); exact BK130.out) hb); have n2_ := Aside0.mk (below_step (by repeat (first | (with_reducible first | exact HB.out | apply below_alloc | apply pw_below_drewN | apply below_drew1 | refine below_set ?_ GE129.out | refine below_set ?_ GE130.out) | exact HB.out)) hb); clear BK129; clear BK130; clear HB; have BK129 := n0_; have BK130 := n1_; have HB := n2_; clear n0_ n1_ n2_; (try clear hb); (try clear hb2); (try clear hk); (try clear hi); have hcz16_0 : w15.cell? ⟨gb129, 0, none⟩ = some (.int .i64 a0_0) := (blk_cell BK129.out 0).trans rfl; have hcz16_1 : w15.cell? ⟨gb129, 1, none⟩ = some (.int .i64 a0_1) := (blk_cell BK129.out 1).trans rfl; have hcz16_2 : w15.cell? ⟨gb129, 2, none⟩ = some (.bool a0_2) := (blk_cell BK129.out 2).trans rfl; have hcz16_3 : w15.cell? ⟨gb129, 3, none⟩ = some (.bool a0_3) := (blk_cell BK129.out 3).trans rfl; have hfz16_0 := blk_frozen BK129.out 0; have hfz16_1 := blk_frozen BK129.out 1; have hfz16_2 := blk_frozen BK129.out 2; have hfz16_3 := blk_frozen BK129.out 3) | (go_at_call 61; (with_reducible refine (impl_RisingEdge.calls a0_2 a1 t132 _ A8.out).mono ?_); rintro e w' ⟨rfl, ⟨nd, rfl⟩⟩; (try first | exact ⟨rfl, _, World.drewN_drewN _ _ _⟩ | exact ⟨rfl, _, Eq.trans (World.drewN_drewN _ _ _) (congrArg (World.drewN _) (Nat.add_assoc _ _ _))⟩)) | (go_at_call 61; (with_reducible refine (impl_RisingEdge.calls a0_3 a2 t133 _ A9.out).mono ?_); rintro e w' ⟨rfl, ⟨nd, rfl⟩⟩; (try first | exact ⟨rfl, _, World.drewN_drewN _ _ _⟩ | exact ⟨rfl, _, Eq.trans (World.drewN_drewN _ _ _) (congrArg (World.drewN _) (Nat.add_assoc _ _ _))⟩); have hcz17_0 : w15.cell? ⟨gb130, 0, none⟩ = some (.int .i64 0) := (blk_cell BK130.out 0).trans rfl; have hcz17_1 : w15.cell? ⟨gb130, 1, none⟩ = some (.int .i64 0) := (blk_cell BK130.out 1).trans rfl; have hcz17_2 : w15.cell? ⟨gb130, 2, none⟩ = some (.bool false) := (blk_cell BK130.out 2).trans rfl; have hcz17_3 : w15.cell? ⟨gb130, 3, none⟩ = some (.bool false) := (blk_cell BK130.out 3).trans rfl; have hfz17_0 := blk_frozen BK130.out 0; have hfz17_1 := blk_frozen BK130.out 1; have hfz17_2 := blk_frozen BK130.out 2; have hfz17_3 := blk_frozen BK130.out 3)))
      refine bodyPost_ret (results_cell_row rfl _ _ gb130 40 #[.int .i64 a0_0, .int .i64 0, .bool a1, .bool a2] (0, 0) _ rfl (by (with_reducible repeat (first | refine blk_drewN ?_ _ | refine blk_drew ?_ | refine blk_alloc ?_ _)); refine blk_put (cs := #[.int .i64 a0_0, .int .i64 0, .bool a1, .bool false]) ?_ 3 _ rfl; (with_reducible repeat (first | refine blk_drewN ?_ _ | refine blk_drew ?_ | refine blk_alloc ?_ _)); refine blk_put (cs := #[.int .i64 a0_0, .int .i64 0, .bool false, .bool false]) ?_ 2 _ rfl; (with_reducible repeat (first | refine blk_drewN ?_ _ | refine blk_drew ?_ | refine blk_alloc ?_ _)); refine blk_put (cs := #[.int .i64 a0_0, .int .i64 0, .bool false, .bool false]) ?_ 1 _ rfl; (with_reducible repeat (first | refine blk_drewN ?_ _ | refine blk_drew ?_ | refine blk_alloc ?_ _)); refine blk_put (cs := #[.int .i64 0, .int .i64 0, .bool false, .bool false]) ?_ 0 _ rfl; (with_reducible repeat (first | refine blk_drewN ?_ _ | refine blk_drew ?_ | refine blk_alloc ?_ _)); refine blk_far ?_ NB130_129.out _; (with_reducible repeat (first | refine blk_drewN ?_ _ | refine blk_drew ?_ | refine blk_alloc ?_ _)); refine blk_far ?_ NB130_129.out _; (with_reducible repeat (first | refine blk_drewN ?_ _ | refine blk_drew ?_ | refine blk_alloc ?_ _)); refine blk_far ?_ NB130_129.out _; (with_reducible repeat (first | refine blk_drewN ?_ _ | refine blk_drew ?_ | refine blk_alloc ?_ _)); exact BK130.out) Try.underlying40 rfl (by kernel_rfl)) rfl ?_
      exact ⟨by first | rfl | (simp [errW_none, errW_some] <;> rfl) | (simp [*, errW_none, errW_some] <;> rfl), by repeat (first | (with_reducible first | exact HB.out | apply below_alloc | apply pw_below_drewN | apply below_drew1 | refine below_set ?_ GE129.out | refine below_set ?_ GE130.out) | exact HB.out)⟩
    · replace c10 := Bool.eq_false_iff.mpr c10
      subst c10
      have H1 : (if a4 = true then (some (a0_0, a0_0, a1, a2)) else (if t132 = true then (impl_CounterStep.j0 k a1 a2 t132 t133 (!t133) a0_0 a0_1 a0_2 a0_3) else (impl_CounterStep.j0 k a1 a2 t132 t133 false a0_0 a0_1 a0_2 a0_3))) = some (r1, r2, r3, r4) := by rw [if_neg (show ¬ (false = true) by decide)] at H; exact H
      clear H
      have H := H1
      clear H1
      by_cases c18 : a4 = true
      · subst c18
        have H1 : (some (a0_0, a0_0, a1, a2)) = some (r1, r2, r3, r4) := by rw [if_pos rfl] at H; exact H
        clear H
        have H := H1
        clear H1
        simp only [Option.some.injEq, Prod.mk.injEq] at H
        obtain ⟨rfl, rfl, rfl, rfl⟩ := H
        go_enter Try.func32, Try.ntmps32
        go_wp2_with (first | ((with_reducible refine gate_dst (N := 5) rfl ?_); refine box_event ?hg (N := 5) ?hd (cs := #[.int .i64 a0_0, .int .i64 a0_1, .bool a0_2, .bool a0_3]) (t := 40) ?hr ?_; (case hd => rfl); (case hg => rfl); (case hr => first | (go_simp; done) | (go_simp; rfl)); intro gb129 hg w19 hbox hb; have n0_ := Aside0.mk (below_step (by repeat (first | (with_reducible first | exact HB.out | apply below_alloc | apply pw_below_drewN | apply below_drew1) | exact HB.out)) hb); have n1_ := Aside0.mk (hbox); have n2_ := Aside0.mk ((by rw [hg]; exact (below_size (by repeat (first | (with_reducible first | exact HB.out | apply below_alloc | apply pw_below_drewN | apply below_drew1) | exact HB.out))) : w.heap.size ≤ gb129)); have n3_ := Aside0.mk ((by rw [hg]; exact (below_size (by repeat (first | (with_reducible first | exact HB.out | apply below_alloc | apply pw_below_drewN | apply below_drew1) | exact HB.out))) : w.heap.size ≤ gb129)); clear HB; have HB := n0_; have BK129 := n1_; have GW129 := n2_; have GE129 := n3_; clear n0_ n1_ n2_ n3_; clear hb hbox hg) | ((with_reducible refine gate_dst (N := 10) rfl ?_); refine box_event ?hg (N := 10) ?hd (cs := #[.int .i64 0, .int .i64 0, .bool false, .bool false]) (t := 40) ?hr ?_; (case hd => rfl); (case hg => rfl); (case hr => first | (go_simp; done) | (go_simp; rfl)); intro gb130 hg w20 hbox hb; have n0_ := Aside0.mk (blk_below (g := gb129) (o := .cells #[.int .i64 a0_0, .int .i64 a0_1, .bool a0_2, .bool a0_3] 40 (0, 0)) (by (with_reducible repeat (first | refine blk_drewN ?_ _ | refine blk_drew ?_ | refine blk_alloc ?_ _)); exact BK129.out) hb); have n1_ := Aside0.mk (below_step (by repeat (first | (with_reducible first | exact HB.out | apply below_alloc | apply pw_below_drewN | apply below_drew1 | refine below_set ?_ GE129.out) | exact HB.out)) hb); have n2_ := Aside0.mk (hbox); have n3_ := Aside0.mk ((by rw [hg]; exact (below_size (by repeat (first | (with_reducible first | exact HB.out | apply below_alloc | apply pw_below_drewN | apply below_drew1 | refine below_set ?_ GE129.out) | exact HB.out))) : w.heap.size ≤ gb130)); have n4_ := Aside0.mk ((by rw [hg]; exact (below_size (by repeat (first | (with_reducible first | exact HB.out | apply below_alloc | apply pw_below_drewN | apply below_drew1 | refine below_set ?_ GE129.out) | exact HB.out))) : w.heap.size ≤ gb130)); have n5_ := Aside0.mk ((by rw [hg]; exact Nat.ne_of_lt (blk_lt (g := gb129) (o := .cells #[.int .i64 a0_0, .int .i64 a0_1, .bool a0_2, .bool a0_3] 40 (0, 0)) (by (with_reducible repeat (first | refine blk_drewN ?_ _ | refine blk_drew ?_ | refine blk_alloc ?_ _)); exact BK129.out)) : gb129 ≠ gb130)); have n6_ := Aside0.mk ((by rw [hg]; exact Nat.ne_of_gt (blk_lt (g := gb129) (o := .cells #[.int .i64 a0_0, .int .i64 a0_1, .bool a0_2, .bool a0_3] 40 (0, 0)) (by (with_reducible repeat (first | refine blk_drewN ?_ _ | refine blk_drew ?_ | refine blk_alloc ?_ _)); exact BK129.out)) : gb130 ≠ gb129)); clear BK129; clear HB; have BK129 := n0_; have HB := n1_; have BK130 := n2_; have GW130 := n3_; have GE130 := n4_; have NB129_130 := n5_; have NB130_129 := n6_; clear n0_ n1_ n2_ n3_ n4_ n5_ n6_; clear hb hbox hg; have hnb21 := NB129_130.out; have hnc21 := NB130_129.out; have hcz22_0 : w20.cell? ⟨gb129, 0, none⟩ = some (.int .i64 a0_0) := (blk_cell BK129.out 0).trans rfl; have hcz22_1 : w20.cell? ⟨gb129, 1, none⟩ = some (.int .i64 a0_1) := (blk_cell BK129.out 1).trans rfl; have hcz22_2 : w20.cell? ⟨gb129, 2, none⟩ = some (.bool a0_2) := (blk_cell BK129.out 2).trans rfl; have hcz22_3 : w20.cell? ⟨gb129, 3, none⟩ = some (.bool a0_3) := (blk_cell BK129.out 3).trans rfl; have hfz22_0 := blk_frozen BK129.out 0; have hfz22_1 := blk_frozen BK129.out 1; have hfz22_2 := blk_frozen BK129.out 2; have hfz22_3 := blk_frozen BK129.out 3) | (go_at_call 64; (with_reducible refine (impl_CounterValid.calls a0_0 a0_1 a0_2 a0_3 true _ A6.out).mono ?_); rintro e w23 ⟨rfl, hb⟩; have n0_ := Aside0.mk (blk_below (g := gb129) (o := .cells #[.int .i64 a0_0, .int .i64 a0_1, .bool a0_2, .bool a0_3] 40 (0, 0)) (by (with_reducible repeat (first | refine blk_drewN ?_ _ | refine blk_drew ?_ | refine blk_alloc ?_ _)); exact BK129.out) hb); have n1_ := Aside0.mk (blk_below (g := gb130) (o := .cells #[.int .i64 0, .int .i64 0, .bool false, .bool false] 40 (0, 0)) (by (with_reducible repeat (first | refine blk_drewN ?_ _ | refine blk_drew ?_ | refine blk_alloc ?_ _)); exact BK130.out) hb); have n2_ := Aside0.mk (below_step (by repeat (first | (with_reducible first | exact HB.out | apply below_alloc | apply pw_below_drewN | apply below_drew1 | refine below_set ?_ GE129.out | refine below_set ?_ GE130.out) | exact HB.out)) hb); clear BK129; clear BK130; clear HB; have BK129 := n0_; have BK130 := n1_; have HB := n2_; clear n0_ n1_ n2_; (try clear hb); (try clear hb2); (try clear hk); (try clear hi); have hcz24_0 : w23.cell? ⟨gb129, 0, none⟩ = some (.int .i64 a0_0) := (blk_cell BK129.out 0).trans rfl; have hcz24_1 : w23.cell? ⟨gb129, 1, none⟩ = some (.int .i64 a0_1) := (blk_cell BK129.out 1).trans rfl; have hcz24_2 : w23.cell? ⟨gb129, 2, none⟩ = some (.bool a0_2) := (blk_cell BK129.out 2).trans rfl; have hcz24_3 : w23.cell? ⟨gb129, 3, none⟩ = some (.bool a0_3) := (blk_cell BK129.out 3).trans rfl; have hfz24_0 := blk_frozen BK129.out 0; have hfz24_1 := blk_frozen BK129.out 1; have hfz24_2 := blk_frozen BK129.out 2; have hfz24_3 := blk_frozen BK129.out 3) | (go_at_call 61; (with_reducible refine (impl_RisingEdge.calls a0_2 a1 t132 _ A8.out).mono ?_); rintro e w' ⟨rfl, ⟨nd, rfl⟩⟩; (try first | exact ⟨rfl, _, World.drewN_drewN _ _ _⟩ | exact ⟨rfl, _, Eq.trans (World.drewN_drewN _ _ _) (congrArg (World.drewN _) (Nat.add_assoc _ _ _))⟩)) | (go_at_call 61; (with_reducible refine (impl_RisingEdge.calls a0_3 a2 t133 _ A9.out).mono ?_); rintro e w' ⟨rfl, ⟨nd, rfl⟩⟩; (try first | exact ⟨rfl, _, World.drewN_drewN _ _ _⟩ | exact ⟨rfl, _, Eq.trans (World.drewN_drewN _ _ _) (congrArg (World.drewN _) (Nat.add_assoc _ _ _))⟩); have hcz25_0 : w23.cell? ⟨gb130, 0, none⟩ = some (.int .i64 0) := (blk_cell BK130.out 0).trans rfl; have hcz25_1 : w23.cell? ⟨gb130, 1, none⟩ = some (.int .i64 0) := (blk_cell BK130.out 1).trans rfl; have hcz25_2 : w23.cell? ⟨gb130, 2, none⟩ = some (.bool false) := (blk_cell BK130.out 2).trans rfl; have hcz25_3 : w23.cell? ⟨gb130, 3, none⟩ = some (.bool false) := (blk_cell BK130.out 3).trans rfl; have hfz25_0 := blk_frozen BK130.out 0; have hfz25_1 := blk_frozen BK130.out 1; have hfz25_2 := blk_frozen BK130.out 2; have hfz25_3 := blk_frozen BK130.out 3))
        repeat (go_quiet (first | ((with_reducible refine gate_dst (N := 5) rfl ?_); refine box_event ?hg (N := 5) ?hd (cs := #[.int .i64 a0_0, .int .i64 a0_1, .bool a0_2, .bool a0_3]) (t := 40) ?hr ?_; (case hd => rfl); (case hg => rfl); (case hr => first | (go_simp; done) | (go_simp; rfl)); intro gb129 hg w19 hbox hb; have n0_ := Aside0.mk (below_step (by repeat (first | (with_reducible first | exact HB.out | apply below_alloc | apply pw_below_drewN | apply below_drew1) | exact HB.out)) hb); have n1_ := Aside0.mk (hbox); have n2_ := Aside0.mk ((by rw [hg]; exact (below_size (by repeat (first | (with_reducible first | exact HB.out | apply below_alloc | apply pw_below_drewN | apply below_drew1) | exact HB.out))) : w.heap.size ≤ gb129)); have n3_ := Aside0.mk ((by rw [hg]; exact (below_size (by repeat (first | (with_reducible first | exact HB.out | apply below_alloc | apply pw_below_drewN | apply below_drew1) | exact HB.out))) : w.heap.size ≤ gb129)); clear HB; have HB := n0_; have BK129 := n1_; have GW129 := n2_; have GE129 := n3_; clear n0_ n1_ n2_ n3_; clear hb hbox hg) | ((with_reducible refine gate_dst (N := 10) rfl ?_); refine box_event ?hg (N := 10) ?hd (cs := #[.int .i64 0, .int .i64 0, .bool false, .bool false]) (t := 40) ?hr ?_; (case hd => rfl); (case hg => rfl); (case hr => first | (go_simp; done) | (go_simp; rfl)); intro gb130 hg w20 hbox hb; have n0_ := Aside0.mk (blk_below (g := gb129) (o := .cells #[.int .i64 a0_0, .int .i64 a0_1, .bool a0_2, .bool a0_3] 40 (0, 0)) (by (with_reducible repeat (first | refine blk_drewN ?_ _ | refine blk_drew ?_ | refine blk_alloc ?_ _)); exact BK129.out) hb); have n1_ := Aside0.mk (below_step (by repeat (first | (with_reducible first | exact HB.out | apply below_alloc | apply pw_below_drewN | apply below_drew1 | refine below_set ?_ GE129.out) | exact HB.out)) hb); have n2_ := Aside0.mk (hbox); have n3_ := Aside0.mk ((by rw [hg]; exact (below_size (by repeat (first | (with_reducible first | exact HB.out | apply below_alloc | apply pw_below_drewN | apply below_drew1 | refine below_set ?_ GE129.out) | exact HB.out))) : w.heap.size ≤ gb130)); have n4_ := Aside0.mk ((by rw [hg]; exact (below_size (by repeat (first | (with_reducible first | exact HB.out | apply below_alloc | apply pw_below_drewN | apply below_drew1 | refine below_set ?_ GE129.out) | exact HB.out))) : w.heap.size ≤ gb130)); have n5_ := Aside0.mk ((by rw [hg]; exact Nat.ne_of_lt (blk_lt (g := gb129) (o := .cells #[.int .i64 a0_0, .int .i64 a0_1, .bool a0_2, .bool a0_3] 40 (0, 0)) (by (with_reducible repeat (first | refine blk_drewN ?_ _ | refine blk_drew ?_ | refine blk_alloc ?_ _)); exact BK129.out)) : gb129 ≠ gb130)); have n6_ := Aside0.mk ((by rw [hg]; exact Nat.ne_of_gt (blk_lt (g := gb129) (o := .cells #[.int .i64 a0_0, .int .i64 a0_1, .bool a0_2, .bool a0_3] 40 (0, 0)) (by (with_reducible repeat (first | refine blk_drewN ?_ _ | refine blk_drew ?_ | refine blk_alloc ?_ _)); exact BK129.out)) : gb130 ≠ gb129)); clear BK129; clear HB; have BK129 := n0_; have HB := n1_; have BK130 := n2_; have GW130 := n3_; have GE130 := n4_; have NB129_130 := n5_; have NB130_129 := n6_; clear n0_ n1_ n2_ n3_ n4_ n5_ n6_; clear hb hbox hg; have hnb21 := NB129_130.out; have hnc21 := NB130_129.out; have hcz22_0 : w20.cell? ⟨gb129, 0, none⟩ = some (.int .i64 a0_0) := (blk_cell BK129.out 0).trans rfl; have hcz22_1 : w20.cell? ⟨gb129, 1, none⟩ = some (.int .i64 a0_1) := (blk_cell BK129.out 1).trans rfl; have hcz22_2 : w20.cell? ⟨gb129, 2, none⟩ = some (.bool a0_2) := (blk_cell BK129.out 2).trans rfl; have hcz22_3 : w20.cell? ⟨gb129, 3, none⟩ = some (.bool a0_3) := (blk_cell BK129.out 3).trans rfl; have hfz22_0 := blk_frozen BK129.out 0; have hfz22_1 := blk_frozen BK129.out 1; have hfz22_2 := blk_frozen BK129.out 2; have hfz22_3 := blk_frozen BK129.out 3) | (go_at_call 64; (with_reducible refine (impl_CounterValid.calls a0_0 a0_1 a0_2 a0_3 true _ A6.out).mono ?_); rintro e w23 ⟨rfl, hb⟩; have n0_ := Aside0.mk (blk_below (g := gb129) (o := .cells #[.int .i64 a0_0, .int .i64 a0_1, .bool a0_2, .bool a0_3] 40 (0, 0)) (by (with_reducible repeat (first | refine blk_drewN ?_ _ | refine blk_drew ?_ | refine blk_alloc ?_ _)); exact BK129.out) hb); have n1_ := Aside0.mk (blk_below (g := gb130) (o := .cells #[.int .i64 0, .int .i64 0, .bool false, .bool false] 40 (0, 0)) (by (with_reducible repeat (first | refine blk_drewN ?_ _ | refine blk_drew ?_ | refine blk_alloc ?_ _)); exact BK130.out) hb); have n2_ := Aside0.mk (below_step (by repeat (first | (with_reducible first | exact HB.out | apply below_alloc | apply pw_below_drewN | apply below_drew1 | refine below_set ?_ GE129.out | refine below_set ?_ GE130.out) | exact HB.out)) hb); clear BK129; clear BK130; clear HB; have BK129 := n0_; have BK130 := n1_; have HB := n2_; clear n0_ n1_ n2_; (try clear hb); (try clear hb2); (try clear hk); (try clear hi); have hcz24_0 : w23.cell? ⟨gb129, 0, none⟩ = some (.int .i64 a0_0) := (blk_cell BK129.out 0).trans rfl; have hcz24_1 : w23.cell? ⟨gb129, 1, none⟩ = some (.int .i64 a0_1) := (blk_cell BK129.out 1).trans rfl; have hcz24_2 : w23.cell? ⟨gb129, 2, none⟩ = some (.bool a0_2) := (blk_cell BK129.out 2).trans rfl; have hcz24_3 : w23.cell? ⟨gb129, 3, none⟩ = some (.bool a0_3) := (blk_cell BK129.out 3).trans rfl; have hfz24_0 := blk_frozen BK129.out 0; have hfz24_1 := blk_frozen BK129.out 1; have hfz24_2 := blk_frozen BK129.out 2; have hfz24_3 := blk_frozen BK129.out 3) | (go_at_call 61; (with_reducible refine (impl_RisingEdge.calls a0_2 a1 t132 _ A8.out).mono ?_); rintro e w' ⟨rfl, ⟨nd, rfl⟩⟩; (try first | exact ⟨rfl, _, World.drewN_drewN _ _ _⟩ | exact ⟨rfl, _, Eq.trans (World.drewN_drewN _ _ _) (congrArg (World.drewN _) (Nat.add_assoc _ _ _))⟩)) | (go_at_call 61; (with_reducible refine (impl_RisingEdge.calls a0_3 a2 t133 _ A9.out).mono ?_); rintro e w' ⟨rfl, ⟨nd, rfl⟩⟩; (try first | exact ⟨rfl, _, World.drewN_drewN _ _ _⟩ | exact ⟨rfl, _, Eq.trans (World.drewN_drewN _ _ _) (congrArg (World.drewN _) (Nat.add_assoc _ _ _))⟩); have hcz25_0 : w23.cell? ⟨gb130, 0, none⟩ = some (.int .i64 0) := (blk_cell BK130.out 0).trans rfl; have hcz25_1 : w23.cell? ⟨gb130, 1, none⟩ = some (.int .i64 0) := (blk_cell BK130.out 1).trans rfl; have hcz25_2 : w23.cell? ⟨gb130, 2, none⟩ = some (.bool false) := (blk_cell BK130.out 2).trans rfl; have hcz25_3 : w23.cell? ⟨gb130, 3, none⟩ = some (.bool false) := (blk_cell BK130.out 3).trans rfl; have hfz25_0 := blk_frozen BK130.out 0; have hfz25_1 := blk_frozen BK130.out 1; have hfz25_2 := blk_frozen BK130.out 2; have hfz25_3 := blk_frozen BK130.out 3)); try go_wp2_with (first | ((with_reducible refine gate_dst (N := 5) rfl ?_); refine box_event ?hg (N := 5) ?hd (cs := #[.int .i64 a0_0, .int .i64 a0_1, .bool a0_2, .bool a0_3]) (t := 40) ?hr ?_; (case hd => rfl); (case hg => rfl); (case hr => first | (go_simp; done) | (go_simp; rfl)); intro gb129 hg w19 hbox hb; have n0_ := Aside0.mk (below_step (by repeat (first | (with_reducible first | exact HB.out | apply below_alloc | apply pw_below_drewN | apply below_drew1) | exact HB.out)) hb); have n1_ := Aside0.mk (hbox); have n2_ := Aside0.mk ((by rw [hg]; exact (below_size (by repeat (first | (with_reducible first | exact HB.out | apply below_alloc | apply pw_below_drewN | apply below_drew1) | exact HB.out))) : w.heap.size ≤ gb129)); have n3_ := Aside0.mk ((by rw [hg]; exact (below_size (by repeat (first | (with_reducible first | exact HB.out | apply below_alloc | apply pw_below_drewN | apply below_drew1) | exact HB.out))) : w.heap.size ≤ gb129)); clear HB; have HB := n0_; have BK129 := n1_; have GW129 := n2_; have GE129 := n3_; clear n0_ n1_ n2_ n3_; clear hb hbox hg) | ((with_reducible refine gate_dst (N := 10) rfl ?_); refine box_event ?hg (N := 10) ?hd (cs := #[.int .i64 0, .int .i64 0, .bool false, .bool false]) (t := 40) ?hr ?_; (case hd => rfl); (case hg => rfl); (case hr => first | (go_simp; done) | (go_simp; rfl)); intro gb130 hg w20 hbox hb; have n0_ := Aside0.mk (blk_below (g := gb129) (o := .cells #[.int .i64 a0_0, .int .i64 a0_1, .bool a0_2, .bool a0_3] 40 (0, 0)) (by (with_reducible repeat (first | refine blk_drewN ?_ _ | refine blk_drew ?_ | refine blk_alloc ?_ _)); exact BK129.out) hb); have n1_ := Aside0.mk (below_step (by repeat (first | (with_reducible first | exact HB.out | apply below_alloc | apply pw_below_drewN | apply below_drew1 | refine below_set ?_ GE129.out) | exact HB.out)) hb); have n2_ := Aside0.mk (hbox); have n3_ := Aside0.mk ((by rw [hg]; exact (below_size (by repeat (first | (with_reducible first | exact HB.out | apply below_alloc | apply pw_below_drewN | apply below_drew1 | refine below_set ?_ GE129.out) | exact HB.out))) : w.heap.size ≤ gb130)); have n4_ := Aside0.mk ((by rw [hg]; exact (below_size (by repeat (first | (with_reducible first | exact HB.out | apply below_alloc | apply pw_below_drewN | apply below_drew1 | refine below_set ?_ GE129.out) | exact HB.out))) : w.heap.size ≤ gb130)); have n5_ := Aside0.mk ((by rw [hg]; exact Nat.ne_of_lt (blk_lt (g := gb129) (o := .cells #[.int .i64 a0_0, .int .i64 a0_1, .bool a0_2, .bool a0_3] 40 (0, 0)) (by (with_reducible repeat (first | refine blk_drewN ?_ _ | refine blk_drew ?_ | refine blk_alloc ?_ _)); exact BK129.out)) : gb129 ≠ gb130)); have n6_ := Aside0.mk ((by rw [hg]; exact Nat.ne_of_gt (blk_lt (g := gb129) (o := .cells #[.int .i64 a0_0, .int .i64 a0_1, .bool a0_2, .bool a0_3] 40 (0, 0)) (by (with_reducible repeat (first | refine blk_drewN ?_ _ | refine blk_drew ?_ | refine blk_alloc ?_ _)); exact BK129.out)) : gb130 ≠ gb129)); clear BK129; clear HB; have BK129 := n0_; have HB := n1_; have BK130 := n2_; have GW130 := n3_; have GE130 := n4_; have NB129_130 := n5_; have NB130_129 := n6_; clear n0_ n1_ n2_ n3_ n4_ n5_ n6_; clear hb hbox hg; have hnb21 := NB129_130.out; have hnc21 := NB130_129.out; have hcz22_0 : w20.cell? ⟨gb129, 0, none⟩ = some (.int .i64 a0_0) := (blk_cell BK129.out 0).trans rfl; have hcz22_1 : w20.cell? ⟨gb129, 1, none⟩ = some (.int .i64 a0_1) := (blk_cell BK129.out 1).trans rfl; have hcz22_2 : w20.cell? ⟨gb129, 2, none⟩ = some (.bool a0_2) := (blk_cell BK129.out 2).trans rfl; have hcz22_3 : w20.cell? ⟨gb129, 3, none⟩ = some (.bool a0_3) := (blk_cell BK129.out 3).trans rfl; have hfz22_0 := blk_frozen BK129.out 0; have hfz22_1 := blk_frozen BK129.out 1; have hfz22_2 := blk_frozen BK129.out 2; have hfz22_3 := blk_frozen BK129.out 3) | (go_at_call 64; (with_reducible refine (impl_CounterValid.calls a0_0 a0_1 a0_2 a0_3 true _ A6.out).mono ?_); rintro e w23 ⟨rfl, hb⟩; have n0_ := Aside0.mk (blk_below (g := gb129) (o := .cells #[.int .i64 a0_0, .int .i64 a0_1, .bool a0_2, .bool a0_3] 40 (0, 0)) (by (with_reducible repeat (first | refine blk_drewN ?_ _ | refine blk_drew ?_ | refine blk_alloc ?_ _)); exact BK129.out) hb); have n1_ := Aside0.mk (blk_below (g := gb130) (o := .cells #[.int .i64 0, .int .i64 0, .bool false, .bool false] 40 (0, 0)) (by (with_reducible repeat (first | refine blk_drewN ?_ _ | refine blk_drew ?_ | refine blk_alloc ?_ _)); exact BK130.out) hb); have n2_ := Aside0.mk (below_step (by repeat (first | (with_reducible first | exact HB.out | apply below_alloc | apply pw_below_drewN | apply below_drew1 | refine below_set ?_ GE129.out | refine below_set ?_ GE130.out) | exact HB.out)) hb); clear BK129; clear BK130; clear HB; have BK129 := n0_; have BK130 := n1_; have HB := n2_; clear n0_ n1_ n2_; (try clear hb); (try clear hb2); (try clear hk); (try clear hi); have hcz24_0 : w23.cell? ⟨gb129, 0, none⟩ = some (.int .i64 a0_0) := (blk_cell BK129.out 0).trans rfl; have hcz24_1 : w23.cell? ⟨gb129, 1, none⟩ = some (.int .i64 a0_1) := (blk_cell BK129.out 1).trans rfl; have hcz24_2 : w23.cell? ⟨gb129, 2, none⟩ = some (.bool a0_2) := (blk_cell BK129.out 2).trans rfl; have hcz24_3 : w23.cell? ⟨gb129, 3, none⟩ = some (.bool a0_3) := (blk_cell BK129.out 3).trans rfl; have hfz24_0 := blk_frozen BK129.out 0; have hfz24_1 := blk_frozen BK129.out 1; have hfz24_2 := blk_frozen BK129.out 2; have hfz24_3 := blk_frozen BK129.out 3) | (go_at_call 61; (with_reducible refine (impl_RisingEdge.calls a0_2 a1 t132 _ A8.out).mono ?_); rintro e w' ⟨rfl, ⟨nd, rfl⟩⟩; (try first | exact ⟨rfl, _, World.drewN_drewN _ _ _⟩ | exact ⟨rfl, _, Eq.trans (World.drewN_drewN _ _ _) (congrArg (World.drewN _) (Nat.add_assoc _ _ _))⟩)) | (go_at_call 61; (with_reducible refine (impl_RisingEdge.calls a0_3 a2 t133 _ A9.out).mono ?_); rintro e w' ⟨rfl, ⟨nd, rfl⟩⟩; (try first | exact ⟨rfl, _, World.drewN_drewN _ _ _⟩ | exact ⟨rfl, _, Eq.trans (World.drewN_drewN _ _ _) (congrArg (World.drewN _) (Nat.add_assoc _ _ _))⟩); have hcz25_0 : w23.cell? ⟨gb130, 0, none⟩ = some (.int .i64 0) := (blk_cell BK130.out 0).trans rfl; have hcz25_1 : w23.cell? ⟨gb130, 1, none⟩ = some (.int .i64 0) := (blk_cell BK130.out 1).trans rfl; have hcz25_2 : w23.cell? ⟨gb130, 2, none⟩ = some (.bool false) := (blk_cell BK130.out 2).trans rfl; have hcz25_3 : w23.cell? ⟨gb130, 3, none⟩ = some (.bool false) := (blk_cell BK130.out 3).trans rfl; have hfz25_0 := blk_frozen BK130.out 0; have hfz25_1 := blk_frozen BK130.out 1; have hfz25_2 := blk_frozen BK130.out 2; have hfz25_3 := blk_frozen BK130.out 3)))
        refine bodyPost_ret (results_cell_row rfl _ _ gb130 40 #[.int .i64 a0_0, .int .i64 a0_0, .bool a1, .bool a2] (0, 0) _ rfl (by (with_reducible repeat (first | refine blk_drewN ?_ _ | refine blk_drew ?_ | refine blk_alloc ?_ _)); refine blk_put (cs := #[.int .i64 a0_0, .int .i64 a0_0, .bool a1, .bool false]) ?_ 3 _ rfl; (with_reducible repeat (first | refine blk_drewN ?_ _ | refine blk_drew ?_ | refine blk_alloc ?_ _)); refine blk_put (cs := #[.int .i64 a0_0, .int .i64 a0_0, .bool false, .bool false]) ?_ 2 _ rfl; (with_reducible repeat (first | refine blk_drewN ?_ _ | refine blk_drew ?_ | refine blk_alloc ?_ _)); refine blk_put (cs := #[.int .i64 a0_0, .int .i64 0, .bool false, .bool false]) ?_ 1 _ rfl; (with_reducible repeat (first | refine blk_drewN ?_ _ | refine blk_drew ?_ | refine blk_alloc ?_ _)); refine blk_put (cs := #[.int .i64 0, .int .i64 0, .bool false, .bool false]) ?_ 0 _ rfl; (with_reducible repeat (first | refine blk_drewN ?_ _ | refine blk_drew ?_ | refine blk_alloc ?_ _)); refine blk_far ?_ NB130_129.out _; (with_reducible repeat (first | refine blk_drewN ?_ _ | refine blk_drew ?_ | refine blk_alloc ?_ _)); refine blk_far ?_ NB130_129.out _; (with_reducible repeat (first | refine blk_drewN ?_ _ | refine blk_drew ?_ | refine blk_alloc ?_ _)); refine blk_far ?_ NB130_129.out _; (with_reducible repeat (first | refine blk_drewN ?_ _ | refine blk_drew ?_ | refine blk_alloc ?_ _)); exact BK130.out) Try.underlying40 rfl (by kernel_rfl)) rfl ?_
        exact ⟨by first | rfl | (simp [errW_none, errW_some] <;> rfl) | (simp [*, errW_none, errW_some] <;> rfl), by repeat (first | (with_reducible first | exact HB.out | apply below_alloc | apply pw_below_drewN | apply below_drew1 | refine below_set ?_ GE129.out | refine below_set ?_ GE130.out) | exact HB.out)⟩
      · replace c18 := Bool.eq_false_iff.mpr c18
        subst c18
        have H1 : (if t132 = true then (impl_CounterStep.j0 k a1 a2 t132 t133 (!t133) a0_0 a0_1 a0_2 a0_3) else (impl_CounterStep.j0 k a1 a2 t132 t133 false a0_0 a0_1 a0_2 a0_3)) = some (r1, r2, r3, r4) := by rw [if_neg (show ¬ (false = true) by decide)] at H; exact H
        clear H
        have H := H1
        clear H1
        have HC26 := Aside0.mk H
        clear H
        go_enter Try.func32, Try.ntmps32
        go_upto_region 8 with (first | ((with_reducible refine gate_dst (N := 5) rfl ?_); refine box_event ?hg (N := 5) ?hd (cs := #[.int .i64 a0_0, .int .i64 a0_1, .bool a0_2, .bool a0_3]) (t := 40) ?hr ?_; (case hd => rfl); (case hg => rfl); (case hr => first | (go_simp; done) | (go_simp; rfl)); intro gb129 hg w27 hbox hb; have n0_ := Aside0.mk (below_step (by repeat (first | (with_reducible first | exact HB.out | apply below_alloc | apply pw_below_drewN | apply below_drew1) | exact HB.out)) hb); have n1_ := Aside0.mk (hbox); have n2_ := Aside0.mk ((by rw [hg]; exact (below_size (by repeat (first | (with_reducible first | exact HB.out | apply below_alloc | apply pw_below_drewN | apply below_drew1) | exact HB.out))) : w.heap.size ≤ gb129)); have n3_ := Aside0.mk ((by rw [hg]; exact (below_size (by repeat (first | (with_reducible first | exact HB.out | apply below_alloc | apply pw_below_drewN | apply below_drew1) | exact HB.out))) : w.heap.size ≤ gb129)); clear HB; have HB := n0_; have BK129 := n1_; have GW129 := n2_; have GE129 := n3_; clear n0_ n1_ n2_ n3_; clear hb hbox hg) | ((with_reducible refine gate_dst (N := 10) rfl ?_); refine box_event ?hg (N := 10) ?hd (cs := #[.int .i64 0, .int .i64 0, .bool false, .bool false]) (t := 40) ?hr ?_; (case hd => rfl); (case hg => rfl); (case hr => first | (go_simp; done) | (go_simp; rfl)); intro gb130 hg w28 hbox hb; have n0_ := Aside0.mk (blk_below (g := gb129) (o := .cells #[.int .i64 a0_0, .int .i64 a0_1, .bool a0_2, .bool a0_3] 40 (0, 0)) (by (with_reducible repeat (first | refine blk_drewN ?_ _ | refine blk_drew ?_ | refine blk_alloc ?_ _)); exact BK129.out) hb); have n1_ := Aside0.mk (below_step (by repeat (first | (with_reducible first | exact HB.out | apply below_alloc | apply pw_below_drewN | apply below_drew1 | refine below_set ?_ GE129.out) | exact HB.out)) hb); have n2_ := Aside0.mk (hbox); have n3_ := Aside0.mk ((by rw [hg]; exact (below_size (by repeat (first | (with_reducible first | exact HB.out | apply below_alloc | apply pw_below_drewN | apply below_drew1 | refine below_set ?_ GE129.out) | exact HB.out))) : w.heap.size ≤ gb130)); have n4_ := Aside0.mk ((by rw [hg]; exact (below_size (by repeat (first | (with_reducible first | exact HB.out | apply below_alloc | apply pw_below_drewN | apply below_drew1 | refine below_set ?_ GE129.out) | exact HB.out))) : w.heap.size ≤ gb130)); have n5_ := Aside0.mk ((by rw [hg]; exact Nat.ne_of_lt (blk_lt (g := gb129) (o := .cells #[.int .i64 a0_0, .int .i64 a0_1, .bool a0_2, .bool a0_3] 40 (0, 0)) (by (with_reducible repeat (first | refine blk_drewN ?_ _ | refine blk_drew ?_ | refine blk_alloc ?_ _)); exact BK129.out)) : gb129 ≠ gb130)); have n6_ := Aside0.mk ((by rw [hg]; exact Nat.ne_of_gt (blk_lt (g := gb129) (o := .cells #[.int .i64 a0_0, .int .i64 a0_1, .bool a0_2, .bool a0_3] 40 (0, 0)) (by (with_reducible repeat (first | refine blk_drewN ?_ _ | refine blk_drew ?_ | refine blk_alloc ?_ _)); exact BK129.out)) : gb130 ≠ gb129)); clear BK129; clear HB; have BK129 := n0_; have HB := n1_; have BK130 := n2_; have GW130 := n3_; have GE130 := n4_; have NB129_130 := n5_; have NB130_129 := n6_; clear n0_ n1_ n2_ n3_ n4_ n5_ n6_; clear hb hbox hg; have hnb29 := NB129_130.out; have hnc29 := NB130_129.out; have hcz30_0 : w28.cell? ⟨gb129, 0, none⟩ = some (.int .i64 a0_0) := (blk_cell BK129.out 0).trans rfl; have hcz30_1 : w28.cell? ⟨gb129, 1, none⟩ = some (.int .i64 a0_1) := (blk_cell BK129.out 1).trans rfl; have hcz30_2 : w28.cell? ⟨gb129, 2, none⟩ = some (.bool a0_2) := (blk_cell BK129.out 2).trans rfl; have hcz30_3 : w28.cell? ⟨gb129, 3, none⟩ = some (.bool a0_3) := (blk_cell BK129.out 3).trans rfl; have hfz30_0 := blk_frozen BK129.out 0; have hfz30_1 := blk_frozen BK129.out 1; have hfz30_2 := blk_frozen BK129.out 2; have hfz30_3 := blk_frozen BK129.out 3) | (go_at_call 64; (with_reducible refine (impl_CounterValid.calls a0_0 a0_1 a0_2 a0_3 true _ A6.out).mono ?_); rintro e w31 ⟨rfl, hb⟩; have n0_ := Aside0.mk (blk_below (g := gb129) (o := .cells #[.int .i64 a0_0, .int .i64 a0_1, .bool a0_2, .bool a0_3] 40 (0, 0)) (by (with_reducible repeat (first | refine blk_drewN ?_ _ | refine blk_drew ?_ | refine blk_alloc ?_ _)); exact BK129.out) hb); have n1_ := Aside0.mk (blk_below (g := gb130) (o := .cells #[.int .i64 0, .int .i64 0, .bool false, .bool false] 40 (0, 0)) (by (with_reducible repeat (first | refine blk_drewN ?_ _ | refine blk_drew ?_ | refine blk_alloc ?_ _)); exact BK130.out) hb); have n2_ := Aside0.mk (below_step (by repeat (first | (with_reducible first | exact HB.out | apply below_alloc | apply pw_below_drewN | apply below_drew1 | refine below_set ?_ GE129.out | refine below_set ?_ GE130.out) | exact HB.out)) hb); clear BK129; clear BK130; clear HB; have BK129 := n0_; have BK130 := n1_; have HB := n2_; clear n0_ n1_ n2_; (try clear hb); (try clear hb2); (try clear hk); (try clear hi); have hcz32_0 : w31.cell? ⟨gb129, 0, none⟩ = some (.int .i64 a0_0) := (blk_cell BK129.out 0).trans rfl; have hcz32_1 : w31.cell? ⟨gb129, 1, none⟩ = some (.int .i64 a0_1) := (blk_cell BK129.out 1).trans rfl; have hcz32_2 : w31.cell? ⟨gb129, 2, none⟩ = some (.bool a0_2) := (blk_cell BK129.out 2).trans rfl; have hcz32_3 : w31.cell? ⟨gb129, 3, none⟩ = some (.bool a0_3) := (blk_cell BK129.out 3).trans rfl; have hfz32_0 := blk_frozen BK129.out 0; have hfz32_1 := blk_frozen BK129.out 1; have hfz32_2 := blk_frozen BK129.out 2; have hfz32_3 := blk_frozen BK129.out 3) | (go_at_call 61; (with_reducible refine (impl_RisingEdge.calls a0_2 a1 t132 _ A8.out).mono ?_); rintro e w' ⟨rfl, ⟨nd, rfl⟩⟩; (try first | exact ⟨rfl, _, World.drewN_drewN _ _ _⟩ | exact ⟨rfl, _, Eq.trans (World.drewN_drewN _ _ _) (congrArg (World.drewN _) (Nat.add_assoc _ _ _))⟩)) | (go_at_call 61; (with_reducible refine (impl_RisingEdge.calls a0_3 a2 t133 _ A9.out).mono ?_); rintro e w' ⟨rfl, ⟨nd, rfl⟩⟩; (try first | exact ⟨rfl, _, World.drewN_drewN _ _ _⟩ | exact ⟨rfl, _, Eq.trans (World.drewN_drewN _ _ _) (congrArg (World.drewN _) (Nat.add_assoc _ _ _))⟩)))
        repeat (go_quiet (first | ((with_reducible refine gate_dst (N := 5) rfl ?_); refine box_event ?hg (N := 5) ?hd (cs := #[.int .i64 a0_0, .int .i64 a0_1, .bool a0_2, .bool a0_3]) (t := 40) ?hr ?_; (case hd => rfl); (case hg => rfl); (case hr => first | (go_simp; done) | (go_simp; rfl)); intro gb129 hg w27 hbox hb; have n0_ := Aside0.mk (below_step (by repeat (first | (with_reducible first | exact HB.out | apply below_alloc | apply pw_below_drewN | apply below_drew1) | exact HB.out)) hb); have n1_ := Aside0.mk (hbox); have n2_ := Aside0.mk ((by rw [hg]; exact (below_size (by repeat (first | (with_reducible first | exact HB.out | apply below_alloc | apply pw_below_drewN | apply below_drew1) | exact HB.out))) : w.heap.size ≤ gb129)); have n3_ := Aside0.mk ((by rw [hg]; exact (below_size (by repeat (first | (with_reducible first | exact HB.out | apply below_alloc | apply pw_below_drewN | apply below_drew1) | exact HB.out))) : w.heap.size ≤ gb129)); clear HB; have HB := n0_; have BK129 := n1_; have GW129 := n2_; have GE129 := n3_; clear n0_ n1_ n2_ n3_; clear hb hbox hg) | ((with_reducible refine gate_dst (N := 10) rfl ?_); refine box_event ?hg (N := 10) ?hd (cs := #[.int .i64 0, .int .i64 0, .bool false, .bool false]) (t := 40) ?hr ?_; (case hd => rfl); (case hg => rfl); (case hr => first | (go_simp; done) | (go_simp; rfl)); intro gb130 hg w28 hbox hb; have n0_ := Aside0.mk (blk_below (g := gb129) (o := .cells #[.int .i64 a0_0, .int .i64 a0_1, .bool a0_2, .bool a0_3] 40 (0, 0)) (by (with_reducible repeat (first | refine blk_drewN ?_ _ | refine blk_drew ?_ | refine blk_alloc ?_ _)); exact BK129.out) hb); have n1_ := Aside0.mk (below_step (by repeat (first | (with_reducible first | exact HB.out | apply below_alloc | apply pw_below_drewN | apply below_drew1 | refine below_set ?_ GE129.out) | exact HB.out)) hb); have n2_ := Aside0.mk (hbox); have n3_ := Aside0.mk ((by rw [hg]; exact (below_size (by repeat (first | (with_reducible first | exact HB.out | apply below_alloc | apply pw_below_drewN | apply below_drew1 | refine below_set ?_ GE129.out) | exact HB.out))) : w.heap.size ≤ gb130)); have n4_ := Aside0.mk ((by rw [hg]; exact (below_size (by repeat (first | (with_reducible first | exact HB.out | apply below_alloc | apply pw_below_drewN | apply below_drew1 | refine below_set ?_ GE129.out) | exact HB.out))) : w.heap.size ≤ gb130)); have n5_ := Aside0.mk ((by rw [hg]; exact Nat.ne_of_lt (blk_lt (g := gb129) (o := .cells #[.int .i64 a0_0, .int .i64 a0_1, .bool a0_2, .bool a0_3] 40 (0, 0)) (by (with_reducible repeat (first | refine blk_drewN ?_ _ | refine blk_drew ?_ | refine blk_alloc ?_ _)); exact BK129.out)) : gb129 ≠ gb130)); have n6_ := Aside0.mk ((by rw [hg]; exact Nat.ne_of_gt (blk_lt (g := gb129) (o := .cells #[.int .i64 a0_0, .int .i64 a0_1, .bool a0_2, .bool a0_3] 40 (0, 0)) (by (with_reducible repeat (first | refine blk_drewN ?_ _ | refine blk_drew ?_ | refine blk_alloc ?_ _)); exact BK129.out)) : gb130 ≠ gb129)); clear BK129; clear HB; have BK129 := n0_; have HB := n1_; have BK130 := n2_; have GW130 := n3_; have GE130 := n4_; have NB129_130 := n5_; have NB130_129 := n6_; clear n0_ n1_ n2_ n3_ n4_ n5_ n6_; clear hb hbox hg; have hnb29 := NB129_130.out; have hnc29 := NB130_129.out; have hcz30_0 : w28.cell? ⟨gb129, 0, none⟩ = some (.int .i64 a0_0) := (blk_cell BK129.out 0).trans rfl; have hcz30_1 : w28.cell? ⟨gb129, 1, none⟩ = some (.int .i64 a0_1) := (blk_cell BK129.out 1).trans rfl; have hcz30_2 : w28.cell? ⟨gb129, 2, none⟩ = some (.bool a0_2) := (blk_cell BK129.out 2).trans rfl; have hcz30_3 : w28.cell? ⟨gb129, 3, none⟩ = some (.bool a0_3) := (blk_cell BK129.out 3).trans rfl; have hfz30_0 := blk_frozen BK129.out 0; have hfz30_1 := blk_frozen BK129.out 1; have hfz30_2 := blk_frozen BK129.out 2; have hfz30_3 := blk_frozen BK129.out 3) | (go_at_call 64; (with_reducible refine (impl_CounterValid.calls a0_0 a0_1 a0_2 a0_3 true _ A6.out).mono ?_); rintro e w31 ⟨rfl, hb⟩; have n0_ := Aside0.mk (blk_below (g := gb129) (o := .cells #[.int .i64 a0_0, .int .i64 a0_1, .bool a0_2, .bool a0_3] 40 (0, 0)) (by (with_reducible repeat (first | refine blk_drewN ?_ _ | refine blk_drew ?_ | refine blk_alloc ?_ _)); exact BK129.out) hb); have n1_ := Aside0.mk (blk_below (g := gb130) (o := .cells #[.int .i64 0, .int .i64 0, .bool false, .bool false] 40 (0, 0)) (by (with_reducible repeat (first | refine blk_drewN ?_ _ | refine blk_drew ?_ | refine blk_alloc ?_ _)); exact BK130.out) hb); have n2_ := Aside0.mk (below_step (by repeat (first | (with_reducible first | exact HB.out | apply below_alloc | apply pw_below_drewN | apply below_drew1 | refine below_set ?_ GE129.out | refine below_set ?_ GE130.out) | exact HB.out)) hb); clear BK129; clear BK130; clear HB; have BK129 := n0_; have BK130 := n1_; have HB := n2_; clear n0_ n1_ n2_; (try clear hb); (try clear hb2); (try clear hk); (try clear hi); have hcz32_0 : w31.cell? ⟨gb129, 0, none⟩ = some (.int .i64 a0_0) := (blk_cell BK129.out 0).trans rfl; have hcz32_1 : w31.cell? ⟨gb129, 1, none⟩ = some (.int .i64 a0_1) := (blk_cell BK129.out 1).trans rfl; have hcz32_2 : w31.cell? ⟨gb129, 2, none⟩ = some (.bool a0_2) := (blk_cell BK129.out 2).trans rfl; have hcz32_3 : w31.cell? ⟨gb129, 3, none⟩ = some (.bool a0_3) := (blk_cell BK129.out 3).trans rfl; have hfz32_0 := blk_frozen BK129.out 0; have hfz32_1 := blk_frozen BK129.out 1; have hfz32_2 := blk_frozen BK129.out 2; have hfz32_3 := blk_frozen BK129.out 3) | (go_at_call 61; (with_reducible refine (impl_RisingEdge.calls a0_2 a1 t132 _ A8.out).mono ?_); rintro e w' ⟨rfl, ⟨nd, rfl⟩⟩; (try first | exact ⟨rfl, _, World.drewN_drewN _ _ _⟩ | exact ⟨rfl, _, Eq.trans (World.drewN_drewN _ _ _) (congrArg (World.drewN _) (Nat.add_assoc _ _ _))⟩)) | (go_at_call 61; (with_reducible refine (impl_RisingEdge.calls a0_3 a2 t133 _ A9.out).mono ?_); rintro e w' ⟨rfl, ⟨nd, rfl⟩⟩; (try first | exact ⟨rfl, _, World.drewN_drewN _ _ _⟩ | exact ⟨rfl, _, Eq.trans (World.drewN_drewN _ _ _) (congrArg (World.drewN _) (Nat.add_assoc _ _ _))⟩))); go_upto_region 8 with (first | ((with_reducible refine gate_dst (N := 5) rfl ?_); refine box_event ?hg (N := 5) ?hd (cs := #[.int .i64 a0_0, .int .i64 a0_1, .bool a0_2, .bool a0_3]) (t := 40) ?hr ?_; (case hd => rfl); (case hg => rfl); (case hr => first | (go_simp; done) | (go_simp; rfl)); intro gb129 hg w27 hbox hb; have n0_ := Aside0.mk (below_step (by repeat (first | (with_reducible first | exact HB.out | apply below_alloc | apply pw_below_drewN | apply below_drew1) | exact HB.out)) hb); have n1_ := Aside0.mk (hbox); have n2_ := Aside0.mk ((by rw [hg]; exact (below_size (by repeat (first | (with_reducible first | exact HB.out | apply below_alloc | apply pw_below_drewN | apply below_drew1) | exact HB.out))) : w.heap.size ≤ gb129)); have n3_ := Aside0.mk ((by rw [hg]; exact (below_size (by repeat (first | (with_reducible first | exact HB.out | apply below_alloc | apply pw_below_drewN | apply below_drew1) | exact HB.out))) : w.heap.size ≤ gb129)); clear HB; have HB := n0_; have BK129 := n1_; have GW129 := n2_; have GE129 := n3_; clear n0_ n1_ n2_ n3_; clear hb hbox hg) | ((with_reducible refine gate_dst (N := 10) rfl ?_); refine box_event ?hg (N := 10) ?hd (cs := #[.int .i64 0, .int .i64 0, .bool false, .bool false]) (t := 40) ?hr ?_; (case hd => rfl); (case hg => rfl); (case hr => first | (go_simp; done) | (go_simp; rfl)); intro gb130 hg w28 hbox hb; have n0_ := Aside0.mk (blk_below (g := gb129) (o := .cells #[.int .i64 a0_0, .int .i64 a0_1, .bool a0_2, .bool a0_3] 40 (0, 0)) (by (with_reducible repeat (first | refine blk_drewN ?_ _ | refine blk_drew ?_ | refine blk_alloc ?_ _)); exact BK129.out) hb); have n1_ := Aside0.mk (below_step (by repeat (first | (with_reducible first | exact HB.out | apply below_alloc | apply pw_below_drewN | apply below_drew1 | refine below_set ?_ GE129.out) | exact HB.out)) hb); have n2_ := Aside0.mk (hbox); have n3_ := Aside0.mk ((by rw [hg]; exact (below_size (by repeat (first | (with_reducible first | exact HB.out | apply below_alloc | apply pw_below_drewN | apply below_drew1 | refine below_set ?_ GE129.out) | exact HB.out))) : w.heap.size ≤ gb130)); have n4_ := Aside0.mk ((by rw [hg]; exact (below_size (by repeat (first | (with_reducible first | exact HB.out | apply below_alloc | apply pw_below_drewN | apply below_drew1 | refine below_set ?_ GE129.out) | exact HB.out))) : w.heap.size ≤ gb130)); have n5_ := Aside0.mk ((by rw [hg]; exact Nat.ne_of_lt (blk_lt (g := gb129) (o := .cells #[.int .i64 a0_0, .int .i64 a0_1, .bool a0_2, .bool a0_3] 40 (0, 0)) (by (with_reducible repeat (first | refine blk_drewN ?_ _ | refine blk_drew ?_ | refine blk_alloc ?_ _)); exact BK129.out)) : gb129 ≠ gb130)); have n6_ := Aside0.mk ((by rw [hg]; exact Nat.ne_of_gt (blk_lt (g := gb129) (o := .cells #[.int .i64 a0_0, .int .i64 a0_1, .bool a0_2, .bool a0_3] 40 (0, 0)) (by (with_reducible repeat (first | refine blk_drewN ?_ _ | refine blk_drew ?_ | refine blk_alloc ?_ _)); exact BK129.out)) : gb130 ≠ gb129)); clear BK129; clear HB; have BK129 := n0_; have HB := n1_; have BK130 := n2_; have GW130 := n3_; have GE130 := n4_; have NB129_130 := n5_; have NB130_129 := n6_; clear n0_ n1_ n2_ n3_ n4_ n5_ n6_; clear hb hbox hg; have hnb29 := NB129_130.out; have hnc29 := NB130_129.out; have hcz30_0 : w28.cell? ⟨gb129, 0, none⟩ = some (.int .i64 a0_0) := (blk_cell BK129.out 0).trans rfl; have hcz30_1 : w28.cell? ⟨gb129, 1, none⟩ = some (.int .i64 a0_1) := (blk_cell BK129.out 1).trans rfl; have hcz30_2 : w28.cell? ⟨gb129, 2, none⟩ = some (.bool a0_2) := (blk_cell BK129.out 2).trans rfl; have hcz30_3 : w28.cell? ⟨gb129, 3, none⟩ = some (.bool a0_3) := (blk_cell BK129.out 3).trans rfl; have hfz30_0 := blk_frozen BK129.out 0; have hfz30_1 := blk_frozen BK129.out 1; have hfz30_2 := blk_frozen BK129.out 2; have hfz30_3 := blk_frozen BK129.out 3) | (go_at_call 64; (with_reducible refine (impl_CounterValid.calls a0_0 a0_1 a0_2 a0_3 true _ A6.out).mono ?_); rintro e w31 ⟨rfl, hb⟩; have n0_ := Aside0.mk (blk_below (g := gb129) (o := .cells #[.int .i64 a0_0, .int .i64 a0_1, .bool a0_2, .bool a0_3] 40 (0, 0)) (by (with_reducible repeat (first | refine blk_drewN ?_ _ | refine blk_drew ?_ | refine blk_alloc ?_ _)); exact BK129.out) hb); have n1_ := Aside0.mk (blk_below (g := gb130) (o := .cells #[.int .i64 0, .int .i64 0, .bool false, .bool false] 40 (0, 0)) (by (with_reducible repeat (first | refine blk_drewN ?_ _ | refine blk_drew ?_ | refine blk_alloc ?_ _)); exact BK130.out) hb); have n2_ := Aside0.mk (below_step (by repeat (first | (with_reducible first | exact HB.out | apply below_alloc | apply pw_below_drewN | apply below_drew1 | refine below_set ?_ GE129.out | refine below_set ?_ GE130.out) | exact HB.out)) hb); clear BK129; clear BK130; clear HB; have BK129 := n0_; have BK130 := n1_; have HB := n2_; clear n0_ n1_ n2_; (try clear hb); (try clear hb2); (try clear hk); (try clear hi); have hcz32_0 : w31.cell? ⟨gb129, 0, none⟩ = some (.int .i64 a0_0) := (blk_cell BK129.out 0).trans rfl; have hcz32_1 : w31.cell? ⟨gb129, 1, none⟩ = some (.int .i64 a0_1) := (blk_cell BK129.out 1).trans rfl; have hcz32_2 : w31.cell? ⟨gb129, 2, none⟩ = some (.bool a0_2) := (blk_cell BK129.out 2).trans rfl; have hcz32_3 : w31.cell? ⟨gb129, 3, none⟩ = some (.bool a0_3) := (blk_cell BK129.out 3).trans rfl; have hfz32_0 := blk_frozen BK129.out 0; have hfz32_1 := blk_frozen BK129.out 1; have hfz32_2 := blk_frozen BK129.out 2; have hfz32_3 := blk_frozen BK129.out 3) | (go_at_call 61; (with_reducible refine (impl_RisingEdge.calls a0_2 a1 t132 _ A8.out).mono ?_); rintro e w' ⟨rfl, ⟨nd, rfl⟩⟩; (try first | exact ⟨rfl, _, World.drewN_drewN _ _ _⟩ | exact ⟨rfl, _, Eq.trans (World.drewN_drewN _ _ _) (congrArg (World.drewN _) (Nat.add_assoc _ _ _))⟩)) | (go_at_call 61; (with_reducible refine (impl_RisingEdge.calls a0_3 a2 t133 _ A9.out).mono ?_); rintro e w' ⟨rfl, ⟨nd, rfl⟩⟩; (try first | exact ⟨rfl, _, World.drewN_drewN _ _ _⟩ | exact ⟨rfl, _, Eq.trans (World.drewN_drewN _ _ _) (congrArg (World.drewN _) (Nat.add_assoc _ _ _))⟩))))
        (try simp only [Act.put, List.setIfInBounds_toArray, List.set_cons_zero, List.set_cons_succ])
        go_cut [33] (fun v33 wc => ∃ (kq : Nat) (x33_25 : Bool), v33 = .bool x33_25 ∧ Aside0 (impl_CounterStep.j0 kq a1 a2 t132 t133 x33_25 a0_0 a0_1 a0_2 a0_3 = some (r1, r2, r3, r4)) ∧ Aside0 (kq ≤ k) ∧ Aside0 (wc.heap[gb129]? = some (.cells #[.int .i64 a0_0, .int .i64 a0_1, .bool a0_2, .bool a0_3] 40 (0, 0))) ∧ Aside0 (wc.heap[gb130]? = some (.cells #[.int .i64 0, .int .i64 0, .bool false, .bool false] 40 (0, 0))) ∧ Aside0 (Below w.heap.size w wc))
        case first =>
          have H := HC26.out
          clear HC26
          by_cases c33 : t132 = true
          · subst c33
            have H1 : (impl_CounterStep.j0 k a1 a2 true t133 (!t133) a0_0 a0_1 a0_2 a0_3) = some (r1, r2, r3, r4) := by rw [if_pos rfl] at H; exact H
            clear H
            have H := H1
            clear H1
            have H' := Aside0.mk H
            clear H
            go_wp2
            repeat (go_quiet (fail); try go_wp2)
            go_meet
            case rel => exact ⟨_, (!t133), (by first | rfl | (simp; done) | (simp [*]; done)), H', ⟨by first | omega | exact Nat.le_refl _⟩, ⟨by (with_reducible repeat (first | refine blk_drewN ?_ _ | refine blk_drew ?_ | refine blk_alloc ?_ _)); exact BK129.out⟩, ⟨by (with_reducible repeat (first | refine blk_drewN ?_ _ | refine blk_drew ?_ | refine blk_alloc ?_ _)); exact BK130.out⟩, ⟨by repeat (first | (with_reducible first | exact HB.out | apply below_alloc | apply pw_below_drewN | apply below_drew1 | refine below_set ?_ GE129.out | refine below_set ?_ GE130.out) | exact HB.out)⟩⟩
          · replace c33 := Bool.eq_false_iff.mpr c33
            subst c33
            have H1 : (impl_CounterStep.j0 k a1 a2 false t133 false a0_0 a0_1 a0_2 a0_3) = some (r1, r2, r3, r4) := by rw [if_neg (show ¬ (false = true) by decide)] at H; exact H
            clear H
            have H := H1
            clear H1
            have H' := Aside0.mk H
            clear H
            go_wp2
            repeat (go_quiet (fail); try go_wp2)
            go_meet
            case rel => exact ⟨_, (false), (by first | rfl | (simp; done) | (simp [*]; done)), H', ⟨by first | omega | exact Nat.le_refl _⟩, ⟨by (with_reducible repeat (first | refine blk_drewN ?_ _ | refine blk_drew ?_ | refine blk_alloc ?_ _)); exact BK129.out⟩, ⟨by (with_reducible repeat (first | refine blk_drewN ?_ _ | refine blk_drew ?_ | refine blk_alloc ?_ _)); exact BK130.out⟩, ⟨by repeat (first | (with_reducible first | exact HB.out | apply below_alloc | apply pw_below_drewN | apply below_drew1 | refine below_set ?_ GE129.out | refine below_set ?_ GE130.out) | exact HB.out)⟩⟩
        case rest =>
          clear HC26
          try clear c1
          try clear c2
          try clear p2
          try clear c3
          try clear c7
          try clear c10
          try clear c13
          try clear c18
          try clear c21
          try clear c29
          try clear c32
          try clear c33
          try clear hcz14_0
          try clear hcz14_1
          try clear hcz14_2
          try clear hcz14_3
          try clear hcz16_0
          try clear hcz16_1
          try clear hcz16_2
          try clear hcz16_3
          try clear hcz17_0
          try clear hcz17_1
          try clear hcz17_2
          try clear hcz17_3
          try clear hcz22_0
          try clear hcz22_1
          try clear hcz22_2
          try clear hcz22_3
          try clear hcz24_0
          try clear hcz24_1
          try clear hcz24_2
          try clear hcz24_3
          try clear hcz25_0
          try clear hcz25_1
          try clear hcz25_2
          try clear hcz25_3
          try clear hcz30_0
          try clear hcz30_1
          try clear hcz30_2
          try clear hcz30_3
          try clear hcz32_0
          try clear hcz32_1
          try clear hcz32_2
          try clear hcz32_3
          try clear hfz14_0
          try clear hfz14_1
          try clear hfz14_2
          try clear hfz14_3
          try clear hfz16_0
          try clear hfz16_1
          try clear hfz16_2
          try clear hfz16_3
          try clear hfz17_0
          try clear hfz17_1
          try clear hfz17_2
          try clear hfz17_3
          try clear hfz22_0
          try clear hfz22_1
          try clear hfz22_2
          try clear hfz22_3
          try clear hfz24_0
          try clear hfz24_1
          try clear hfz24_2
          try clear hfz24_3
          try clear hfz25_0
          try clear hfz25_1
          try clear hfz25_2
          try clear hfz25_3
          try clear hfz30_0
          try clear hfz30_1
          try clear hfz30_2
          try clear hfz30_3
          try clear hfz32_0
          try clear hfz32_1
          try clear hfz32_2
          try clear hfz32_3
          obtain ⟨kq, x33_25, rfl, HA, HJ25, BK129, BK130, HB⟩ := hcut
          cases kq with
          | zero => exact absurd HA.out (by simp [impl_CounterStep.j0])
          | succ kj25 =>
            have H := HA.out
            clear HA
            simp only [impl_CounterStep.j0] at H
            by_cases c34 : x33_25 = true
            · subst c34
              have H1 : (some (a0_0, mn (wrap64 (a0_1 + 1)) 9999, a1, a2)) = some (r1, r2, r3, r4) := by rw [if_pos rfl] at H; exact H
              clear H
              have H := H1
              clear H1
              obtain ⟨ji35, hji35⟩ : ∃ j_ : Int, (mn (wrap64 (a0_1 + 1)) 9999) = j_ := ⟨_, rfl⟩
              replace H : (some (a0_0, ji35, a1, a2)) = some (r1, r2, r3, r4) := by first | (rw [hji35] at H; exact H) | (simp only [hji35] at H ⊢; exact H)
              have hji35_ : (if 9999 < (wrap64 (a0_1 + 1)) then 9999 else (wrap64 (a0_1 + 1))) = ji35 := hji35
              simp only [Option.some.injEq, Prod.mk.injEq] at H
              obtain ⟨rfl, rfl, rfl, rfl⟩ := H
              have hnb36 := NB129_130.out
              have hnc36 := NB130_129.out
              have hcz37_0 : wc.cell? ⟨gb129, 0, none⟩ = some (.int .i64 a0_0) := (blk_cell BK129.out 0).trans rfl
              have hcz37_1 : wc.cell? ⟨gb129, 1, none⟩ = some (.int .i64 a0_1) := (blk_cell BK129.out 1).trans rfl
              have hcz37_2 : wc.cell? ⟨gb129, 2, none⟩ = some (.bool a0_2) := (blk_cell BK129.out 2).trans rfl
              have hcz37_3 : wc.cell? ⟨gb129, 3, none⟩ = some (.bool a0_3) := (blk_cell BK129.out 3).trans rfl
              have hfz37_0 := blk_frozen BK129.out 0
              have hfz37_1 := blk_frozen BK129.out 1
              have hfz37_2 := blk_frozen BK129.out 2
              have hfz37_3 := blk_frozen BK129.out 3
              have hcz38_0 : wc.cell? ⟨gb130, 0, none⟩ = some (.int .i64 0) := (blk_cell BK130.out 0).trans rfl
              have hcz38_1 : wc.cell? ⟨gb130, 1, none⟩ = some (.int .i64 0) := (blk_cell BK130.out 1).trans rfl
              have hcz38_2 : wc.cell? ⟨gb130, 2, none⟩ = some (.bool false) := (blk_cell BK130.out 2).trans rfl
              have hcz38_3 : wc.cell? ⟨gb130, 3, none⟩ = some (.bool false) := (blk_cell BK130.out 3).trans rfl
              have hfz38_0 := blk_frozen BK130.out 0
              have hfz38_1 := blk_frozen BK130.out 1
              have hfz38_2 := blk_frozen BK130.out 2
              have hfz38_3 := blk_frozen BK130.out 3
              go_wp2
              repeat (go_quiet (fail); try go_wp2)
              refine bodyPost_ret (results_cell_row rfl _ _ gb130 40 #[.int .i64 a0_0, .int .i64 ji35, .bool a1, .bool a2] (0, 0) _ rfl (by (with_reducible repeat (first | refine blk_drewN ?_ _ | refine blk_drew ?_ | refine blk_alloc ?_ _)); refine blk_put (cs := #[.int .i64 a0_0, .int .i64 ji35, .bool a1, .bool false]) ?_ 3 _ rfl; (with_reducible repeat (first | refine blk_drewN ?_ _ | refine blk_drew ?_ | refine blk_alloc ?_ _)); refine blk_put (cs := #[.int .i64 a0_0, .int .i64 ji35, .bool false, .bool false]) ?_ 2 _ rfl; (with_reducible repeat (first | refine blk_drewN ?_ _ | refine blk_drew ?_ | refine blk_alloc ?_ _)); refine blk_put (cs := #[.int .i64 a0_0, .int .i64 0, .bool false, .bool false]) ?_ 1 _ rfl; (with_reducible repeat (first | refine blk_drewN ?_ _ | refine blk_drew ?_ | refine blk_alloc ?_ _)); refine blk_put (cs := #[.int .i64 0, .int .i64 0, .bool false, .bool false]) ?_ 0 _ rfl; (with_reducible repeat (first | refine blk_drewN ?_ _ | refine blk_drew ?_ | refine blk_alloc ?_ _)); refine blk_far ?_ NB130_129.out _; (with_reducible repeat (first | refine blk_drewN ?_ _ | refine blk_drew ?_ | refine blk_alloc ?_ _)); refine blk_far ?_ NB130_129.out _; (with_reducible repeat (first | refine blk_drewN ?_ _ | refine blk_drew ?_ | refine blk_alloc ?_ _)); refine blk_far ?_ NB130_129.out _; (with_reducible repeat (first | refine blk_drewN ?_ _ | refine blk_drew ?_ | refine blk_alloc ?_ _)); exact BK130.out) Try.underlying40 rfl (by kernel_rfl)) rfl ?_
              exact ⟨by first | rfl | (simp [errW_none, errW_some] <;> rfl) | (simp only [← hji35]; first | rfl | (simp [errW_none, errW_some] <;> rfl)) | (simp [*, errW_none, errW_some] <;> rfl), by repeat (first | (with_reducible first | exact HB.out | apply below_alloc | apply pw_below_drewN | apply below_drew1 | refine below_set ?_ GE129.out | refine below_set ?_ GE130.out) | exact HB.out)⟩
            · replace c34 := Bool.eq_false_iff.mpr c34
              subst c34
              have H1 : (if t133 = true then (if t132 = true then (some (a0_0, a0_1, a1, a2)) else (some (a0_0, mx (wrap64 (a0_1 - 1)) 0, a1, a2))) else (some (a0_0, a0_1, a1, a2))) = some (r1, r2, r3, r4) := by rw [if_neg (show ¬ (false = true) by decide)] at H; exact H
              clear H
              have H := H1
              clear H1
              by_cases c39 : t133 = true
              · subst c39
                have H1 : (if t132 = true then (some (a0_0, a0_1, a1, a2)) else (some (a0_0, mx (wrap64 (a0_1 - 1)) 0, a1, a2))) = some (r1, r2, r3, r4) := by rw [if_pos rfl] at H; exact H
                clear H
                have H := H1
                clear H1
                by_cases c40 : t132 = true
                · subst c40
                  have H1 : (some (a0_0, a0_1, a1, a2)) = some (r1, r2, r3, r4) := by rw [if_pos rfl] at H; exact H
                  clear H
                  have H := H1
                  clear H1
                  simp only [Option.some.injEq, Prod.mk.injEq] at H
                  obtain ⟨rfl, rfl, rfl, rfl⟩ := H
                  have hnb41 := NB129_130.out
                  have hnc41 := NB130_129.out
                  have hcz42_0 : wc.cell? ⟨gb129, 0, none⟩ = some (.int .i64 a0_0) := (blk_cell BK129.out 0).trans rfl
                  have hcz42_1 : wc.cell? ⟨gb129, 1, none⟩ = some (.int .i64 a0_1) := (blk_cell BK129.out 1).trans rfl
                  have hcz42_2 : wc.cell? ⟨gb129, 2, none⟩ = some (.bool a0_2) := (blk_cell BK129.out 2).trans rfl
                  have hcz42_3 : wc.cell? ⟨gb129, 3, none⟩ = some (.bool a0_3) := (blk_cell BK129.out 3).trans rfl
                  have hfz42_0 := blk_frozen BK129.out 0
                  have hfz42_1 := blk_frozen BK129.out 1
                  have hfz42_2 := blk_frozen BK129.out 2
                  have hfz42_3 := blk_frozen BK129.out 3
                  have hcz43_0 : wc.cell? ⟨gb130, 0, none⟩ = some (.int .i64 0) := (blk_cell BK130.out 0).trans rfl
                  have hcz43_1 : wc.cell? ⟨gb130, 1, none⟩ = some (.int .i64 0) := (blk_cell BK130.out 1).trans rfl
                  have hcz43_2 : wc.cell? ⟨gb130, 2, none⟩ = some (.bool false) := (blk_cell BK130.out 2).trans rfl
                  have hcz43_3 : wc.cell? ⟨gb130, 3, none⟩ = some (.bool false) := (blk_cell BK130.out 3).trans rfl
                  have hfz43_0 := blk_frozen BK130.out 0
                  have hfz43_1 := blk_frozen BK130.out 1
                  have hfz43_2 := blk_frozen BK130.out 2
                  have hfz43_3 := blk_frozen BK130.out 3
                  go_wp2
                  repeat (go_quiet (fail); try go_wp2)
                  refine bodyPost_ret (results_cell_row rfl _ _ gb130 40 #[.int .i64 a0_0, .int .i64 a0_1, .bool a1, .bool a2] (0, 0) _ rfl (by (with_reducible repeat (first | refine blk_drewN ?_ _ | refine blk_drew ?_ | refine blk_alloc ?_ _)); refine blk_put (cs := #[.int .i64 a0_0, .int .i64 a0_1, .bool a1, .bool false]) ?_ 3 _ rfl; (with_reducible repeat (first | refine blk_drewN ?_ _ | refine blk_drew ?_ | refine blk_alloc ?_ _)); refine blk_put (cs := #[.int .i64 a0_0, .int .i64 a0_1, .bool false, .bool false]) ?_ 2 _ rfl; (with_reducible repeat (first | refine blk_drewN ?_ _ | refine blk_drew ?_ | refine blk_alloc ?_ _)); refine blk_put (cs := #[.int .i64 a0_0, .int .i64 0, .bool false, .bool false]) ?_ 1 _ rfl; (with_reducible repeat (first | refine blk_drewN ?_ _ | refine blk_drew ?_ | refine blk_alloc ?_ _)); refine blk_put (cs := #[.int .i64 0, .int .i64 0, .bool false, .bool false]) ?_ 0 _ rfl; (with_reducible repeat (first | refine blk_drewN ?_ _ | refine blk_drew ?_ | refine blk_alloc ?_ _)); refine blk_far ?_ NB130_129.out _; (with_reducible repeat (first | refine blk_drewN ?_ _ | refine blk_drew ?_ | refine blk_alloc ?_ _)); refine blk_far ?_ NB130_129.out _; (with_reducible repeat (first | refine blk_drewN ?_ _ | refine blk_drew ?_ | refine blk_alloc ?_ _)); exact BK130.out) Try.underlying40 rfl (by kernel_rfl)) rfl ?_
                  exact ⟨by first | rfl | (simp [errW_none, errW_some] <;> rfl) | (simp [*, errW_none, errW_some] <;> rfl), by repeat (first | (with_reducible first | exact HB.out | apply below_alloc | apply pw_below_drewN | apply below_drew1 | refine below_set ?_ GE129.out | refine below_set ?_ GE130.out) | exact HB.out)⟩
                · replace c40 := Bool.eq_false_iff.mpr c40
                  subst c40
                  have H1 : (some (a0_0, mx (wrap64 (a0_1 - 1)) 0, a1, a2)) = some (r1, r2, r3, r4) := by rw [if_neg (show ¬ (false = true) by decide)] at H; exact H
                  clear H
                  have H := H1
                  clear H1
                  obtain ⟨ji44, hji44⟩ : ∃ j_ : Int, (mx (wrap64 (a0_1 - 1)) 0) = j_ := ⟨_, rfl⟩
                  replace H : (some (a0_0, ji44, a1, a2)) = some (r1, r2, r3, r4) := by first | (rw [hji44] at H; exact H) | (simp only [hji44] at H ⊢; exact H)
                  have hji44_ : (if (wrap64 (a0_1 - 1)) < 0 then 0 else (wrap64 (a0_1 - 1))) = ji44 := hji44
                  simp only [Option.some.injEq, Prod.mk.injEq] at H
                  obtain ⟨rfl, rfl, rfl, rfl⟩ := H
                  have hnb45 := NB129_130.out
                  have hnc45 := NB130_129.out
                  have hcz46_0 : wc.cell? ⟨gb129, 0, none⟩ = some (.int .i64 a0_0) := (blk_cell BK129.out 0).trans rfl
                  have hcz46_1 : wc.cell? ⟨gb129, 1, none⟩ = some (.int .i64 a0_1) := (blk_cell BK129.out 1).trans rfl
                  have hcz46_2 : wc.cell? ⟨gb129, 2, none⟩ = some (.bool a0_2) := (blk_cell BK129.out 2).trans rfl
                  have hcz46_3 : wc.cell? ⟨gb129, 3, none⟩ = some (.bool a0_3) := (blk_cell BK129.out 3).trans rfl
                  have hfz46_0 := blk_frozen BK129.out 0
                  have hfz46_1 := blk_frozen BK129.out 1
                  have hfz46_2 := blk_frozen BK129.out 2
                  have hfz46_3 := blk_frozen BK129.out 3
                  have hcz47_0 : wc.cell? ⟨gb130, 0, none⟩ = some (.int .i64 0) := (blk_cell BK130.out 0).trans rfl
                  have hcz47_1 : wc.cell? ⟨gb130, 1, none⟩ = some (.int .i64 0) := (blk_cell BK130.out 1).trans rfl
                  have hcz47_2 : wc.cell? ⟨gb130, 2, none⟩ = some (.bool false) := (blk_cell BK130.out 2).trans rfl
                  have hcz47_3 : wc.cell? ⟨gb130, 3, none⟩ = some (.bool false) := (blk_cell BK130.out 3).trans rfl
                  have hfz47_0 := blk_frozen BK130.out 0
                  have hfz47_1 := blk_frozen BK130.out 1
                  have hfz47_2 := blk_frozen BK130.out 2
                  have hfz47_3 := blk_frozen BK130.out 3
                  go_wp2
                  repeat (go_quiet (fail); try go_wp2)
                  refine bodyPost_ret (results_cell_row rfl _ _ gb130 40 #[.int .i64 a0_0, .int .i64 ji44, .bool a1, .bool a2] (0, 0) _ rfl (by (with_reducible repeat (first | refine blk_drewN ?_ _ | refine blk_drew ?_ | refine blk_alloc ?_ _)); refine blk_put (cs := #[.int .i64 a0_0, .int .i64 ji44, .bool a1, .bool false]) ?_ 3 _ rfl; (with_reducible repeat (first | refine blk_drewN ?_ _ | refine blk_drew ?_ | refine blk_alloc ?_ _)); refine blk_put (cs := #[.int .i64 a0_0, .int .i64 ji44, .bool false, .bool false]) ?_ 2 _ rfl; (with_reducible repeat (first | refine blk_drewN ?_ _ | refine blk_drew ?_ | refine blk_alloc ?_ _)); refine blk_put (cs := #[.int .i64 a0_0, .int .i64 0, .bool false, .bool false]) ?_ 1 _ rfl; (with_reducible repeat (first | refine blk_drewN ?_ _ | refine blk_drew ?_ | refine blk_alloc ?_ _)); refine blk_put (cs := #[.int .i64 0, .int .i64 0, .bool false, .bool false]) ?_ 0 _ rfl; (with_reducible repeat (first | refine blk_drewN ?_ _ | refine blk_drew ?_ | refine blk_alloc ?_ _)); refine blk_far ?_ NB130_129.out _; (with_reducible repeat (first | refine blk_drewN ?_ _ | refine blk_drew ?_ | refine blk_alloc ?_ _)); refine blk_far ?_ NB130_129.out _; (with_reducible repeat (first | refine blk_drewN ?_ _ | refine blk_drew ?_ | refine blk_alloc ?_ _)); refine blk_far ?_ NB130_129.out _; (with_reducible repeat (first | refine blk_drewN ?_ _ | refine blk_drew ?_ | refine blk_alloc ?_ _)); exact BK130.out) Try.underlying40 rfl (by kernel_rfl)) rfl ?_
                  exact ⟨by first | rfl | (simp [errW_none, errW_some] <;> rfl) | (simp only [← hji44]; first | rfl | (simp [errW_none, errW_some] <;> rfl)) | (simp [*, errW_none, errW_some] <;> rfl), by repeat (first | (with_reducible first | exact HB.out | apply below_alloc | apply pw_below_drewN | apply below_drew1 | refine below_set ?_ GE129.out | refine below_set ?_ GE130.out) | exact HB.out)⟩
              · replace c39 := Bool.eq_false_iff.mpr c39
                subst c39
                have H1 : (some (a0_0, a0_1, a1, a2)) = some (r1, r2, r3, r4) := by rw [if_neg (show ¬ (false = true) by decide)] at H; exact H
                clear H
                have H := H1
                clear H1
                simp only [Option.some.injEq, Prod.mk.injEq] at H
                obtain ⟨rfl, rfl, rfl, rfl⟩ := H
                have hnb48 := NB129_130.out
                have hnc48 := NB130_129.out
                have hcz49_0 : wc.cell? ⟨gb129, 0, none⟩ = some (.int .i64 a0_0) := (blk_cell BK129.out 0).trans rfl
                have hcz49_1 : wc.cell? ⟨gb129, 1, none⟩ = some (.int .i64 a0_1) := (blk_cell BK129.out 1).trans rfl
                have hcz49_2 : wc.cell? ⟨gb129, 2, none⟩ = some (.bool a0_2) := (blk_cell BK129.out 2).trans rfl
                have hcz49_3 : wc.cell? ⟨gb129, 3, none⟩ = some (.bool a0_3) := (blk_cell BK129.out 3).trans rfl
                have hfz49_0 := blk_frozen BK129.out 0
                have hfz49_1 := blk_frozen BK129.out 1
                have hfz49_2 := blk_frozen BK129.out 2
                have hfz49_3 := blk_frozen BK129.out 3
                have hcz50_0 : wc.cell? ⟨gb130, 0, none⟩ = some (.int .i64 0) := (blk_cell BK130.out 0).trans rfl
                have hcz50_1 : wc.cell? ⟨gb130, 1, none⟩ = some (.int .i64 0) := (blk_cell BK130.out 1).trans rfl
                have hcz50_2 : wc.cell? ⟨gb130, 2, none⟩ = some (.bool false) := (blk_cell BK130.out 2).trans rfl
                have hcz50_3 : wc.cell? ⟨gb130, 3, none⟩ = some (.bool false) := (blk_cell BK130.out 3).trans rfl
                have hfz50_0 := blk_frozen BK130.out 0
                have hfz50_1 := blk_frozen BK130.out 1
                have hfz50_2 := blk_frozen BK130.out 2
                have hfz50_3 := blk_frozen BK130.out 3
                go_wp2
                repeat (go_quiet (fail); try go_wp2)
                refine bodyPost_ret (results_cell_row rfl _ _ gb130 40 #[.int .i64 a0_0, .int .i64 a0_1, .bool a1, .bool a2] (0, 0) _ rfl (by (with_reducible repeat (first | refine blk_drewN ?_ _ | refine blk_drew ?_ | refine blk_alloc ?_ _)); refine blk_put (cs := #[.int .i64 a0_0, .int .i64 a0_1, .bool a1, .bool false]) ?_ 3 _ rfl; (with_reducible repeat (first | refine blk_drewN ?_ _ | refine blk_drew ?_ | refine blk_alloc ?_ _)); refine blk_put (cs := #[.int .i64 a0_0, .int .i64 a0_1, .bool false, .bool false]) ?_ 2 _ rfl; (with_reducible repeat (first | refine blk_drewN ?_ _ | refine blk_drew ?_ | refine blk_alloc ?_ _)); refine blk_put (cs := #[.int .i64 a0_0, .int .i64 0, .bool false, .bool false]) ?_ 1 _ rfl; (with_reducible repeat (first | refine blk_drewN ?_ _ | refine blk_drew ?_ | refine blk_alloc ?_ _)); refine blk_put (cs := #[.int .i64 0, .int .i64 0, .bool false, .bool false]) ?_ 0 _ rfl; (with_reducible repeat (first | refine blk_drewN ?_ _ | refine blk_drew ?_ | refine blk_alloc ?_ _)); refine blk_far ?_ NB130_129.out _; (with_reducible repeat (first | refine blk_drewN ?_ _ | refine blk_drew ?_ | refine blk_alloc ?_ _)); refine blk_far ?_ NB130_129.out _; (with_reducible repeat (first | refine blk_drewN ?_ _ | refine blk_drew ?_ | refine blk_alloc ?_ _)); exact BK130.out) Try.underlying40 rfl (by kernel_rfl)) rfl ?_
                exact ⟨by first | rfl | (simp [errW_none, errW_some] <;> rfl) | (simp [*, errW_none, errW_some] <;> rfl), by repeat (first | (with_reducible first | exact HB.out | apply below_alloc | apply pw_below_drewN | apply below_drew1 | refine below_set ?_ GE129.out | refine below_set ?_ GE130.out) | exact HB.out)⟩
  · replace c7 := Bool.eq_false_iff.mpr c7
    subst c7
    have H1 : (some (0, 0, false, false)) = some (r1, r2, r3, r4) := by rw [if_neg (show ¬ (false = true) by decide)] at H; exact H
    clear H
    have H := H1
    clear H1
    simp only [Option.some.injEq, Prod.mk.injEq] at H
    obtain ⟨rfl, rfl, rfl, rfl⟩ := H
    go_enter Try.func32, Try.ntmps32
    go_wp2_with (first | ((with_reducible refine gate_dst (N := 5) rfl ?_); refine box_event ?hg (N := 5) ?hd (cs := #[.int .i64 a0_0, .int .i64 a0_1, .bool a0_2, .bool a0_3]) (t := 40) ?hr ?_; (case hd => rfl); (case hg => rfl); (case hr => first | (go_simp; done) | (go_simp; rfl)); intro gb129 hg w51 hbox hb; have n0_ := Aside0.mk (below_step (by repeat (first | (with_reducible first | exact HB.out | apply below_alloc | apply pw_below_drewN | apply below_drew1) | exact HB.out)) hb); have n1_ := Aside0.mk (hbox); have n2_ := Aside0.mk ((by rw [hg]; exact (below_size (by repeat (first | (with_reducible first | exact HB.out | apply below_alloc | apply pw_below_drewN | apply below_drew1) | exact HB.out))) : w.heap.size ≤ gb129)); have n3_ := Aside0.mk ((by rw [hg]; exact (below_size (by repeat (first | (with_reducible first | exact HB.out | apply below_alloc | apply pw_below_drewN | apply below_drew1) | exact HB.out))) : w.heap.size ≤ gb129)); clear HB; have HB := n0_; have BK129 := n1_; have GW129 := n2_; have GE129 := n3_; clear n0_ n1_ n2_ n3_; clear hb hbox hg) | ((with_reducible refine gate_dst (N := 10) rfl ?_); refine box_event ?hg (N := 10) ?hd (cs := #[.int .i64 0, .int .i64 0, .bool false, .bool false]) (t := 40) ?hr ?_; (case hd => rfl); (case hg => rfl); (case hr => first | (go_simp; done) | (go_simp; rfl)); intro gb130 hg w52 hbox hb; have n0_ := Aside0.mk (blk_below (g := gb129) (o := .cells #[.int .i64 a0_0, .int .i64 a0_1, .bool a0_2, .bool a0_3] 40 (0, 0)) (by (with_reducible repeat (first | refine blk_drewN ?_ _ | refine blk_drew ?_ | refine blk_alloc ?_ _)); exact BK129.out) hb); have n1_ := Aside0.mk (below_step (by repeat (first | (with_reducible first | exact HB.out | apply below_alloc | apply pw_below_drewN | apply below_drew1 | refine below_set ?_ GE129.out) | exact HB.out)) hb); have n2_ := Aside0.mk (hbox); have n3_ := Aside0.mk ((by rw [hg]; exact (below_size (by repeat (first | (with_reducible first | exact HB.out | apply below_alloc | apply pw_below_drewN | apply below_drew1 | refine below_set ?_ GE129.out) | exact HB.out))) : w.heap.size ≤ gb130)); have n4_ := Aside0.mk ((by rw [hg]; exact (below_size (by repeat (first | (with_reducible first | exact HB.out | apply below_alloc | apply pw_below_drewN | apply below_drew1 | refine below_set ?_ GE129.out) | exact HB.out))) : w.heap.size ≤ gb130)); have n5_ := Aside0.mk ((by rw [hg]; exact Nat.ne_of_lt (blk_lt (g := gb129) (o := .cells #[.int .i64 a0_0, .int .i64 a0_1, .bool a0_2, .bool a0_3] 40 (0, 0)) (by (with_reducible repeat (first | refine blk_drewN ?_ _ | refine blk_drew ?_ | refine blk_alloc ?_ _)); exact BK129.out)) : gb129 ≠ gb130)); have n6_ := Aside0.mk ((by rw [hg]; exact Nat.ne_of_gt (blk_lt (g := gb129) (o := .cells #[.int .i64 a0_0, .int .i64 a0_1, .bool a0_2, .bool a0_3] 40 (0, 0)) (by (with_reducible repeat (first | refine blk_drewN ?_ _ | refine blk_drew ?_ | refine blk_alloc ?_ _)); exact BK129.out)) : gb130 ≠ gb129)); clear BK129; clear HB; have BK129 := n0_; have HB := n1_; have BK130 := n2_; have GW130 := n3_; have GE130 := n4_; have NB129_130 := n5_; have NB130_129 := n6_; clear n0_ n1_ n2_ n3_ n4_ n5_ n6_; clear hb hbox hg; have hnb53 := NB129_130.out; have hnc53 := NB130_129.out; have hcz54_0 : w52.cell? ⟨gb129, 0, none⟩ = some (.int .i64 a0_0) := (blk_cell BK129.out 0).trans rfl; have hcz54_1 : w52.cell? ⟨gb129, 1, none⟩ = some (.int .i64 a0_1) := (blk_cell BK129.out 1).trans rfl; have hcz54_2 : w52.cell? ⟨gb129, 2, none⟩ = some (.bool a0_2) := (blk_cell BK129.out 2).trans rfl; have hcz54_3 : w52.cell? ⟨gb129, 3, none⟩ = some (.bool a0_3) := (blk_cell BK129.out 3).trans rfl; have hfz54_0 := blk_frozen BK129.out 0; have hfz54_1 := blk_frozen BK129.out 1; have hfz54_2 := blk_frozen BK129.out 2; have hfz54_3 := blk_frozen BK129.out 3) | (go_at_call 64; (with_reducible refine (impl_CounterValid.calls a0_0 a0_1 a0_2 a0_3 false _ A6.out).mono ?_); rintro e w55 ⟨rfl, hb⟩; have n0_ := Aside0.mk (blk_below (g := gb129) (o := .cells #[.int .i64 a0_0, .int .i64 a0_1, .bool a0_2, .bool a0_3] 40 (0, 0)) (by (with_reducible repeat (first | refine blk_drewN ?_ _ | refine blk_drew ?_ | refine blk_alloc ?_ _)); exact BK129.out) hb); have n1_ := Aside0.mk (blk_below (g := gb130) (o := .cells #[.int .i64 0, .int .i64 0, .bool false, .bool false] 40 (0, 0)) (by (with_reducible repeat (first | refine blk_drewN ?_ _ | refine blk_drew ?_ | refine blk_alloc ?_ _)); exact BK130.out) hb); have n2_ := Aside0.mk (below_step (by repeat (first | (with_reducible first | exact HB.out | apply below_alloc | apply pw_below_drewN | apply below_drew1 | refine below_set ?_ GE129.out | refine below_set ?_ GE130.out) | exact HB.out)) hb); clear BK129; clear BK130; clear HB; have BK129 := n0_; have BK130 := n1_; have HB := n2_; clear n0_ n1_ n2_; (try clear hb); (try clear hb2); (try clear hk); (try clear hi); have hcz56_0 : w55.cell? ⟨gb130, 0, none⟩ = some (.int .i64 0) := (blk_cell BK130.out 0).trans rfl; have hcz56_1 : w55.cell? ⟨gb130, 1, none⟩ = some (.int .i64 0) := (blk_cell BK130.out 1).trans rfl; have hcz56_2 : w55.cell? ⟨gb130, 2, none⟩ = some (.bool false) := (blk_cell BK130.out 2).trans rfl; have hcz56_3 : w55.cell? ⟨gb130, 3, none⟩ = some (.bool false) := (blk_cell BK130.out 3).trans rfl; have hfz56_0 := blk_frozen BK130.out 0; have hfz56_1 := blk_frozen BK130.out 1; have hfz56_2 := blk_frozen BK130.out 2; have hfz56_3 := blk_frozen BK130.out 3))
    repeat (go_quiet (first | ((with_reducible refine gate_dst (N := 5) rfl ?_); refine box_event ?hg (N := 5) ?hd (cs := #[.int .i64 a0_0, .int .i64 a0_1, .bool a0_2, .bool a0_3]) (t := 40) ?hr ?_; (case hd => rfl); (case hg => rfl); (case hr => first | (go_simp; done) | (go_simp; rfl)); intro gb129 hg w51 hbox hb; have n0_ := Aside0.mk (below_step (by repeat (first | (with_reducible first | exact HB.out | apply below_alloc | apply pw_below_drewN | apply below_drew1) | exact HB.out)) hb); have n1_ := Aside0.mk (hbox); have n2_ := Aside0.mk ((by rw [hg]; exact (below_size (by repeat (first | (with_reducible first | exact HB.out | apply below_alloc | apply pw_below_drewN | apply below_drew1) | exact HB.out))) : w.heap.size ≤ gb129)); have n3_ := Aside0.mk ((by rw [hg]; exact (below_size (by repeat (first | (with_reducible first | exact HB.out | apply below_alloc | apply pw_below_drewN | apply below_drew1) | exact HB.out))) : w.heap.size ≤ gb129)); clear HB; have HB := n0_; have BK129 := n1_; have GW129 := n2_; have GE129 := n3_; clear n0_ n1_ n2_ n3_; clear hb hbox hg) | ((with_reducible refine gate_dst (N := 10) rfl ?_); refine box_event ?hg (N := 10) ?hd (cs := #[.int .i64 0, .int .i64 0, .bool false, .bool false]) (t := 40) ?hr ?_; (case hd => rfl); (case hg => rfl); (case hr => first | (go_simp; done) | (go_simp; rfl)); intro gb130 hg w52 hbox hb; have n0_ := Aside0.mk (blk_below (g := gb129) (o := .cells #[.int .i64 a0_0, .int .i64 a0_1, .bool a0_2, .bool a0_3] 40 (0, 0)) (by (with_reducible repeat (first | refine blk_drewN ?_ _ | refine blk_drew ?_ | refine blk_alloc ?_ _)); exact BK129.out) hb); have n1_ := Aside0.mk (below_step (by repeat (first | (with_reducible first | exact HB.out | apply below_alloc | apply pw_below_drewN | apply below_drew1 | refine below_set ?_ GE129.out) | exact HB.out)) hb); have n2_ := Aside0.mk (hbox); have n3_ := Aside0.mk ((by rw [hg]; exact (below_size (by repeat (first | (with_reducible first | exact HB.out | apply below_alloc | apply pw_below_drewN | apply below_drew1 | refine below_set ?_ GE129.out) | exact HB.out))) : w.heap.size ≤ gb130)); have n4_ := Aside0.mk ((by rw [hg]; exact (below_size (by repeat (first | (with_reducible first | exact HB.out | apply below_alloc | apply pw_below_drewN | apply below_drew1 | refine below_set ?_ GE129.out) | exact HB.out))) : w.heap.size ≤ gb130)); have n5_ := Aside0.mk ((by rw [hg]; exact Nat.ne_of_lt (blk_lt (g := gb129) (o := .cells #[.int .i64 a0_0, .int .i64 a0_1, .bool a0_2, .bool a0_3] 40 (0, 0)) (by (with_reducible repeat (first | refine blk_drewN ?_ _ | refine blk_drew ?_ | refine blk_alloc ?_ _)); exact BK129.out)) : gb129 ≠ gb130)); have n6_ := Aside0.mk ((by rw [hg]; exact Nat.ne_of_gt (blk_lt (g := gb129) (o := .cells #[.int .i64 a0_0, .int .i64 a0_1, .bool a0_2, .bool a0_3] 40 (0, 0)) (by (with_reducible repeat (first | refine blk_drewN ?_ _ | refine blk_drew ?_ | refine blk_alloc ?_ _)); exact BK129.out)) : gb130 ≠ gb129)); clear BK129; clear HB; have BK129 := n0_; have HB := n1_; have BK130 := n2_; have GW130 := n3_; have GE130 := n4_; have NB129_130 := n5_; have NB130_129 := n6_; clear n0_ n1_ n2_ n3_ n4_ n5_ n6_; clear hb hbox hg; have hnb53 := NB129_130.out; have hnc53 := NB130_129.out; have hcz54_0 : w52.cell? ⟨gb129, 0, none⟩ = some (.int .i64 a0_0) := (blk_cell BK129.out 0).trans rfl; have hcz54_1 : w52.cell? ⟨gb129, 1, none⟩ = some (.int .i64 a0_1) := (blk_cell BK129.out 1).trans rfl; have hcz54_2 : w52.cell? ⟨gb129, 2, none⟩ = some (.bool a0_2) := (blk_cell BK129.out 2).trans rfl; have hcz54_3 : w52.cell? ⟨gb129, 3, none⟩ = some (.bool a0_3) := (blk_cell BK129.out 3).trans rfl; have hfz54_0 := blk_frozen BK129.out 0; have hfz54_1 := blk_frozen BK129.out 1; have hfz54_2 := blk_frozen BK129.out 2; have hfz54_3 := blk_frozen BK129.out 3) | (go_at_call 64; (with_reducible refine (impl_CounterValid.calls a0_0 a0_1 a0_2 a0_3 false _ A6.out).mono ?_); rintro e w55 ⟨rfl, hb⟩; have n0_ := Aside0.mk (blk_below (g := gb129) (o := .cells #[.int .i64 a0_0, .int .i64 a0_1, .bool a0_2, .bool a0_3] 40 (0, 0)) (by (with_reducible repeat (first | refine blk_drewN ?_ _ | refine blk_drew ?_ | refine blk_alloc ?_ _)); exact BK129.out) hb); have n1_ := Aside0.mk (blk_below (g := gb130) (o := .cells #[.int .i64 0, .int .i64 0, .bool false, .bool false] 40 (0, 0)) (by (with_reducible repeat (first | refine blk_drewN ?_ _ | refine blk_drew ?_ | refine blk_alloc ?_ _)); exact BK130.out) hb); have n2_ := Aside0.mk (below_step (by repeat (first | (with_reducible first | exact HB.out | apply below_alloc | apply pw_below_drewN | apply below_drew1 | refine below_set ?_ GE129.out | refine below_set ?_ GE130.out) | exact HB.out)) hb); clear BK129; clear BK130; clear HB; have BK129 := n0_; have BK130 := n1_; have HB := n2_; clear n0_ n1_ n2_; (try clear hb); (try clear hb2); (try clear hk); (try clear hi); have hcz56_0 : w55.cell? ⟨gb130, 0, none⟩ = some (.int .i64 0) := (blk_cell BK130.out 0).trans rfl; have hcz56_1 : w55.cell? ⟨gb130, 1, none⟩ = some (.int .i64 0) := (blk_cell BK130.out 1).trans rfl; have hcz56_2 : w55.cell? ⟨gb130, 2, none⟩ = some (.bool false) := (blk_cell BK130.out 2).trans rfl; have hcz56_3 : w55.cell? ⟨gb130, 3, none⟩ = some (.bool false) := (blk_cell BK130.out 3).trans rfl; have hfz56_0 := blk_frozen BK130.out 0; have hfz56_1 := blk_frozen BK130.out 1; have hfz56_2 := blk_frozen BK130.out 2; have hfz56_3 := blk_frozen BK130.out 3)); try go_wp2_with (first | ((with_reducible refine gate_dst (N := 5) rfl ?_); refine box_event ?hg (N := 5) ?hd (cs := #[.int .i64 a0_0, .int .i64 a0_1, .bool a0_2, .bool a0_3]) (t := 40) ?hr ?_; (case hd => rfl); (case hg => rfl); (case hr => first | (go_simp; done) | (go_simp; rfl)); intro gb129 hg w51 hbox hb; have n0_ := Aside0.mk (below_step (by repeat (first | (with_reducible first | exact HB.out | apply below_alloc | apply pw_below_drewN | apply below_drew1) | exact HB.out)) hb); have n1_ := Aside0.mk (hbox); have n2_ := Aside0.mk ((by rw [hg]; exact (below_size (by repeat (first | (with_reducible first | exact HB.out | apply below_alloc | apply pw_below_drewN | apply below_drew1) | exact HB.out))) : w.heap.size ≤ gb129)); have n3_ := Aside0.mk ((by rw [hg]; exact (below_size (by repeat (first | (with_reducible first | exact HB.out | apply below_alloc | apply pw_below_drewN | apply below_drew1) | exact HB.out))) : w.heap.size ≤ gb129)); clear HB; have HB := n0_; have BK129 := n1_; have GW129 := n2_; have GE129 := n3_; clear n0_ n1_ n2_ n3_; clear hb hbox hg) | ((with_reducible refine gate_dst (N := 10) rfl ?_); refine box_event ?hg (N := 10) ?hd (cs := #[.int .i64 0, .int .i64 0, .bool false, .bool false]) (t := 40) ?hr ?_; (case hd => rfl); (case hg => rfl); (case hr => first | (go_simp; done) | (go_simp; rfl)); intro gb130 hg w52 hbox hb; have n0_ := Aside0.mk (blk_below (g := gb129) (o := .cells #[.int .i64 a0_0, .int .i64 a0_1, .bool a0_2, .bool a0_3] 40 (0, 0)) (by (with_reducible repeat (first | refine blk_drewN ?_ _ | refine blk_drew ?_ | refine blk_alloc ?_ _)); exact BK129.out) hb); have n1_ := Aside0.mk (below_step (by repeat (first | (with_reducible first | exact HB.out | apply below_alloc | apply pw_below_drewN | apply below_drew1 | refine below_set ?_ GE129.out) | exact HB.out)) hb); have n2_ := Aside0.mk (hbox); have n3_ := Aside0.mk ((by rw [hg]; exact (below_size (by repeat (first | (with_reducible first | exact HB.out | apply below_alloc | apply pw_below_drewN | apply below_drew1 | refine below_set ?_ GE129.out) | exact HB.out))) : w.heap.size ≤ gb130)); have n4_ := Aside0.mk ((by rw [hg]; exact (below_size (by repeat (first | (with_reducible first | exact HB.out | apply below_alloc | apply pw_below_drewN | apply below_drew1 | refine below_set ?_ GE129.out) | exact HB.out))) : w.heap.size ≤ gb130)); have n5_ := Aside0.mk ((by rw [hg]; exact Nat.ne_of_lt (blk_lt (g := gb129) (o := .cells #[.int .i64 a0_0, .int .i64 a0_1, .bool a0_2, .bool a0_3] 40 (0, 0)) (by (with_reducible repeat (first | refine blk_drewN ?_ _ | refine blk_drew ?_ | refine blk_alloc ?_ _)); exact BK129.out)) : gb129 ≠ gb130)); have n6_ := Aside0.mk ((by rw [hg]; exact Nat.ne_of_gt (blk_lt (g := gb129) (o := .cells #[.int .i64 a0_0, .int .i64 a0_1, .bool a0_2, .bool a0_3] 40 (0, 0)) (by (with_reducible repeat (first | refine blk_drewN ?_ _ | refine blk_drew ?_ | refine blk_alloc ?_ _)); exact BK129.out)) : gb130 ≠ gb129)); clear BK129; clear HB; have BK129 := n0_; have HB := n1_; have BK130 := n2_; have GW130 := n3_; have GE130 := n4_; have NB129_130 := n5_; have NB130_129 := n6_; clear n0_ n1_ n2_ n3_ n4_ n5_ n6_; clear hb hbox hg; have hnb53 := NB129_130.out; have hnc53 := NB130_129.out; have hcz54_0 : w52.cell? ⟨gb129, 0, none⟩ = some (.int .i64 a0_0) := (blk_cell BK129.out 0).trans rfl; have hcz54_1 : w52.cell? ⟨gb129, 1, none⟩ = some (.int .i64 a0_1) := (blk_cell BK129.out 1).trans rfl; have hcz54_2 : w52.cell? ⟨gb129, 2, none⟩ = some (.bool a0_2) := (blk_cell BK129.out 2).trans rfl; have hcz54_3 : w52.cell? ⟨gb129, 3, none⟩ = some (.bool a0_3) := (blk_cell BK129.out 3).trans rfl; have hfz54_0 := blk_frozen BK129.out 0; have hfz54_1 := blk_frozen BK129.out 1; have hfz54_2 := blk_frozen BK129.out 2; have hfz54_3 := blk_frozen BK129.out 3) | (go_at_call 64; (with_reducible refine (impl_CounterValid.calls a0_0 a0_1 a0_2 a0_3 false _ A6.out).mono ?_); rintro e w55 ⟨rfl, hb⟩; have n0_ := Aside0.mk (blk_below (g := gb129) (o := .cells #[.int .i64 a0_0, .int .i64 a0_1, .bool a0_2, .bool a0_3] 40 (0, 0)) (by (with_reducible repeat (first | refine blk_drewN ?_ _ | refine blk_drew ?_ | refine blk_alloc ?_ _)); exact BK129.out) hb); have n1_ := Aside0.mk (blk_below (g := gb130) (o := .cells #[.int .i64 0, .int .i64 0, .bool false, .bool false] 40 (0, 0)) (by (with_reducible repeat (first | refine blk_drewN ?_ _ | refine blk_drew ?_ | refine blk_alloc ?_ _)); exact BK130.out) hb); have n2_ := Aside0.mk (below_step (by repeat (first | (with_reducible first | exact HB.out | apply below_alloc | apply pw_below_drewN | apply below_drew1 | refine below_set ?_ GE129.out | refine below_set ?_ GE130.out) | exact HB.out)) hb); clear BK129; clear BK130; clear HB; have BK129 := n0_; have BK130 := n1_; have HB := n2_; clear n0_ n1_ n2_; (try clear hb); (try clear hb2); (try clear hk); (try clear hi); have hcz56_0 : w55.cell? ⟨gb130, 0, none⟩ = some (.int .i64 0) := (blk_cell BK130.out 0).trans rfl; have hcz56_1 : w55.cell? ⟨gb130, 1, none⟩ = some (.int .i64 0) := (blk_cell BK130.out 1).trans rfl; have hcz56_2 : w55.cell? ⟨gb130, 2, none⟩ = some (.bool false) := (blk_cell BK130.out 2).trans rfl; have hcz56_3 : w55.cell? ⟨gb130, 3, none⟩ = some (.bool false) := (blk_cell BK130.out 3).trans rfl; have hfz56_0 := blk_frozen BK130.out 0; have hfz56_1 := blk_frozen BK130.out 1; have hfz56_2 := blk_frozen BK130.out 2; have hfz56_3 := blk_frozen BK130.out 3)))
    refine bodyPost_ret (results_cell_row rfl _ _ gb130 40 #[.int .i64 0, .int .i64 0, .bool false, .bool false] (0, 0) _ rfl (by (with_reducible repeat (first | refine blk_drewN ?_ _ | refine blk_drew ?_ | refine blk_alloc ?_ _)); refine blk_put (cs := #[.int .i64 0, .int .i64 0, .bool false, .bool false]) ?_ 3 _ rfl; (with_reducible repeat (first | refine blk_drewN ?_ _ | refine blk_drew ?_ | refine blk_alloc ?_ _)); refine blk_put (cs := #[.int .i64 0, .int .i64 0, .bool false, .bool false]) ?_ 2 _ rfl; (with_reducible repeat (first | refine blk_drewN ?_ _ | refine blk_drew ?_ | refine blk_alloc ?_ _)); refine blk_put (cs := #[.int .i64 0, .int .i64 0, .bool false, .bool false]) ?_ 1 _ rfl; (with_reducible repeat (first | refine blk_drewN ?_ _ | refine blk_drew ?_ | refine blk_alloc ?_ _)); refine blk_put (cs := #[.int .i64 0, .int .i64 0, .bool false, .bool false]) ?_ 0 _ rfl; (with_reducible repeat (first | refine blk_drewN ?_ _ | refine blk_drew ?_ | refine blk_alloc ?_ _)); exact BK130.out) Try.underlying40 rfl (by kernel_rfl)) rfl ?_
    exact ⟨by first | rfl | (simp [errW_none, errW_some] <;> rfl) | (simp [*, errW_none, errW_some] <;> rfl), by repeat (first | (with_reducible first | exact HB.out | apply below_alloc | apply pw_below_drewN | apply below_drew1 | refine below_set ?_ GE129.out | refine below_set ?_ GE130.out) | exact HB.out)⟩

end Go.Proofs.Ytflemeaaiokjmaa.PFnExactCountEdges

-- PRINTED BY print.sh 35421559b90ae4d0a3588c463048766b98c2df88dd9212a6774a882060cdf62d: not written by this session
import Derived.Test.YtflemeaaiokjmaaPFnExactCountEdgesx0
namespace Go.Proofs.Ytflemeaaiokjmaa.PFnExactCountEdges
open Go.RowKit Go.Proofs.YtflemeaaiokjmaaW.PrintWords Go.Proofs.YtflemeaaiokjmaaW.PrintLast Go.Proofs.YtflemeaaiokjmaaW.PrintMore
attribute [local go_sem] max2_int min2_int max_two min_two max_three min_three max_four min_four   -- for this text's walks alone
set_option linter.unusedVariables false
set_option linter.unusedSimpArgs false

/-! ### spec_l6Step: function 63 -/
mutual
def spec_l6Step.j0 : Nat → Bool → Bool → Bool → Bool → Bool → Int → Int → Bool → Bool → Option (Int × Int × Bool × Bool)
  | 0, _, _, _, _, _, _, _, _, _ => none
  | k + 1, x1, x2, x3, x4, x11, x117000, x117001, x117002, x117003 => if x2 = true then (spec_l6Step.j1 k x1 x2 x3 x4 x11 (!x117003) x117000 x117001 x117002 x117003) else (spec_l6Step.j1 k x1 x2 x3 x4 x11 false x117000 x117001 x117002 x117003)
def spec_l6Step.j1 : Nat → Bool → Bool → Bool → Bool → Bool → Bool → Int → Int → Bool → Bool → Option (Int × Int × Bool × Bool)
  | 0, _, _, _, _, _, _, _, _, _, _ => none
  | k + 1, x1, x2, x3, x4, x11, x12, x117000, x117001, x117002, x117003 => if x3 = true then (some (x117000, 0, x1, x2)) else (if x4 = true then (some (x117000, x117000, x1, x2)) else (if x11 = true then (spec_l6Step.j2 k x1 x2 x11 x12 (!x12) x117000 x117001 x117002 x117003) else (spec_l6Step.j2 k x1 x2 x11 x12 false x117000 x117001 x117002 x117003)))
def spec_l6Step.j2 : Nat → Bool → Bool → Bool → Bool → Bool → Int → Int → Bool → Bool → Option (Int × Int × Bool × Bool)
  | 0, _, _, _, _, _, _, _, _, _ => none
  | k + 1, x1, x2, x11, x12, x33, x117000, x117001, x117002, x117003 => if x33 = true then (some (x117000, mn 9999 (wrap64 (x117001 + 1)), x1, x2)) else (if x12 = true then (if x11 = true then (some (x117000, x117001, x1, x2)) else (some (x117000, mx 0 (wrap64 (x117001 - 1)), x1, x2))) else (some (x117000, x117001, x1, x2)))
end
def spec_l6Step.f (k : Nat) (a0_0 : Int) (a0_1 : Int) (a0_2 : Bool) (a0_3 : Bool) (a1 : Bool) (a2 : Bool) (a3 : Bool) (a4 : Bool) : Option (Int × Int × Bool × Bool) := if a1 = true then (spec_l6Step.j0 k a1 a2 a3 a4 (!a0_2) a0_0 a0_1 a0_2 a0_3) else (spec_l6Step.j0 k a1 a2 a3 a4 false a0_0 a0_1 a0_2 a0_3)
theorem spec_l6Step.mono_l : ∀ k, (∀ y0 y1 y2 y3 y4 y5 y6 y7 y8, LeO (spec_l6Step.j0 k y0 y1 y2 y3 y4 y5 y6 y7 y8) (spec_l6Step.j0 (k + 1) y0 y1 y2 y3 y4 y5 y6 y7 y8)) ∧ (∀ y0 y1 y2 y3 y4 y5 y6 y7 y8 y9, LeO (spec_l6Step.j1 k y0 y1 y2 y3 y4 y5 y6 y7 y8 y9) (spec_l6Step.j1 (k + 1) y0 y1 y2 y3 y4 y5 y6 y7 y8 y9)) ∧ (∀ y0 y1 y2 y3 y4 y5 y6 y7 y8, LeO (spec_l6Step.j2 k y0 y1 y2 y3 y4 y5 y6 y7 y8) (spec_l6Step.j2 (k + 1) y0 y1 y2 y3 y4 y5 y6 y7 y8))
  | 0 => ⟨fun _ _ _ _ _ _ _ _ _ r h => by simp [spec_l6Step.j0] at h, fun _ _ _ _ _ _ _ _ _ _ r h => by simp [spec_l6Step.j1] at h, fun _ _ _ _ _ _ _ _ _ r h => by simp [spec_l6Step.j2] at h⟩
  | k + 1 => by
    obtain ⟨ih0, ih1, ih2⟩ := spec_l6Step.mono_l k
    refine ⟨?_, ?_, ?_⟩
    · intro y0 y1 y2 y3 y4 y5 y6 y7 y8
      unfold spec_l6Step.j0
      repeat' first
      | (with_reducible exact ih0 _ _ _ _ _ _ _ _ _)
      | (with_reducible exact ih1 _ _ _ _ _ _ _ _ _ _)
      | (with_reducible exact ih2 _ _ _ _ _ _ _ _ _)
      | (with_reducible exact LeO.refl _)
      | (with_reducible exact LeO.none _)
      | (with_reducible refine LeO.ite ?_ ?_)
      | (with_reducible refine LeO.bind ?_ (fun _ => ?_))
      | exact ih0 _ _ _ _ _ _ _ _ _
      | exact ih1 _ _ _ _ _ _ _ _ _ _
      | exact ih2 _ _ _ _ _ _ _ _ _
      | exact LeO.none _
      | refine LeO.ite ?_ ?_
      | refine LeO.bind ?_ (fun _ => ?_)
    · intro y0 y1 y2 y3 y4 y5 y6 y7 y8 y9
      unfold spec_l6Step.j1
      repeat' first
      | (with_reducible exact ih0 _ _ _ _ _ _ _ _ _)
      | (with_reducible exact ih1 _ _ _ _ _ _ _ _ _ _)
      | (with_reducible exact ih2 _ _ _ _ _ _ _ _ _)
      | (with_reducible exact LeO.refl _)
      | (with_reducible exact LeO.none _)
      | (with_reducible refine LeO.ite ?_ ?_)
      | (with_reducible refine LeO.bind ?_ (fun _ => ?_))
      | exact ih0 _ _ _ _ _ _ _ _ _
      | exact ih1 _ _ _ _ _ _ _ _ _ _
      | exact ih2 _ _ _ _ _ _ _ _ _
      | exact LeO.none _
      | refine LeO.ite ?_ ?_
      | refine LeO.bind ?_ (fun _ => ?_)
    · intro y0 y1 y2 y3 y4 y5 y6 y7 y8
      unfold spec_l6Step.j2
      repeat' first
      | (with_reducible exact ih0 _ _ _ _ _ _ _ _ _)
      | (with_reducible exact ih1 _ _ _ _ _ _ _ _ _ _)
      | (with_reducible exact ih2 _ _ _ _ _ _ _ _ _)
      | (with_reducible exact LeO.refl _)
      | (with_reducible exact LeO.none _)
      | (with_reducible refine LeO.ite ?_ ?_)
      | (with_reducible refine LeO.bind ?_ (fun _ => ?_))
      | exact ih0 _ _ _ _ _ _ _ _ _
      | exact ih1 _ _ _ _ _ _ _ _ _ _
      | exact ih2 _ _ _ _ _ _ _ _ _
      | exact LeO.none _
      | refine LeO.ite ?_ ?_
      | refine LeO.bind ?_ (fun _ => ?_)
theorem spec_l6Step.mono : ∀ a0 a1 a2 a3 a4 a5 a6 a7 k, LeO (spec_l6Step.f k a0 a1 a2 a3 a4 a5 a6 a7) (spec_l6Step.f (k + 1) a0 a1 a2 a3 a4 a5 a6 a7) := by
  intro a0 a1 a2 a3 a4 a5 a6 a7 k
  obtain ⟨ih0, ih1, ih2⟩ := spec_l6Step.mono_l k
  unfold spec_l6Step.f
  repeat' first
      | (with_reducible exact ih0 _ _ _ _ _ _ _ _ _)
      | (with_reducible exact ih1 _ _ _ _ _ _ _ _ _ _)
      | (with_reducible exact ih2 _ _ _ _ _ _ _ _ _)
      | (with_reducible exact LeO.refl _)
      | (with_reducible exact LeO.none _)
      | (with_reducible refine LeO.ite ?_ ?_)
      | (with_reducible refine LeO.bind ?_ (fun _ => ?_))
      | exact ih0 _ _ _ _ _ _ _ _ _
      | exact ih1 _ _ _ _ _ _ _ _ _ _
      | exact ih2 _ _ _ _ _ _ _ _ _
      | exact LeO.none _
      | refine LeO.ite ?_ ?_
      | refine LeO.bind ?_ (fun _ => ?_)
set_option maxHeartbeats 8000000 in
set_option maxRecDepth 100000 in
theorem spec_l6Step.calls (k : Nat) (a0_0 : Int) (a0_1 : Int) (a0_2 : Bool) (a0_3 : Bool) (a1 : Bool) (a2 : Bool) (a3 : Bool) (a4 : Bool) (r1 : Int) (r2 : Int) (r3 : Bool) (r4 : Bool) (w : World) (h : spec_l6Step.f k a0_0 a0_1 a0_2 a0_3 a1 a2 a3 a4 = some (r1, r2, r3, r4)) :
    Calls Try.prog 63 #[.agg #[.int .i64 a0_0, .int .i64 a0_1, .bool a0_2, .bool a0_3], .bool a1, .bool a2, .bool a3, .bool a4] w fun e w' => e = .returned (.agg #[.int .i64 r1, .int .i64 r2, .bool r3, .bool r4]) ∧ Below w.heap.size w w' := by
  have hu40 := Try.underlying40
  have HB := Aside0.mk (Below.refl w.heap.size w)
  have H : (if a1 = true then (spec_l6Step.j0 k a1 a2 a3 a4 (!a0_2) a0_0 a0_1 a0_2 a0_3) else (spec_l6Step.j0 k a1 a2 a3 a4 false a0_0 a0_1 a0_2 a0_3)) = some (r1, r2, r3, r4) := h
  clear h
  have HC6 := Aside0.mk H
  clear H
  go_enter Try.func63, Try.ntmps63
  go_upto_region 1 with (first | ((with_reducible refine gate_dst (N := 5) rfl ?_); refine box_event ?hg (N := 5) ?hd (cs := #[.int .i64 a0_0, .int .i64 a0_1, .bool a0_2, .bool a0_3]) (t := 40) ?hr ?_; (case hd => rfl); (case hg => rfl); (case hr => first | (go_simp; done) | (go_simp; rfl)); intro gb116 hg w7 hbox hb; have n0_ := Aside0.mk (below_step (by repeat (first | (with_reducible first | exact HB.out | apply below_alloc | apply pw_below_drewN | apply below_drew1) | exact HB.out)) hb); have n1_ := Aside0.mk (hbox); have n2_ := Aside0.mk ((by rw [hg]; exact (below_size (by repeat (first | (with_reducible first | exact HB.out | apply below_alloc | apply pw_below_drewN | apply below_drew1) | exact HB.out))) : w.heap.size ≤ gb116)); have n3_ := Aside0.mk ((by rw [hg]; exact (below_size (by repeat (first | (with_reducible first | exact HB.out | apply below_alloc | apply pw_below_drewN | apply below_drew1) | exact HB.out))) : w.heap.size ≤ gb116)); clear HB; have HB := n0_; have BK116 := n1_; have GW116 := n2_; have GE116 := n3_; clear n0_ n1_ n2_ n3_; clear hb hbox hg) | ((with_reducible refine gate_dst (N := 10) rfl ?_); refine box_event ?hg (N := 10) ?hd (cs := #[.int .i64 0, .int .i64 0, .bool false, .bool false]) (t := 40) ?hr ?_; (case hd => rfl); (case hg => rfl); (case hr => first | (go_simp; done) | (go_simp; rfl)); intro gb117 hg w8 hbox hb; have n0_ := Aside0.mk (blk_below (g := gb116) (o := .cells #[.int .i64 a0_0, .int .i64 a0_1, .bool a0_2, .bool a0_3] 40 (0, 0)) (by (with_reducible repeat (first | refine blk_drewN ?_ _ | refine blk_drew ?_ | refine blk_alloc ?_ _)); exact BK116.out) hb); have n1_ := Aside0.mk (below_step (by repeat (first | (with_reducible first | exact HB.out | apply below_alloc | apply pw_below_drewN | apply below_drew1 | refine below_set ?_ GE116.out) | exact HB.out)) hb); have n2_ := Aside0.mk (hbox); have n3_ := Aside0.mk ((by rw [hg]; exact (below_size (by repeat (first | (with_reducible first | exact HB.out | apply below_alloc | apply pw_below_drewN | apply below_drew1 | refine below_set ?_ GE116.out) | exact HB.out))) : w.heap.size ≤ gb117)); have n4_ := Aside0.mk ((by rw [hg]; exact (below_size (by repeat (first | (with_reducible first | exact HB.out | apply below_alloc | apply pw_below_drewN | apply below_drew1 | refine below_set ?_ GE116.out) | exact HB.out))) : w.heap.size ≤ gb117)); have n5_ := Aside0.mk ((by rw [hg]; exact Nat.ne_of_lt (blk_lt (g := gb116) (o := .cells #[.int .i64 a0_0, .int .i64 a0_1, .bool a0_2, .bool a0_3] 40 (0, 0)) (by (with_reducible repeat (first | refine blk_drewN ?_ _ | refine blk_drew ?_ | refine blk_alloc ?_ _)); exact BK116.out)) : gb116 ≠ gb117)); have n6_ := Aside0.mk ((by rw [hg]; exact Nat.ne_of_gt (blk_lt (g := gb116) (o := .cells #[.int .i64 a0_0, .int .i64 a0_1, .bool a0_2, .bool a0_3] 40 (0, 0)) (by (with_reducible repeat (first | refine blk_drewN ?_ _ | refine blk_drew ?_ | refine blk_alloc ?_ _)); exact BK116.out)) : gb117 ≠ gb116)); clear BK116; clear HB; have BK116 := n0_; have HB := n1_; have BK117 := n2_; have GW117 := n3_; have GE117 := n4_; have NB116_117 := n5_; have NB117_116 := n6_; clear n0_ n1_ n2_ n3_ n4_ n5_ n6_; clear hb hbox hg))
  (try simp only [Act.put, List.setIfInBounds_toArray, List.set_cons_zero, List.set_cons_succ])
  go_cut [11] (fun v11 wc => ∃ (kq : Nat) (x11_5 : Bool), v11 = .bool x11_5 ∧ Aside0 (spec_l6Step.j0 kq a1 a2 a3 a4 x11_5 a0_0 a0_1 a0_2 a0_3 = some (r1, r2, r3, r4)) ∧ Aside0 (kq ≤ k) ∧ Aside0 (wc.heap[gb116]? = some (.cells #[.int .i64 a0_0, .int .i64 a0_1, .bool a0_2, .bool a0_3] 40 (0, 0))) ∧ Aside0 (wc.heap[gb117]? = some (.cells #[.int .i64 0, .int .i64 0, .bool false, .bool false] 40 (0, 0))) ∧ Aside0 (Below w.heap.size w wc))
  case first =>
    have H := HC6.out
    clear HC6
    by_cases c9 : a1 = true
    · subst c9
      have H1 : (spec_l6Step.j0 k true a2 a3 a4 (!a0_2) a0_0 a0_1 a0_2 a0_3) = some (r1, r2, r3, r4) := by rw [if_pos rfl] at H; exact H
      clear H
      have H := H1
      clear H1
      have H' := Aside0.mk H
      clear H
      have hnb10 := NB116_117.out
      have hnc10 := NB117_116.out
      have hcz11_0 : w8.cell? ⟨gb116, 0, none⟩ = some (.int .i64 a0_0) := (blk_cell BK116.out 0).trans rfl
      have hcz11_1 : w8.cell? ⟨gb116, 1, none⟩ = some (.int .i64 a0_1) := (blk_cell BK116.out 1).trans rfl
      have hcz11_2 : w8.cell? ⟨gb116, 2, none⟩ = some (.bool a0_2) := (blk_cell BK116.out 2).trans rfl
      have hcz11_3 : w8.cell? ⟨gb116, 3, none⟩ = some (.bool a0_3) := (blk_cell BK116.out 3).trans rfl
      have hfz11_0 := blk_frozen BK116.out 0
      have hfz11_1 := blk_frozen BK116.out 1
      have hfz11_2 := blk_frozen BK116.out 2
      have hfz11_3 := blk_frozen BK116.out 3
      go_wp2
      go_meet
      case rel => exact ⟨_, (!a0_2), (by first | rfl | (simp; done) | (simp [*]; done)), H', ⟨by first | omega | exact Nat.le_refl _⟩, ⟨by (with_reducible repeat (first | refine blk_drewN ?_ _ | refine blk_drew ?_ | refine blk_alloc ?_ _)); exact BK116.out⟩, ⟨by (with_reducible repeat (first | refine blk_drewN ?_ _ | refine blk_drew ?_ | refine blk_alloc ?_ _)); exact BK117.out⟩, ⟨by repeat (first | (with_reducible first | exact HB.out | apply below_alloc | apply pw_below_drewN | apply below_drew1 | refine below_set ?_ GE116.out | refine below_set ?_ GE117.out) | exact HB.out)⟩⟩
    · replace c9 := Bool.eq_false_iff.mpr c9
      subst c9
      have H1 : (spec_l6Step.j0 k false a2 a3 a4 false a0_0 a0_1 a0_2 a0_3) = some (r1, r2, r3, r4) := by rw [if_neg (show ¬ (false = true) by decide)] at H; exact H
      clear H
      have H := H1
      clear H1
      have H' := Aside0.mk H
      clear H
      go_wp2
      go_meet
      case rel => exact ⟨_, (false), (by first | rfl | (simp; done) | (simp [*]; done)), H', ⟨by first | omega | exact Nat.le_refl _⟩, ⟨by (with_reducible repeat (first | refine blk_drewN ?_ _ | refine blk_drew ?_ | refine blk_alloc ?_ _)); exact BK116.out⟩, ⟨by (with_reducible repeat (first | refine blk_drewN ?_ _ | refine blk_drew ?_ | refine blk_alloc ?_ _)); exact BK117.out⟩, ⟨by repeat (first | (with_reducible first | exact HB.out | apply below_alloc | apply pw_below_drewN | apply below_drew1 | refine below_set ?_ GE116.out | refine below_set ?_ GE117.out) | exact HB.out)⟩⟩
  case rest =>
    clear HC6
    try clear c1
    try clear p2
    try clear c6
    try clear c9
    try clear c10
    try clear hcz11_0
    try clear hcz11_1
    try clear hcz11_2
    try clear hcz11_3
    try clear hfz11_0
    try clear hfz11_1
    try clear hfz11_2
    try clear hfz11_3
    obtain ⟨kq, x11_5, rfl, HA, HJ5, BK116, BK117, HB⟩ := hcut
    cases kq with
    | zero => exact absurd HA.out (by simp [spec_l6Step.j0])
    | succ kj5 =>
      have H := HA.out
      clear HA
      simp only [spec_l6Step.j0] at H
      have HC12 := Aside0.mk H
      clear H
      go_upto_region 2 with (fail)
      go_cut [12] (fun v12 wc => ∃ (kq : Nat) (x12_11 : Bool), v12 = .bool x12_11 ∧ Aside0 (spec_l6Step.j1 kq a1 a2 a3 a4 x11_5 x12_11 a0_0 a0_1 a0_2 a0_3 = some (r1, r2, r3, r4)) ∧ Aside0 (kq ≤ kj5) ∧ Aside0 (wc.heap[gb116]? = some (.cells #[.int .i64 a0_0, .int .i64 a0_1, .bool a0_2, .bool a0_3] 40 (0, 0))) ∧ Aside0 (wc.heap[gb117]? = some (.cells #[.int .i64 0, .int .i64 0, .bool false, .bool false] 40 (0, 0))) ∧ Aside0 (Below w.heap.size w wc))
      case first =>
        have H := HC12.out
        clear HC12
        by_cases c13 : a2 = true
        · subst c13
          have H1 : (spec_l6Step.j1 kj5 a1 true a3 a4 x11_5 (!a0_3) a0_0 a0_1 a0_2 a0_3) = some (r1, r2, r3, r4) := by rw [if_pos rfl] at H; exact H
          clear H
          have H := H1
          clear H1
          have H' := Aside0.mk H
          clear H
          have hnb14 := NB116_117.out
          have hnc14 := NB117_116.out
          have hcz15_0 : wc.cell? ⟨gb116, 0, none⟩ = some (.int .i64 a0_0) := (blk_cell BK116.out 0).trans rfl
          have hcz15_1 : wc.cell? ⟨gb116, 1, none⟩ = some (.int .i64 a0_1) := (blk_cell BK116.out 1).trans rfl
          have hcz15_2 : wc.cell? ⟨gb116, 2, none⟩ = some (.bool a0_2) := (blk_cell BK116.out 2).trans rfl
          have hcz15_3 : wc.cell? ⟨gb116, 3, none⟩ = some (.bool a0_3) := (blk_cell BK116.out 3).trans rfl
          have hfz15_0 := blk_frozen BK116.out 0
          have hfz15_1 := blk_frozen BK116.out 1
          have hfz15_2 := blk_frozen BK116.out 2
          have hfz15_3 := blk_frozen BK116.out 3
          go_wp2
          go_meet
          case rel => exact ⟨_, (!a0_3), (by first | rfl | (simp; done) | (simp [*]; done)), H', ⟨by have := HJ5.out; first | omega | exact Nat.le_refl _⟩, ⟨by (with_reducible repeat (first | refine blk_drewN ?_ _ | refine blk_drew ?_ | refine blk_alloc ?_ _)); exact BK116.out⟩, ⟨by (with_reducible repeat (first | refine blk_drewN ?_ _ | refine blk_drew ?_ | refine blk_alloc ?_ _)); exact BK117.out⟩, ⟨by repeat (first | (with_reducible first | exact HB.out | apply below_alloc | apply pw_below_drewN | apply below_drew1 | refine below_set ?_ GE116.out | refine below_set ?_ GE117.out) | exact HB.out)⟩⟩
        · replace c13 := Bool.eq_false_iff.mpr c13
          subst c13
          have H1 : (spec_l6Step.j1 kj5 a1 false a3 a4 x11_5 false a0_0 a0_1 a0_2 a0_3) = some (r1, r2, r3, r4) := by rw [if_neg (show ¬ (false = true) by decide)] at H; exact H
          clear H
          have H := H1
          clear H1
          have H' := Aside0.mk H
          clear H
          go_wp2
          go_meet
          case rel => exact ⟨_, (false), (by first | rfl | (simp; done) | (simp [*]; done)), H', ⟨by have := HJ5.out; first | omega | exact Nat.le_refl _⟩, ⟨by (with_reducible repeat (first | refine blk_drewN ?_ _ | refine blk_drew ?_ | refine blk_alloc ?_ _)); exact BK116.out⟩, ⟨by (with_reducible repeat (first | refine blk_drewN ?_ _ | refine blk_drew ?_ | refine blk_alloc ?_ _)); exact BK117.out⟩, ⟨by repeat (first | (with_reducible first | exact HB.out | apply below_alloc | apply pw_below_drewN | apply below_drew1 | refine below_set ?_ GE116.out | refine below_set ?_ GE117.out) | exact HB.out)⟩⟩
      case rest =>
        clear HC12
        try clear c1
        try clear p2
        try clear c6
        try clear c9
        try clear c10
        try clear c13
        try clear c14
        try clear hcz11_0
        try clear hcz11_1
        try clear hcz11_2
        try clear hcz11_3
        try clear hcz15_0
        try clear hcz15_1
        try clear hcz15_2
        try clear hcz15_3
        try clear hfz11_0
        try clear hfz11_1
        try clear hfz11_2
        try clear hfz11_3
        try clear hfz15_0
        try clear hfz15_1
        try clear hfz15_2
        try clear hfz15_3
        try clear p2
        obtain ⟨kq, x12_11, rfl, HA, HJ11, BK116, BK117, HB⟩ := hcut
        cases kq with
        | zero => exact absurd HA.out (by simp [spec_l6Step.j1])
        | succ kj11 =>
          have H := HA.out
          clear HA
          simp only [spec_l6Step.j1] at H
          by_cases c16 : a3 = true
          · subst c16
            have H1 : (some (a0_0, 0, a1, a2)) = some (r1, r2, r3, r4) := by rw [if_pos rfl] at H; exact H
            clear H
            have H := H1
            clear H1
            simp only [Option.some.injEq, Prod.mk.injEq] at H
            obtain ⟨rfl, rfl, rfl, rfl⟩ := H
            have hnb17 := NB116_117.out
            have hnc17 := NB117_116.out
            have hcz18_0 : wc.cell? ⟨gb116, 0, none⟩ = some (.int .i64 a0_0) := (blk_cell BK116.out 0).trans rfl
            have hcz18_1 : wc.cell? ⟨gb116, 1, none⟩ = some (.int .i64 a0_1) := (blk_cell BK116.out 1).trans rfl
            have hcz18_2 : wc.cell? ⟨gb116, 2, none⟩ = some (.bool a0_2) := (blk_cell BK116.out 2).trans rfl
            have hcz18_3 : wc.cell? ⟨gb116, 3, none⟩ = some (.bool a0_3) := (blk_cell BK116.out 3).trans rfl
            have hfz18_0 := blk_frozen BK116.out 0
            have hfz18_1 := blk_frozen BK116.out 1
            have hfz18_2 := blk_frozen BK116.out 2
            have hfz18_3 := blk_frozen BK116.out 3
            have hcz19_0 : wc.cell? ⟨gb117, 0, none⟩ = some (.int .i64 0) := (blk_cell BK117.out 0).trans rfl
            have hcz19_1 : wc.cell? ⟨gb117, 1, none⟩ = some (.int .i64 0) := (blk_cell BK117.out 1).trans rfl
            have hcz19_2 : wc.cell? ⟨gb117, 2, none⟩ = some (.bool false) := (blk_cell BK117.out 2).trans rfl
            have hcz19_3 : wc.cell? ⟨gb117, 3, none⟩ = some (.bool false) := (blk_cell BK117.out 3).trans rfl
            have hfz19_0 := blk_frozen BK117.out 0
            have hfz19_1 := blk_frozen BK117.out 1
            have hfz19_2 := blk_frozen BK117.out 2
            have hfz19_3 := blk_frozen BK117.out 3
            go_wp2
            refine bodyPost_ret (results_cell_row rfl _ _ gb117 40 #[.int .i64 a0_0, .int .i64 0, .bool a1, .bool a2] (0, 0) _ rfl (by (with_reducible repeat (first | refine blk_drewN ?_ _ | refine blk_drew ?_ | refine blk_alloc ?_ _)); refine blk_put (cs := #[.int .i64 a0_0, .int .i64 0, .bool a1, .bool false]) ?_ 3 _ rfl; (with_reducible repeat (first | refine blk_drewN ?_ _ | refine blk_drew ?_ | refine blk_alloc ?_ _)); refine blk_put (cs := #[.int .i64 a0_0, .int .i64 0, .bool false, .bool false]) ?_ 2 _ rfl; (with_reducible repeat (first | refine blk_drewN ?_ _ | refine blk_drew ?_ | refine blk_alloc ?_ _)); refine blk_put (cs := #[.int .i64 a0_0, .int .i64 0, .bool false, .bool false]) ?_ 1 _ rfl; (with_reducible repeat (first | refine blk_drewN ?_ _ | refine blk_drew ?_ | refine blk_alloc ?_ _)); refine blk_put (cs := #[.int .i64 0, .int .i64 0, .bool false, .bool false]) ?_ 0 _ rfl; (with_reducible repeat (first | refine blk_drewN ?_ _ | refine blk_drew ?_ | refine blk_alloc ?_ _)); refine blk_far ?_ NB117_116.out _; (with_reducible repeat (first | refine blk_drewN ?_ _ | refine blk_drew ?_ | refine blk_alloc ?_ _)); refine blk_far ?_ NB117_116.out _; (with_reducible repeat (first | refine blk_drewN ?_ _ | refine blk_drew ?_ | refine blk_alloc ?_ _)); refine blk_far ?_ NB117_116.out _; (with_reducible repeat (first | refine blk_drewN ?_ _ | refine blk_drew ?_ | refine blk_alloc ?_ _)); exact BK117.out) Try.underlying40 rfl (by kernel_rfl)) rfl ?_
            exact ⟨by first | rfl | (simp [errW_none, errW_some] <;> rfl) | (simp [*, errW_none, errW_some] <;> rfl), by repeat (first | (with_reducible first | exact HB.out | apply below_alloc | apply pw_below_drewN | apply below_drew1 | refine below_set ?_ GE116.out | refine below_set ?_ GE117.out) | exact HB.out)⟩
          · replace c16 := Bool.eq_false_iff.mpr c16
            subst c16
            have H1 : (if a4 = true then (some (a0_0, a0_0, a1, a2)) else (if x11_5 = true then (spec_l6Step.j2 kj11 a1 a2 x11_5 x12_11 (!x12_11) a0_0 a0_1 a0_2 a0_3) else (spec_l6Step.j2 kj11 a1 a2 x11_5 x12_11 false a0_0 a0_1 a0_2 a0_3))) = some (r1, r2, r3, r4) := by rw [if_neg (show ¬ (false = true) by decide)] at H; exact H
            clear H
            have H := H1
            clear H1
            by_cases c20 : a4 = true
            · subst c20
              have H1 : (some (a0_0, a0_0, a1, a2)) = some (r1, r2, r3, r4) := by rw [if_pos rfl] at H; exact H
              clear H
              have H := H1
              clear H1
              simp only [Option.some.injEq, Prod.mk.injEq] at H
              obtain ⟨rfl, rfl, rfl, rfl⟩ := H
              have hnb21 := NB116_117.out
              have hnc21 := NB117_116.out
              have hcz22_0 : wc.cell? ⟨gb116, 0, none⟩ = some (.int .i64 a0_0) := (blk_cell BK116.out 0).trans rfl
              have hcz22_1 : wc.cell? ⟨gb116, 1, none⟩ = some (.int .i64 a0_1) := (blk_cell BK116.out 1).trans rfl
              have hcz22_2 : wc.cell? ⟨gb116, 2, none⟩ = some (.bool a0_2) := (blk_cell BK116.out 2).trans rfl
              have hcz22_3 : wc.cell? ⟨gb116, 3, none⟩ = some (.bool a0_3) := (blk_cell BK116.out 3).trans rfl
              have hfz22_0 := blk_frozen BK116.out 0
              have hfz22_1 := blk_frozen BK116.out 1
              have hfz22_2 := blk_frozen BK116.out 2
              have hfz22_3 := blk_frozen BK116.out 3
              have hcz23_0 : wc.cell? ⟨gb117, 0, none⟩ = some (.int .i64 0) := (blk_cell BK117.out 0).trans rfl
              have hcz23_1 : wc.cell? ⟨gb117, 1, none⟩ = some (.int .i64 0) := (blk_cell BK117.out 1).trans rfl
              have hcz23_2 : wc.cell? ⟨gb117, 2, none⟩ = some (.bool false) := (blk_cell BK117.out 2).trans rfl
              have hcz23_3 : wc.cell? ⟨gb117, 3, none⟩ = some (.bool false) := (blk_cell BK117.out 3).trans rfl
              have hfz23_0 := blk_frozen BK117.out 0
              have hfz23_1 := blk_frozen BK117.out 1
              have hfz23_2 := blk_frozen BK117.out 2
              have hfz23_3 := blk_frozen BK117.out 3
              go_wp2
              refine bodyPost_ret (results_cell_row rfl _ _ gb117 40 #[.int .i64 a0_0, .int .i64 a0_0, .bool a1, .bool a2] (0, 0) _ rfl (by (with_reducible repeat (first | refine blk_drewN ?_ _ | refine blk_drew ?_ | refine blk_alloc ?_ _)); refine blk_put (cs := #[.int .i64 a0_0, .int .i64 a0_0, .bool a1, .bool false]) ?_ 3 _ rfl; (with_reducible repeat (first | refine blk_drewN ?_ _ | refine blk_drew ?_ | refine blk_alloc ?_ _)); refine blk_put (cs := #[.int .i64 a0_0, .int .i64 a0_0, .bool false, .bool false]) ?_ 2 _ rfl; (with_reducible repeat (first | refine blk_drewN ?_ _ | refine blk_drew ?_ | refine blk_alloc ?_ _)); refine blk_put (cs := #[.int .i64 a0_0, .int .i64 0, .bool false, .bool false]) ?_ 1 _ rfl; (with_reducible repeat (first | refine blk_drewN ?_ _ | refine blk_drew ?_ | refine blk_alloc ?_ _)); refine blk_put (cs := #[.int .i64 0, .int .i64 0, .bool false, .bool false]) ?_ 0 _ rfl; (with_reducible repeat (first | refine blk_drewN ?_ _ | refine blk_drew ?_ | refine blk_alloc ?_ _)); refine blk_far ?_ NB117_116.out _; (with_reducible repeat (first | refine blk_drewN ?_ _ | refine blk_drew ?_ | refine blk_alloc ?_ _)); refine blk_far ?_ NB117_116.out _; (with_reducible repeat (first | refine blk_drewN ?_ _ | refine blk_drew ?_ | refine blk_alloc ?_ _)); refine blk_far ?_ NB117_116.out _; (with_reducible repeat (first | refine blk_drewN ?_ _ | refine blk_drew ?_ | refine blk_alloc ?_ _)); exact BK117.out) Try.underlying40 rfl (by kernel_rfl)) rfl ?_
              exact ⟨by first | rfl | (simp [errW_none, errW_some] <;> rfl) | (simp [*, errW_none, errW_some] <;> rfl), by repeat (first | (with_reducible first | exact HB.out | apply below_alloc | apply pw_below_drewN | apply below_drew1 | refine below_set ?_ GE116.out | refine below_set ?_ GE117.out) | exact HB.out)⟩
            · replace c20 := Bool.eq_false_iff.mpr c20
              subst c20
              have H1 : (if x11_5 = true then (spec_l6Step.j2 kj11 a1 a2 x11_5 x12_11 (!x12_11) a0_0 a0_1 a0_2 a0_3) else (spec_l6Step.j2 kj11 a1 a2 x11_5 x12_11 false a0_0 a0_1 a0_2 a0_3)) = some (r1, r2, r3, r4) := by rw [if_neg (show ¬ (false = true) by decide)] at H; exact H
              clear H
              have H := H1
              clear H1
              have HC24 := Aside0.mk H
              clear H
              go_upto_region 7 with (fail)
              go_cut [33] (fun v33 wc => ∃ (kq : Nat) (x33_23 : Bool), v33 = .bool x33_23 ∧ Aside0 (spec_l6Step.j2 kq a1 a2 x11_5 x12_11 x33_23 a0_0 a0_1 a0_2 a0_3 = some (r1, r2, r3, r4)) ∧ Aside0 (kq ≤ kj11) ∧ Aside0 (wc.heap[gb116]? = some (.cells #[.int .i64 a0_0, .int .i64 a0_1, .bool a0_2, .bool a0_3] 40 (0, 0))) ∧ Aside0 (wc.heap[gb117]? = some (.cells #[.int .i64 0, .int .i64 0, .bool false, .bool false] 40 (0, 0))) ∧ Aside0 (Below w.heap.size w wc))
              case first =>
                have H := HC24.out
                clear HC24
                by_cases c25 : x11_5 = true
                · subst c25
                  have H1 : (spec_l6Step.j2 kj11 a1 a2 true x12_11 (!x12_11) a0_0 a0_1 a0_2 a0_3) = some (r1, r2, r3, r4) := by rw [if_pos rfl] at H; exact H
                  clear H
                  have H := H1
                  clear H1
                  have H' := Aside0.mk H
                  clear H
                  go_wp2
                  go_meet
                  case rel => exact ⟨_, (!x12_11), (by first | rfl | (simp; done) | (simp [*]; done)), H', ⟨by have := HJ5.out; have := HJ11.out; first | omega | exact Nat.le_refl _⟩, ⟨by (with_reducible repeat (first | refine blk_drewN ?_ _ | refine blk_drew ?_ | refine blk_alloc ?_ _)); exact BK116.out⟩, ⟨by (with_reducible repeat (first | refine blk_drewN ?_ _ | refine blk_drew ?_ | refine blk_alloc ?_ _)); exact BK117.out⟩, ⟨by repeat (first | (with_reducible first | exact HB.out | apply below_alloc | apply pw_below_drewN | apply below_drew1 | refine below_set ?_ GE116.out | refine below_set ?_ GE117.out) | exact HB.out)⟩⟩
                · replace c25 := Bool.eq_false_iff.mpr c25
                  subst c25
                  have H1 : (spec_l6Step.j2 kj11 a1 a2 false x12_11 false a0_0 a0_1 a0_2 a0_3) = some (r1, r2, r3, r4) := by rw [if_neg (show ¬ (false = true) by decide)] at H; exact H
                  clear H
                  have H := H1
                  clear H1
                  have H' := Aside0.mk H
                  clear H
                  go_wp2
                  go_meet
                  case rel => exact ⟨_, (false), (by first | rfl | (simp; done) | (simp [*]; done)), H', ⟨by have := HJ5.out; have := HJ11.out; first | omega | exact Nat.le_refl _⟩, ⟨by (with_reducible repeat (first | refine blk_drewN ?_ _ | refine blk_drew ?_ | refine blk_alloc ?_ _)); exact BK116.out⟩, ⟨by (with_reducible repeat (first | refine blk_drewN ?_ _ | refine blk_drew ?_ | refine blk_alloc ?_ _)); exact BK117.out⟩, ⟨by repeat (first | (with_reducible first | exact HB.out | apply below_alloc | apply pw_below_drewN | apply below_drew1 | refine below_set ?_ GE116.out | refine below_set ?_ GE117.out) | exact HB.out)⟩⟩
              case rest =>
                clear HC24
                try clear c1
                try clear c2
                try clear p2
                try clear c6
                try clear c9
                try clear c10
                try clear c13
                try clear c14
                try clear c16
                try clear c17
                try clear c20
                try clear c21
                try clear c25
                try clear hcz11_0
                try clear hcz11_1
                try clear hcz11_2
                try clear hcz11_3
                try clear hcz15_0
                try clear hcz15_1
                try clear hcz15_2
                try clear hcz15_3
                try clear hcz18_0
                try clear hcz18_1
                try clear hcz18_2
                try clear hcz18_3
                try clear hcz19_0
                try clear hcz19_1
                try clear hcz19_2
                try clear hcz19_3
                try clear hcz22_0
                try clear hcz22_1
                try clear hcz22_2
                try clear hcz22_3
                try clear hcz23_0
                try clear hcz23_1
                try clear hcz23_2
                try clear hcz23_3
                try clear hfz11_0
                try clear hfz11_1
                try clear hfz11_2
                try clear hfz11_3
                try clear hfz15_0
                try clear hfz15_1
                try clear hfz15_2
                try clear hfz15_3
                try clear hfz18_0
                try clear hfz18_1
                try clear hfz18_2
                try clear hfz18_3
                try clear hfz19_0
                try clear hfz19_1
                try clear hfz19_2
                try clear hfz19_3
                try clear hfz22_0
                try clear hfz22_1
                try clear hfz22_2
                try clear hfz22_3
                try clear hfz23_0
                try clear hfz23_1
                try clear hfz23_2
                try clear hfz23_3
                try clear p2
                obtain ⟨kq, x33_23, rfl, HA, HJ23, BK116, BK117, HB⟩ := hcut
                cases kq with
                | zero => exact absurd HA.out (by simp [spec_l6Step.j2])
                | succ kj23 =>
                  have H := HA.out
                  clear HA
                  simp only [spec_l6Step.j2] at H
                  by_cases c26 : x33_23 = true
                  · subst c26
                    have H1 : (some (a0_0, mn 9999 (wrap64 (a0_1 + 1)), a1, a2)) = some (r1, r2, r3, r4) := by rw [if_pos rfl] at H; exact H
                    clear H
                    have H := H1
                    clear H1
                    obtain ⟨ji27, hji27⟩ : ∃ j_ : Int, (mn 9999 (wrap64 (a0_1 + 1))) = j_ := ⟨_, rfl⟩
                    replace H : (some (a0_0, ji27, a1, a2)) = some (r1, r2, r3, r4) := by first | (rw [hji27] at H; exact H) | (simp only [hji27] at H ⊢; exact H)
                    have hji27_ : (if (wrap64 (a0_1 + 1)) < 9999 then (wrap64 (a0_1 + 1)) else 9999) = ji27 := hji27
                    simp only [Option.some.injEq, Prod.mk.injEq] at H
                    obtain ⟨rfl, rfl, rfl, rfl⟩ := H
                    have hnb28 := NB116_117.out
                    have hnc28 := NB117_116.out
                    have hcz29_0 : wc.cell? ⟨gb116, 0, none⟩ = some (.int .i64 a0_0) := (blk_cell BK116.out 0).trans rfl
                    have hcz29_1 : wc.cell? ⟨gb116, 1, none⟩ = some (.int .i64 a0_1) := (blk_cell BK116.out 1).trans rfl
                    have hcz29_2 : wc.cell? ⟨gb116, 2, none⟩ = some (.bool a0_2) := (blk_cell BK116.out 2).trans rfl
                    have hcz29_3 : wc.cell? ⟨gb116, 3, none⟩ = some (.bool a0_3) := (blk_cell BK116.out 3).trans rfl
                    have hfz29_0 := blk_frozen BK116.out 0
                    have hfz29_1 := blk_frozen BK116.out 1
                    have hfz29_2 := blk_frozen BK116.out 2
                    have hfz29_3 := blk_frozen BK116.out 3
                    have hcz30_0 : wc.cell? ⟨gb117, 0, none⟩ = some (.int .i64 0) := (blk_cell BK117.out 0).trans rfl
                    have hcz30_1 : wc.cell? ⟨gb117, 1, none⟩ = some (.int .i64 0) := (blk_cell BK117.out 1).trans rfl
                    have hcz30_2 : wc.cell? ⟨gb117, 2, none⟩ = some (.bool false) := (blk_cell BK117.out 2).trans rfl
                    have hcz30_3 : wc.cell? ⟨gb117, 3, none⟩ = some (.bool false) := (blk_cell BK117.out 3).trans rfl
                    have hfz30_0 := blk_frozen BK117.out 0
                    have hfz30_1 := blk_frozen BK117.out 1
                    have hfz30_2 := blk_frozen BK117.out 2
                    have hfz30_3 := blk_frozen BK117.out 3
                    go_wp2
                    refine bodyPost_ret (results_cell_row rfl _ _ gb117 40 #[.int .i64 a0_0, .int .i64 ji27, .bool a1, .bool a2] (0, 0) _ rfl (by (with_reducible repeat (first | refine blk_drewN ?_ _ | refine blk_drew ?_ | refine blk_alloc ?_ _)); refine blk_put (cs := #[.int .i64 a0_0, .int .i64 ji27, .bool a1, .bool false]) ?_ 3 _ rfl; (with_reducible repeat (first | refine blk_drewN ?_ _ | refine blk_drew ?_ | refine blk_alloc ?_ _)); refine blk_put (cs := #[.int .i64 a0_0, .int .i64 ji27, .bool false, .bool false]) ?_ 2 _ rfl; (with_reducible repeat (first | refine blk_drewN ?_ _ | refine blk_drew ?_ | refine blk_alloc ?_ _)); refine blk_put (cs := #[.int .i64 a0_0, .int .i64 0, .bool false, .bool false]) ?_ 1 _ rfl; (with_reducible repeat (first | refine blk_drewN ?_ _ | refine blk_drew ?_ | refine blk_alloc ?_ _)); refine blk_put (cs := #[.int .i64 0, .int .i64 0, .bool false, .bool false]) ?_ 0 _ rfl; (with_reducible repeat (first | refine blk_drewN ?_ _ | refine blk_drew ?_ | refine blk_alloc ?_ _)); refine blk_far ?_ NB117_116.out _; (with_reducible repeat (first | refine blk_drewN ?_ _ | refine blk_drew ?_ | refine blk_alloc ?_ _)); refine blk_far ?_ NB117_116.out _; (with_reducible repeat (first | refine blk_drewN ?_ _ | refine blk_drew ?_ | refine blk_alloc ?_ _)); refine blk_far ?_ NB117_116.out _; (with_reducible repeat (first | refine blk_drewN ?_ _ | refine blk_drew ?_ | refine blk_alloc ?_ _)); exact BK117.out) Try.underlying40 rfl (by kernel_rfl)) rfl ?_
                    exact ⟨by first | rfl | (simp [errW_none, errW_some] <;> rfl) | (simp only [← hji27]; first | rfl | (simp [errW_none, errW_some] <;> rfl)) | (simp [*, errW_none, errW_some] <;> rfl), by repeat (first | (with_reducible first | exact HB.out | apply below_alloc | apply pw_below_drewN | apply below_drew1 | refine below_set ?_ GE116.out | refine below_set ?_ GE117.out) | exact HB.out)⟩
                  · replace c26 := Bool.eq_false_iff.mpr c26
                    subst c26
                    have H1 : (if x12_11 = true then (if x11_5 = true then (some (a0_0, a0_1, a1, a2)) else (some (a0_0, mx 0 (wrap64 (a0_1 - 1)), a1, a2))) else (some (a0_0, a0_1, a1, a2))) = some (r1, r2, r3, r4) := by rw [if_neg (show ¬ (false = true) by decide)] at H; exact H
                    clear H
                    have H := H1
                    clear H1
                    by_cases c31 : x12_11 = true
                    · subst c31
                      have H1 : (if x11_5 = true then (some (a0_0, a0_1, a1, a2)) else (some (a0_0, mx 0 (wrap64 (a0_1 - 1)), a1, a2))) = some (r1, r2, r3, r4) := by rw [if_pos rfl] at H; exact H
                      clear H
                      have H := H1
                      clear H1
                      by_cases c32 : x11_5 = true
                      · subst c32
                        have H1 : (some (a0_0, a0_1, a1, a2)) = some (r1, r2, r3, r4) := by rw [if_pos rfl] at H; exact H
                        clear H
                        have H := H1
                        clear H1
                        simp only [Option.some.injEq, Prod.mk.injEq] at H
                        obtain ⟨rfl, rfl, rfl, rfl⟩ := H
                        have hnb33 := NB116_117.out
                        have hnc33 := NB117_116.out
                        have hcz34_0 : wc.cell? ⟨gb116, 0, none⟩ = some (.int .i64 a0_0) := (blk_cell BK116.out 0).trans rfl
                        have hcz34_1 : wc.cell? ⟨gb116, 1, none⟩ = some (.int .i64 a0_1) := (blk_cell BK116.out 1).trans rfl
                        have hcz34_2 : wc.cell? ⟨gb116, 2, none⟩ = some (.bool a0_2) := (blk_cell BK116.out 2).trans rfl
                        have hcz34_3 : wc.cell? ⟨gb116, 3, none⟩ = some (.bool a0_3) := (blk_cell BK116.out 3).trans rfl
                        have hfz34_0 := blk_frozen BK116.out 0
                        have hfz34_1 := blk_frozen BK116.out 1
                        have hfz34_2 := blk_frozen BK116.out 2
                        have hfz34_3 := blk_frozen BK116.out 3
                        have hcz35_0 : wc.cell? ⟨gb117, 0, none⟩ = some (.int .i64 0) := (blk_cell BK117.out 0).trans rfl
                        have hcz35_1 : wc.cell? ⟨gb117, 1, none⟩ = some (.int .i64 0) := (blk_cell BK117.out 1).trans rfl
                        have hcz35_2 : wc.cell? ⟨gb117, 2, none⟩ = some (.bool false) := (blk_cell BK117.out 2).trans rfl
                        have hcz35_3 : wc.cell? ⟨gb117, 3, none⟩ = some (.bool false) := (blk_cell BK117.out 3).trans rfl
                        have hfz35_0 := blk_frozen BK117.out 0
                        have hfz35_1 := blk_frozen BK117.out 1
                        have hfz35_2 := blk_frozen BK117.out 2
                        have hfz35_3 := blk_frozen BK117.out 3
                        go_wp2
                        refine bodyPost_ret (results_cell_row rfl _ _ gb117 40 #[.int .i64 a0_0, .int .i64 a0_1, .bool a1, .bool a2] (0, 0) _ rfl (by (with_reducible repeat (first | refine blk_drewN ?_ _ | refine blk_drew ?_ | refine blk_alloc ?_ _)); refine blk_put (cs := #[.int .i64 a0_0, .int .i64 a0_1, .bool a1, .bool false]) ?_ 3 _ rfl; (with_reducible repeat (first | refine blk_drewN ?_ _ | refine blk_drew ?_ | refine blk_alloc ?_ _)); refine blk_put (cs := #[.int .i64 a0_0, .int .i64 a0_1, .bool false, .bool false]) ?_ 2 _ rfl; (with_reducible repeat (first | refine blk_drewN ?_ _ | refine blk_drew ?_ | refine blk_alloc ?_ _)); refine blk_put (cs := #[.int .i64 a0_0, .int .i64 0, .bool false, .bool false]) ?_ 1 _ rfl; (with_reducible repeat (first | refine blk_drewN ?_ _ | refine blk_drew ?_ | refine blk_alloc ?_ _)); refine blk_put (cs := #[.int .i64 0, .int .i64 0, .bool false, .bool false]) ?_ 0 _ rfl; (with_reducible repeat (first | refine blk_drewN ?_ _ | refine blk_drew ?_ | refine blk_alloc ?_ _)); refine blk_far ?_ NB117_116.out _; (with_reducible repeat (first | refine blk_drewN ?_ _ | refine blk_drew ?_ | refine blk_alloc ?_ _)); refine blk_far ?_ NB117_116.out _; (with_reducible repeat (first | refine blk_drewN ?_ _ | refine blk_drew ?_ | refine blk_alloc ?_ _)); exact BK117.out) Try.underlying40 rfl (by kernel_rfl)) rfl ?_
                        exact ⟨by first | rfl | (simp [errW_none, errW_some] <;> rfl) | (simp [*, errW_none, errW_some] <;> rfl), by repeat (first | (with_reducible first | exact HB.out | apply below_alloc | apply pw_below_drewN | apply below_drew1 | refine below_set ?_ GE116.out | refine below_set ?_ GE117.out) | exact HB.out)⟩
                      · replace c32 := Bool.eq_false_iff.mpr c32
                        subst c32
                        have H1 : (some (a0_0, mx 0 (wrap64 (a0_1 - 1)), a1, a2)) = some (r1, r2, r3, r4) := by rw [if_neg (show ¬ (false = true) by decide)] at H; exact H
                        clear H
                        have H := H1
                        clear H1
                        obtain ⟨ji36, hji36⟩ : ∃ j_ : Int, (mx 0 (wrap64 (a0_1 - 1))) = j_ := ⟨_, rfl⟩
                        replace H : (some (a0_0, ji36, a1, a2)) = some (r1, r2, r3, r4) := by first | (rw [hji36] at H; exact H) | (simp only [hji36] at H ⊢; exact H)
                        have hji36_ : (if 0 < (wrap64 (a0_1 - 1)) then (wrap64 (a0_1 - 1)) else 0) = ji36 := hji36
                        simp only [Option.some.injEq, Prod.mk.injEq] at H
                        obtain ⟨rfl, rfl, rfl, rfl⟩ := H
                        have hnb37 := NB116_117.out
                        have hnc37 := NB117_116.out
                        have hcz38_0 : wc.cell? ⟨gb116, 0, none⟩ = some (.int .i64 a0_0) := (blk_cell BK116.out 0).trans rfl
                        have hcz38_1 : wc.cell? ⟨gb116, 1, none⟩ = some (.int .i64 a0_1) := (blk_cell BK116.out 1).trans rfl
                        have hcz38_2 : wc.cell? ⟨gb116, 2, none⟩ = some (.bool a0_2) := (blk_cell BK116.out 2).trans rfl
                        have hcz38_3 : wc.cell? ⟨gb116, 3, none⟩ = some (.bool a0_3) := (blk_cell BK116.out 3).trans rfl
                        have hfz38_0 := blk_frozen BK116.out 0
                        have hfz38_1 := blk_frozen BK116.out 1
                        have hfz38_2 := blk_frozen BK116.out 2
                        have hfz38_3 := blk_frozen BK116.out 3
                        have hcz39_0 : wc.cell? ⟨gb117, 0, none⟩ = some (.int .i64 0) := (blk_cell BK117.out 0).trans rfl
                        have hcz39_1 : wc.cell? ⟨gb117, 1, none⟩ = some (.int .i64 0) := (blk_cell BK117.out 1).trans rfl
                        have hcz39_2 : wc.cell? ⟨gb117, 2, none⟩ = some (.bool false) := (blk_cell BK117.out 2).trans rfl
                        have hcz39_3 : wc.cell? ⟨gb117, 3, none⟩ = some (.bool false) := (blk_cell BK117.out 3).trans rfl
                        have hfz39_0 := blk_frozen BK117.out 0
                        have hfz39_1 := blk_frozen BK117.out 1
                        have hfz39_2 := blk_frozen BK117.out 2
                        have hfz39_3 := blk_frozen BK117.out 3
                        go_wp2
                        refine bodyPost_ret (results_cell_row rfl _ _ gb117 40 #[.int .i64 a0_0, .int .i64 ji36, .bool a1, .bool a2] (0, 0) _ rfl (by (with_reducible repeat (first | refine blk_drewN ?_ _ | refine blk_drew ?_ | refine blk_alloc ?_ _)); refine blk_put (cs := #[.int .i64 a0_0, .int .i64 ji36, .bool a1, .bool false]) ?_ 3 _ rfl; (with_reducible repeat (first | refine blk_drewN ?_ _ | refine blk_drew ?_ | refine blk_alloc ?_ _)); refine blk_put (cs := #[.int .i64 a0_0, .int .i64 ji36, .bool false, .bool false]) ?_ 2 _ rfl; (with_reducible repeat (first | refine blk_drewN ?_ _ | refine blk_drew ?_ | refine blk_alloc ?_ _)); refine blk_put (cs := #[.int .i64 a0_0, .int .i64 0, .bool false, .bool false]) ?_ 1 _ rfl; (with_reducible repeat (first | refine blk_drewN ?_ _ | refine blk_drew ?_ | refine blk_alloc ?_ _)); refine blk_put (cs := #[.int .i64 0, .int .i64 0, .bool false, .bool false]) ?_ 0 _ rfl; (with_reducible repeat (first | refine blk_drewN ?_ _ | refine blk_drew ?_ | refine blk_alloc ?_ _)); refine blk_far ?_ NB117_116.out _; (with_reducible repeat (first | refine blk_drewN ?_ _ | refine blk_drew ?_ | refine blk_alloc ?_ _)); refine blk_far ?_ NB117_116.out _; (with_reducible repeat (first | refine blk_drewN ?_ _ | refine blk_drew ?_ | refine blk_alloc ?_ _)); refine blk_far ?_ NB117_116.out _; (with_reducible repeat (first | refine blk_drewN ?_ _ | refine blk_drew ?_ | refine blk_alloc ?_ _)); exact BK117.out) Try.underlying40 rfl (by kernel_rfl)) rfl ?_
                        exact ⟨by first | rfl | (simp [errW_none, errW_some] <;> rfl) | (simp only [← hji36]; first | rfl | (simp [errW_none, errW_some] <;> rfl)) | (simp [*, errW_none, errW_some] <;> rfl), by repeat (first | (with_reducible first | exact HB.out | apply below_alloc | apply pw_below_drewN | apply below_drew1 | refine below_set ?_ GE116.out | refine below_set ?_ GE117.out) | exact HB.out)⟩
                    · replace c31 := Bool.eq_false_iff.mpr c31
                      subst c31
                      have H1 : (some (a0_0, a0_1, a1, a2)) = some (r1, r2, r3, r4) := by rw [if_neg (show ¬ (false = true) by decide)] at H; exact H
                      clear H
                      have H := H1
                      clear H1
                      simp only [Option.some.injEq, Prod.mk.injEq] at H
                      obtain ⟨rfl, rfl, rfl, rfl⟩ := H
                      have hnb40 := NB116_117.out
                      have hnc40 := NB117_116.out
                      have hcz41_0 : wc.cell? ⟨gb116, 0, none⟩ = some (.int .i64 a0_0) := (blk_cell BK116.out 0).trans rfl
                      have hcz41_1 : wc.cell? ⟨gb116, 1, none⟩ = some (.int .i64 a0_1) := (blk_cell BK116.out 1).trans rfl
                      have hcz41_2 : wc.cell? ⟨gb116, 2, none⟩ = some (.bool a0_2) := (blk_cell BK116.out 2).trans rfl
                      have hcz41_3 : wc.cell? ⟨gb116, 3, none⟩ = some (.bool a0_3) := (blk_cell BK116.out 3).trans rfl
                      have hfz41_0 := blk_frozen BK116.out 0
                      have hfz41_1 := blk_frozen BK116.out 1
                      have hfz41_2 := blk_frozen BK116.out 2
                      have hfz41_3 := blk_frozen BK116.out 3
                      have hcz42_0 : wc.cell? ⟨gb117, 0, none⟩ = some (.int .i64 0) := (blk_cell BK117.out 0).trans rfl
                      have hcz42_1 : wc.cell? ⟨gb117, 1, none⟩ = some (.int .i64 0) := (blk_cell BK117.out 1).trans rfl
                      have hcz42_2 : wc.cell? ⟨gb117, 2, none⟩ = some (.bool false) := (blk_cell BK117.out 2).trans rfl
                      have hcz42_3 : wc.cell? ⟨gb117, 3, none⟩ = some (.bool false) := (blk_cell BK117.out 3).trans rfl
                      have hfz42_0 := blk_frozen BK117.out 0
                      have hfz42_1 := blk_frozen BK117.out 1
                      have hfz42_2 := blk_frozen BK117.out 2
                      have hfz42_3 := blk_frozen BK117.out 3
                      go_wp2
                      refine bodyPost_ret (results_cell_row rfl _ _ gb117 40 #[.int .i64 a0_0, .int .i64 a0_1, .bool a1, .bool a2] (0, 0) _ rfl (by (with_reducible repeat (first | refine blk_drewN ?_ _ | refine blk_drew ?_ | refine blk_alloc ?_ _)); refine blk_put (cs := #[.int .i64 a0_0, .int .i64 a0_1, .bool a1, .bool false]) ?_ 3 _ rfl; (with_reducible repeat (first | refine blk_drewN ?_ _ | refine blk_drew ?_ | refine blk_alloc ?_ _)); refine blk_put (cs := #[.int .i64 a0_0, .int .i64 a0_1, .bool false, .bool false]) ?_ 2 _ rfl; (with_reducible repeat (first | refine blk_drewN ?_ _ | refine blk_drew ?_ | refine blk_alloc ?_ _)); refine blk_put (cs := #[.int .i64 a0_0, .int .i64 0, .bool false, .bool false]) ?_ 1 _ rfl; (with_reducible repeat (first | refine blk_drewN ?_ _ | refine blk_drew ?_ | refine blk_alloc ?_ _)); refine blk_put (cs := #[.int .i64 0, .int .i64 0, .bool false, .bool false]) ?_ 0 _ rfl; (with_reducible repeat (first | refine blk_drewN ?_ _ | refine blk_drew ?_ | refine blk_alloc ?_ _)); refine blk_far ?_ NB117_116.out _; (with_reducible repeat (first | refine blk_drewN ?_ _ | refine blk_drew ?_ | refine blk_alloc ?_ _)); refine blk_far ?_ NB117_116.out _; (with_reducible repeat (first | refine blk_drewN ?_ _ | refine blk_drew ?_ | refine blk_alloc ?_ _)); exact BK117.out) Try.underlying40 rfl (by kernel_rfl)) rfl ?_
                      exact ⟨by first | rfl | (simp [errW_none, errW_some] <;> rfl) | (simp [*, errW_none, errW_some] <;> rfl), by repeat (first | (with_reducible first | exact HB.out | apply below_alloc | apply pw_below_drewN | apply below_drew1 | refine below_set ?_ GE116.out | refine below_set ?_ GE117.out) | exact HB.out)⟩

end Go.Proofs.Ytflemeaaiokjmaa.PFnExactCountEdges

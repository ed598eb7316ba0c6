/- Functions of the program as Lean functions, with proofs that the machine comes to their answers; written by this session's program mkprint.py; no condition beyond each theorem's own. -/
import Derived.Test.YtpefkclpnkefnaaGFnExactRunDiagramx0
import Derived.Test.YtpefkclpnkefnaaGFnExactRunDiagramx1
import Derived.Test.YtpefkclpnkefnaaGFnExactRunDiagramx2
import Derived.Test.YtpefkclpnkefnaaGFnExactRunDiagramx7
import Derived.Test.YtpefkclpnkefnaaGFnExactRunDiagramx8
import Derived.Test.YtpefkclpnkefnaaGFnExactRunDiagramx9
namespace Go.Proofs.Ytpefkclpnkefnaa.GFnExactRunDiagram
open Go.RowKit Go.Proofs.YtpefkclpnkefnaaV.PrintWords Go.Proofs.YtpefkclpnkefnaaV.PrintLast Go.Proofs.YtpefkclpnkefnaaV.PrintMore
attribute [local go_sem] max2_int min2_int max_two min_two max_three min_three max_four min_four   -- for this text's walks alone
set_option linter.unusedVariables false
set_option linter.unusedSimpArgs false

/-! ### impl_RunDiagram: function 22 -/
mutual
def impl_RunDiagram.l0 : Nat → List (S52) → List (List Int) → List Int → List (S52) → Int → Int → Option (List Int)
  | 0, _, _, _, _, _, _ => none
  | k + 1, x0, x1, x5, x17, x18, x19 => if x19 < x18 then (if 0 ≤ x19 then (if x19 < (x17.length : Int) then (if ((rd_T52 x17 x19).f0) = 5 then (if x5.length < 17592186044416 then (impl_RunDiagram.l0 k x0 x1 (x5 ++ [0]) x17 x18 (wrap64 (x19 + 1))) else (none)) else (impl_RunDiagram.l0 k x0 x1 x5 x17 x18 (wrap64 (x19 + 1)))) else (none)) else (none)) else (impl_RunDiagram.l1 k x0 x1 x5 ([] : List Int) x1 (x1.length : Int) 0)
def impl_RunDiagram.l1 : Nat → List (S52) → List (List Int) → List Int → List Int → List (List Int) → Int → Int → Option (List Int)
  | 0, _, _, _, _, _, _, _ => none
  | k + 1, x0, x1, x5, x6, x30, x31, x32 => if x32 < x31 then (if 0 ≤ x32 then (if x32 < (x30.length : Int) then (if 0 < (x1.length : Int) then (if ((rd_L3 x30 x32).length : Int) = ((rd_L3 x1 0).length : Int) then ((impl_EvaluationOrder.f x0 ((rd_L3 x30 x32).length : Int)).bind fun bt289 => (if bt289.2 = true then ((impl_areWords.f (rd_L3 x30 x32)).bind fun t293 => (if t293 = true then ((impl_StepDiagram.f x0 x5 (rd_L3 x30 x32)).bind fun bt294 => (impl_RunDiagram.l1 k x0 x1 bt294.2 bt294.1 x30 x31 (wrap64 (x32 + 1)))) else (some ([] : List Int)))) else (some ([] : List Int)))) else (some ([] : List Int))) else (none)) else (none)) else (none)) else (some x6)
end
def impl_RunDiagram.f (k : Nat) (l0 : List (S52)) (l1 : List (List Int)) : Option (List Int) := (impl_in.f (l1.length : Int) 1 100).bind fun t281 => (if t281 = true then (impl_RunDiagram.l0 k l0 l1 ([] : List Int) l0 (l0.length : Int) 0) else (some ([] : List Int)))
theorem impl_RunDiagram.mono_l : ∀ k, (∀ y0 y1 y2 y3 y4 y5, LeO (impl_RunDiagram.l0 k y0 y1 y2 y3 y4 y5) (impl_RunDiagram.l0 (k + 1) y0 y1 y2 y3 y4 y5)) ∧ (∀ y0 y1 y2 y3 y4 y5 y6, LeO (impl_RunDiagram.l1 k y0 y1 y2 y3 y4 y5 y6) (impl_RunDiagram.l1 (k + 1) y0 y1 y2 y3 y4 y5 y6))
  | 0 => ⟨fun _ _ _ _ _ _ r h => by simp [impl_RunDiagram.l0] at h, fun _ _ _ _ _ _ _ r h => by simp [impl_RunDiagram.l1] at h⟩
  | k + 1 => by
    obtain ⟨ih0, ih1⟩ := impl_RunDiagram.mono_l k
    refine ⟨?_, ?_⟩
    · intro y0 y1 y2 y3 y4 y5
      unfold impl_RunDiagram.l0
      repeat' first
      | (with_reducible exact ih0 _ _ _ _ _ _)
      | (with_reducible exact ih1 _ _ _ _ _ _ _)
      | (with_reducible exact LeO.refl _)
      | (with_reducible exact LeO.none _)
      | (with_reducible refine LeO.ite ?_ ?_)
      | (with_reducible refine LeO.bind ?_ (fun _ => ?_))
      | exact ih0 _ _ _ _ _ _
      | exact ih1 _ _ _ _ _ _ _
      | exact LeO.none _
      | refine LeO.ite ?_ ?_
      | refine LeO.bind ?_ (fun _ => ?_)
    · intro y0 y1 y2 y3 y4 y5 y6
      unfold impl_RunDiagram.l1
      repeat' first
      | (with_reducible exact ih0 _ _ _ _ _ _)
      | (with_reducible exact ih1 _ _ _ _ _ _ _)
      | (with_reducible exact LeO.refl _)
      | (with_reducible exact LeO.none _)
      | (with_reducible refine LeO.ite ?_ ?_)
      | (with_reducible refine LeO.bind ?_ (fun _ => ?_))
      | exact ih0 _ _ _ _ _ _
      | exact ih1 _ _ _ _ _ _ _
      | exact LeO.none _
      | refine LeO.ite ?_ ?_
      | refine LeO.bind ?_ (fun _ => ?_)
theorem impl_RunDiagram.mono : ∀ a0 a1 k, LeO (impl_RunDiagram.f k a0 a1) (impl_RunDiagram.f (k + 1) a0 a1) := by
  intro a0 a1 k
  obtain ⟨ih0, ih1⟩ := impl_RunDiagram.mono_l k
  unfold impl_RunDiagram.f
  repeat' first
      | (with_reducible exact ih0 _ _ _ _ _ _)
      | (with_reducible exact ih1 _ _ _ _ _ _ _)
      | (with_reducible exact LeO.refl _)
      | (with_reducible exact LeO.none _)
      | (with_reducible refine LeO.ite ?_ ?_)
      | (with_reducible refine LeO.bind ?_ (fun _ => ?_))
      | exact ih0 _ _ _ _ _ _
      | exact ih1 _ _ _ _ _ _ _
      | exact LeO.none _
      | refine LeO.ite ?_ ?_
      | refine LeO.bind ?_ (fun _ => ?_)
set_option maxHeartbeats 8000000 in
set_option maxRecDepth 100000 in
theorem impl_RunDiagram.calls (k : Nat) (A0 : Option Addr) (c0 : Nat) (l0 : List (S52)) (A1 : Option Addr) (c1 : Nat) (l1 : List (List Int)) (r : List Int) (w : World) (hr0 : Kd.C k52 w A0 l0.length l0) (hc0 : l0.length ≤ c0) (hr1 : Kd.C (Kd.slice 3 (Kd.int .i64)) w A1 l1.length l1) (hc1 : l1.length ≤ c1) (h : impl_RunDiagram.f k l0 l1 = some r) :
    Calls Try.prog 22 #[.slice A0 l0.length c0, .slice A1 l1.length c1] w fun e w' => ∃ v0_ : Value, e = .returned (v0_) ∧ Kd.R (Kd.int .i64) 3 w' w.heap.size (fun _ => True) v0_ r ∧ Below w.heap.size w w' := by
  have hu52 := Try.underlying52
  have HR0 := Aside0.mk hr0
  have HC0 := Aside0.mk hc0
  clear hr0 hc0
  have HR1 := Aside0.mk hr1
  have HC1 := Aside0.mk hc1
  clear hr1 hc1
  have HB := Aside0.mk (Below.refl w.heap.size w)
  have H : ((impl_in.f (l1.length : Int) 1 100).bind fun t281 => (if t281 = true then (impl_RunDiagram.l0 k l0 l1 ([] : List Int) l0 (l0.length : Int) 0) else (some ([] : List Int)))) = some r := h
  clear h
  replace H := Option.bind_eq_some_iff.mp H
  obtain ⟨t281, A30, H⟩ := H
  replace H : (if t281 = true then (impl_RunDiagram.l0 k l0 l1 ([] : List Int) l0 (l0.length : Int) 0) else (some ([] : List Int))) = some r := H
  have A3 := Aside0.mk A30
  clear A30
  by_cases c4 : t281 = true
  · subst c4
    have H1 : (impl_RunDiagram.l0 k l0 l1 ([] : List Int) l0 (l0.length : Int) 0) = some r := by rw [if_pos rfl] at H; exact H
    clear H
    have H := H1
    clear H1
    have H' := Aside0.mk H
    clear H
    go_enter Try.func22, Try.ntmps22
    go_wp2_with (first | ((with_reducible refine gate_callee (f := 41) rfl ?_); refine goesL_ (some 15) rfl rfl Try.func41 (by kernel_rfl) rfl #[.int .i64 (l1.length : Int), .int .i64 1, .int .i64 100] rfl (by (try simp only [List.map_toArray, List.map_cons, List.map_nil]); first | done | rfl | (simp only [List.length_drop, List.length_take]; rfl)) ?_; (with_reducible refine (impl_in.calls (l1.length : Int) 1 100 true _ A3.out).mono ?_); rintro e w' ⟨rfl, ⟨nd, rfl⟩⟩; refine ⟨_, rfl, ?_⟩))
    go_loopg [5, 19] k (fun kq v5 v19 w' => ∃ (x5_1 : List Int) (x19_1 : Int), v19 = .int .i64 x19_1 ∧ Aside0 (impl_RunDiagram.l0 kq l0 l1 x5_1 l0 (l0.length : Int) x19_1 = some r) ∧ Aside0 (kq ≤ k) ∧ Aside0 (Kd.Q (Kd.int .i64) 3 w' w.heap.size (fun _ => True) v5 x5_1) ∧ Aside0 (Below w.heap.size w w'))
    case atStart => exact ⟨(([] : List Int)), (0), (by first | rfl | (simp; done) | (simp [*]; done)), H', ⟨Nat.le_refl _⟩, ⟨Kd.Q_of_R (by first | exact Kd.R_nil _ _ _ _ _ | exact Kd.N_nil _ _ _ _ _ | exact Kd.V_nil _ _ _ _ _ | exact Kd.Q_nil _ _ _ _ _ | exact Kd.S_nil _ _ _ _ _)⟩, ⟨by repeat (first | (with_reducible first | exact HB.out | apply below_alloc | apply pw_below_drewN | apply below_drew1) | exact HB.out)⟩⟩
    case round =>
      clear H'
      try clear c1
      try clear c2
      try clear p2
      try clear c4
      obtain ⟨x5_1, x19_1, rfl, HA, HK1, HO_5, HB⟩ := hrel
      cases gk with
      | zero => exact absurd HA.out (by simp [impl_RunDiagram.l0])
      | succ k1 =>
        have H := HA.out
        clear HA
        simp only [impl_RunDiagram.l0] at H
        by_cases c5 : x19_1 < (l0.length : Int)
        · rw [if_pos c5] at H
          have c5b0 : decide (x19_1 < (l0.length : Int)) = true := decide_eq_true c5
          clear c5
          by_cases c6 : 0 ≤ x19_1
          · rw [if_pos c6] at H
            have c6b0 : decide (0 ≤ x19_1) = true := decide_eq_true c6
            clear c6
            by_cases c7 : x19_1 < (l0.length : Int)
            · rw [if_pos c7] at H
              have c7b0 : decide (x19_1 < (l0.length : Int)) = true := decide_eq_true c7
              clear c7
              by_cases c8 : ((rd_T52 l0 x19_1).f0) = 5
              · rw [if_pos c8] at H
                have c8b0 : (((rd_T52 l0 x19_1).f0) == 5) = true := beq_iff_eq.mpr c8
                have c8b1 : (((rd_T52 l0 x19_1).f0) != 5) = false := bne_eq_false_iff_eq.mpr c8
                clear c8
                by_cases c9 : x5_1.length < 17592186044416
                · rw [if_pos c9] at H
                  have LMc9 := Aside0.mk c9
                  clear c9
                  obtain ⟨y284, hy284⟩ : ∃ y_ : List Int, y_ = (x5_1 ++ [0]) := ⟨_, rfl⟩
                  replace H : (impl_RunDiagram.l0 k1 l0 l1 y284 l0 (l0.length : Int) (wrap64 (x19_1 + 1))) = some r := by first | (rw [hy284]; with_reducible exact H) | (have H2_ := (Option.bind_some _ _).symm.trans H; rw [hy284]; with_reducible exact H2_) | (have H2_ := (Option.bind_some _ _).symm.trans H; with_reducible exact H2_) | with_reducible exact H | (rw [hy284]; exact H) | exact H
                  have Ny284 := Aside0.mk hy284
                  clear hy284
                  have H' := Aside0.mk H
                  clear H
                  have p282 : 0 ≤ (x19_1 : Int) := of_decide_eq_true (by first | (with_reducible assumption) | assumption)
                  have q282 : x19_1 < (l0.length : Int) := of_decide_eq_true (by first | (with_reducible assumption) | assumption)
                  obtain ⟨ad282, e282, hx282_0, hx282_1, hx282_2⟩ := at_T52 HR0.out x19_1 p282 q282
                  cases e282
                  replace hx282_0 := (HB.out.cell (World.block_lt_of_cell? w _ hx282_0)).trans hx282_0
                  replace hx282_1 := (HB.out.cell (World.block_lt_of_cell? w _ hx282_1)).trans hx282_1
                  replace hx282_2 := (HB.out.cell (World.block_lt_of_cell? w _ hx282_2)).trans hx282_2
                  replace p282 := eq_true p282
                  replace q282 := eq_true q282
                  go_wp2_with (first | ((with_reducible refine gate_dst (N := 8) rfl ?_); refine box_event ?hg (N := 8) ?hd (cs := #[.int .i64 0, .int .i64 0, .int .i64 0]) (t := 52) ?hr ?_; (case hd => rfl); (case hg => rfl); (case hr => first | (go_simp; done) | (go_simp; rfl)); intro gb283 hg w10 hbox hb; have n0_ := Aside0.mk (Kd.Q_below (by (with_reducible repeat (first | apply Kd.Q_alloc | apply Kd.Q_drewN | apply Kd.Q_drew)); exact HO_5.out) hb); have n1_ := Aside0.mk (below_step (by repeat (first | (with_reducible first | exact HB.out | apply below_alloc | apply pw_below_drewN | apply below_drew1) | exact HB.out)) hb); have n2_ := Aside0.mk (hbox); have n3_ := Aside0.mk ((by rw [hg]; exact (below_size (by repeat (first | (with_reducible first | exact HB.out | apply below_alloc | apply pw_below_drewN | apply below_drew1) | exact HB.out))) : w.heap.size ≤ gb283)); have n4_ := Aside0.mk ((by rw [hg]; exact (below_size (by repeat (first | (with_reducible first | exact HB.out | apply below_alloc | apply pw_below_drewN | apply below_drew1) | exact HB.out))) : w.heap.size ≤ gb283)); clear HO_5; clear HB; have HO_5 := n0_; have HB := n1_; have BK283 := n2_; have GW283 := n3_; have GE283 := n4_; clear n0_ n1_ n2_ n3_ n4_; clear hb hbox hg; have hcz11_0 : w10.cell? ⟨gb283, 0, none⟩ = some (.int .i64 0) := (blk_cell BK283.out 0).trans rfl; have hcz11_1 : w10.cell? ⟨gb283, 1, none⟩ = some (.int .i64 0) := (blk_cell BK283.out 1).trans rfl; have hcz11_2 : w10.cell? ⟨gb283, 2, none⟩ = some (.int .i64 0) := (blk_cell BK283.out 2).trans rfl; have hfz11_0 := blk_frozen BK283.out 0; have hfz11_1 := blk_frozen BK283.out 1; have hfz11_2 := blk_frozen BK283.out 2) | ((with_reducible refine gate_builtin (b := .append) (xs := #[.tmp 26, .tmp 27]) rfl ?_); at_builtin; refine Kd.Q_append (Kd.int .i64) (w0 := w) w.heap.size rfl (.tmp 26) (.tmp 27) 22 3 (.int .i64 0) 8 rfl Try.underlying22 info3 rfl (by decide) (by omega) u5 x5_1 0 [.int .i64 0] (fun _ => True) (fun _ => False) rfl (by first | (go_simp; done) | (go_simp; rfl)) ?aP (fun _ hk => hk.elim) ?aF ?aO ?aB ?aS ?aL ?_; (case aP => exact rfl); (case aB => exact (by repeat (first | (with_reducible first | exact HB.out | apply below_alloc | apply pw_below_drewN | apply below_drew1 | refine below_set ?_ GE283.out) | exact HB.out))); (case aF => exact (fun _ _ => trivial)); (case aO => exact (by (with_reducible repeat (first | apply Kd.Q_alloc | apply Kd.Q_drewN | apply Kd.Q_drew)); exact Kd.Q_mono (Kd.Q_far (p := ⟨gb283, 2, none⟩) (Kd.Q_far (p := ⟨gb283, 1, none⟩) (Kd.Q_far (p := ⟨gb283, 0, none⟩) (Kd.Q_types HO_5.out BK283.out (by decide)) (fun _ hk => hk.2) (.int .i64 ((rd_T52 l0 x19_1).f0))) (fun _ hk => hk.2) (.int .i64 ((rd_T52 l0 x19_1).f1))) (fun _ hk => hk.2) (.int .i64 ((rd_T52 l0 x19_1).f2))) (fun _ hk => trivial))); (case aS => exact (below_size (by repeat (first | (with_reducible first | exact HB.out | apply below_alloc | apply pw_below_drewN | apply below_drew1 | refine below_set ?_ GE283.out) | exact HB.out)))); (case aL => have := LMc9.out; omega); intro v285 w12 ho hb hg hat; rw [← Ny284.out] at ho; have n0_ := Aside0.mk (blk_grown (g := gb283) (o := .cells #[.int .i64 ((rd_T52 l0 x19_1).f0), .int .i64 ((rd_T52 l0 x19_1).f1), .int .i64 ((rd_T52 l0 x19_1).f2)] 52 (0, 0)) (by (with_reducible repeat (first | refine blk_drewN ?_ _ | refine blk_drew ?_ | refine blk_alloc ?_ _)); refine blk_put (cs := #[.int .i64 ((rd_T52 l0 x19_1).f0), .int .i64 ((rd_T52 l0 x19_1).f1), .int .i64 0]) ?_ 2 _ rfl; (with_reducible repeat (first | refine blk_drewN ?_ _ | refine blk_drew ?_ | refine blk_alloc ?_ _)); refine blk_put (cs := #[.int .i64 ((rd_T52 l0 x19_1).f0), .int .i64 0, .int .i64 0]) ?_ 1 _ rfl; (with_reducible repeat (first | refine blk_drewN ?_ _ | refine blk_drew ?_ | refine blk_alloc ?_ _)); refine blk_put (cs := #[.int .i64 0, .int .i64 0, .int .i64 0]) ?_ 0 _ rfl; (with_reducible repeat (first | refine blk_drewN ?_ _ | refine blk_drew ?_ | refine blk_alloc ?_ _)); exact BK283.out) hg (Kd.Q_ne HO_5.out BK283.out (by decide))); have n1_ := Aside0.mk (hb); have n2_ := Aside0.mk (ho); clear BK283; clear HB; clear HO_5; have BK283 := n0_; have HB := n1_; have HO286 := n2_; clear n0_ n1_ n2_; clear ho hb hg hat))
                  go_roundg k1
                  case measure => have := HK1.out; omega
                  case rel => exact ⟨(y284), (wrap64 (x19_1 + 1)), (by first | rfl | (simp; done) | (simp [*]; done)), H', ⟨by have := HK1.out; omega⟩, ⟨by (with_reducible repeat (first | apply Kd.Q_alloc | apply Kd.Q_drewN | apply Kd.Q_drew)); exact HO286.out⟩, ⟨by repeat (first | (with_reducible first | exact HB.out | apply below_alloc | apply pw_below_drewN | apply below_drew1 | refine below_set ?_ GE283.out) | exact HB.out)⟩⟩
                · rw [if_neg c9] at H
                  exact absurd H (by simp)
              · rw [if_neg c8] at H
                have c8b0 : (((rd_T52 l0 x19_1).f0) == 5) = false := beq_eq_false_iff_ne.mpr c8
                have c8b1 : (((rd_T52 l0 x19_1).f0) != 5) = true := bne_iff_ne.mpr c8
                have H' := Aside0.mk H
                clear H
                have p282 : 0 ≤ (x19_1 : Int) := of_decide_eq_true (by first | (with_reducible assumption) | assumption)
                have q282 : x19_1 < (l0.length : Int) := of_decide_eq_true (by first | (with_reducible assumption) | assumption)
                obtain ⟨ad282, e282, hx282_0, hx282_1, hx282_2⟩ := at_T52 HR0.out x19_1 p282 q282
                cases e282
                replace hx282_0 := (HB.out.cell (World.block_lt_of_cell? w _ hx282_0)).trans hx282_0
                replace hx282_1 := (HB.out.cell (World.block_lt_of_cell? w _ hx282_1)).trans hx282_1
                replace hx282_2 := (HB.out.cell (World.block_lt_of_cell? w _ hx282_2)).trans hx282_2
                replace p282 := eq_true p282
                replace q282 := eq_true q282
                go_wp2_with (first | ((with_reducible refine gate_dst (N := 8) rfl ?_); refine box_event ?hg (N := 8) ?hd (cs := #[.int .i64 0, .int .i64 0, .int .i64 0]) (t := 52) ?hr ?_; (case hd => rfl); (case hg => rfl); (case hr => first | (go_simp; done) | (go_simp; rfl)); intro gb283 hg w13 hbox hb; have n0_ := Aside0.mk (Kd.Q_below (by (with_reducible repeat (first | apply Kd.Q_alloc | apply Kd.Q_drewN | apply Kd.Q_drew)); exact HO_5.out) hb); have n1_ := Aside0.mk (below_step (by repeat (first | (with_reducible first | exact HB.out | apply below_alloc | apply pw_below_drewN | apply below_drew1) | exact HB.out)) hb); have n2_ := Aside0.mk (hbox); have n3_ := Aside0.mk ((by rw [hg]; exact (below_size (by repeat (first | (with_reducible first | exact HB.out | apply below_alloc | apply pw_below_drewN | apply below_drew1) | exact HB.out))) : w.heap.size ≤ gb283)); have n4_ := Aside0.mk ((by rw [hg]; exact (below_size (by repeat (first | (with_reducible first | exact HB.out | apply below_alloc | apply pw_below_drewN | apply below_drew1) | exact HB.out))) : w.heap.size ≤ gb283)); clear HO_5; clear HB; have HO_5 := n0_; have HB := n1_; have BK283 := n2_; have GW283 := n3_; have GE283 := n4_; clear n0_ n1_ n2_ n3_ n4_; clear hb hbox hg; have hcz14_0 : w13.cell? ⟨gb283, 0, none⟩ = some (.int .i64 0) := (blk_cell BK283.out 0).trans rfl; have hcz14_1 : w13.cell? ⟨gb283, 1, none⟩ = some (.int .i64 0) := (blk_cell BK283.out 1).trans rfl; have hcz14_2 : w13.cell? ⟨gb283, 2, none⟩ = some (.int .i64 0) := (blk_cell BK283.out 2).trans rfl; have hfz14_0 := blk_frozen BK283.out 0; have hfz14_1 := blk_frozen BK283.out 1; have hfz14_2 := blk_frozen BK283.out 2))
                go_roundg k1
                case measure => have := HK1.out; omega
                case rel => exact ⟨(x5_1), (wrap64 (x19_1 + 1)), (by first | rfl | (simp; done) | (simp [*]; done)), H', ⟨by have := HK1.out; omega⟩, ⟨by (with_reducible repeat (first | apply Kd.Q_alloc | apply Kd.Q_drewN | apply Kd.Q_drew)); exact Kd.Q_mono (Kd.Q_far (p := ⟨gb283, 2, none⟩) (Kd.Q_far (p := ⟨gb283, 1, none⟩) (Kd.Q_far (p := ⟨gb283, 0, none⟩) (Kd.Q_types HO_5.out BK283.out (by decide)) (fun _ hk => hk.2) (.int .i64 ((rd_T52 l0 x19_1).f0))) (fun _ hk => hk.2) (.int .i64 ((rd_T52 l0 x19_1).f1))) (fun _ hk => hk.2) (.int .i64 ((rd_T52 l0 x19_1).f2))) (fun _ hk => trivial)⟩, ⟨by repeat (first | (with_reducible first | exact HB.out | apply below_alloc | apply pw_below_drewN | apply below_drew1 | refine below_set ?_ GE283.out) | exact HB.out)⟩⟩
            · rw [if_neg c7] at H
              exact absurd H (by simp)
          · rw [if_neg c6] at H
            exact absurd H (by simp)
        · rw [if_neg c5] at H
          have c5b0 : decide (x19_1 < (l0.length : Int)) = false := decide_eq_false c5
          clear c5
          have H' := Aside0.mk H
          clear H
          go_wp2
          go_loopg [5, 6, 32] k1 (fun kq v5 v6 v32 w' => ∃ (x5_2 : List Int) (x6_2 : List Int) (x32_2 : Int), v32 = .int .i64 x32_2 ∧ Aside0 (impl_RunDiagram.l1 kq l0 l1 x5_2 x6_2 l1 (l1.length : Int) x32_2 = some r) ∧ Aside0 (kq ≤ k1) ∧ Aside0 (Kd.Q (Kd.int .i64) 3 w' w.heap.size (fun k_ => some k_ ≠ (v6 : Value).ownBlock) v5 x5_2) ∧ Aside0 (Kd.R (Kd.int .i64) 3 w' w.heap.size (fun k_ => some k_ ≠ (v5 : Value).ownBlock) v6 x6_2) ∧ Aside0 (Below w.heap.size w w'))
          case atStart => exact ⟨(x5_1), (([] : List Int)), (0), (by first | rfl | (simp; done) | (simp [*]; done)), H', ⟨Nat.le_refl _⟩, ⟨by (with_reducible repeat (first | apply Kd.Q_alloc | apply Kd.Q_drewN | apply Kd.Q_drew)); exact Kd.Q_mono HO_5.out (fun _ hk => (by simp [Value.ownBlock]))⟩, ⟨by first | exact Kd.R_nil _ _ _ _ _ | exact Kd.N_nil _ _ _ _ _ | exact Kd.V_nil _ _ _ _ _ | exact Kd.Q_nil _ _ _ _ _ | exact Kd.S_nil _ _ _ _ _⟩, ⟨by repeat (first | (with_reducible first | exact HB.out | apply below_alloc | apply pw_below_drewN | apply below_drew1) | exact HB.out)⟩⟩
          case round =>
            clear H'
            try clear c1
            try clear c2
            try clear p2
            try clear q2
            try clear hx2
            try clear c4
            try clear c5
            try clear c5b0
            try clear c6
            try clear c6b0
            try clear p6
            try clear c7
            try clear c7b0
            try clear c8
            try clear c8b0
            try clear c8b1
            try clear c9
            try clear hcz11_0
            try clear hcz11_1
            try clear hcz11_2
            try clear hcz14_0
            try clear hcz14_1
            try clear hcz14_2
            try clear hfz11_0
            try clear hfz11_1
            try clear hfz11_2
            try clear hfz14_0
            try clear hfz14_1
            try clear hfz14_2
            try clear hx282_0
            try clear hx282_1
            try clear hx282_2
            try clear p2
            try clear p282
            try clear q282
            obtain ⟨x5_2, x6_2, x32_2, rfl, HA, HK2, HO_5, HO_6, HB⟩ := hrel
            cases gk with
            | zero => exact absurd HA.out (by simp [impl_RunDiagram.l1])
            | succ k2 =>
              have H := HA.out
              clear HA
              simp only [impl_RunDiagram.l1] at H
              by_cases c15 : x32_2 < (l1.length : Int)
              · rw [if_pos c15] at H
                have c15b0 : decide (x32_2 < (l1.length : Int)) = true := decide_eq_true c15
                clear c15
                by_cases c16 : 0 ≤ x32_2
                · rw [if_pos c16] at H
                  have c16b0 : decide (0 ≤ x32_2) = true := decide_eq_true c16
                  clear c16
                  by_cases c17 : x32_2 < (l1.length : Int)
                  · rw [if_pos c17] at H
                    have c17b0 : decide (x32_2 < (l1.length : Int)) = true := decide_eq_true c17
                    clear c17
                    by_cases c18 : 0 < (l1.length : Int)
                    · rw [if_pos c18] at H
                      have c18b0 : decide (0 < (l1.length : Int)) = true := decide_eq_true c18
                      have c18b1 : decide (0 < l1.length) = true := decide_eq_true (by omega)
                      clear c18
                      by_cases c19 : ((rd_L3 l1 x32_2).length : Int) = ((rd_L3 l1 0).length : Int)
                      · rw [if_pos c19] at H
                        have c19b0 : (((rd_L3 l1 x32_2).length : Int) == ((rd_L3 l1 0).length : Int)) = true := beq_iff_eq.mpr c19
                        have c19b1 : (((rd_L3 l1 x32_2).length : Int) != ((rd_L3 l1 0).length : Int)) = false := bne_eq_false_iff_eq.mpr c19
                        have c19b2 : ((rd_L3 l1 x32_2).length == (rd_L3 l1 0).length) = true := by first | simpa using c19 | (simp at c19 ⊢; omega)
                        clear c19
                        replace H := Option.bind_eq_some_iff.mp H
                        obtain ⟨⟨t289, t290⟩, A200, H⟩ := H
                        replace H : (if t290 = true then ((impl_areWords.f (rd_L3 l1 x32_2)).bind fun t293 => (if t293 = true then ((impl_StepDiagram.f l0 x5_2 (rd_L3 l1 x32_2)).bind fun bt294 => (impl_RunDiagram.l1 k2 l0 l1 bt294.2 bt294.1 l1 (l1.length : Int) (wrap64 (x32_2 + 1)))) else (some ([] : List Int)))) else (some ([] : List Int))) = some r := H
                        have A20 := Aside0.mk A200
                        clear A200
                        by_cases c21 : t290 = true
                        · subst c21
                          have H1 : ((impl_areWords.f (rd_L3 l1 x32_2)).bind fun t293 => (if t293 = true then ((impl_StepDiagram.f l0 x5_2 (rd_L3 l1 x32_2)).bind fun bt294 => (impl_RunDiagram.l1 k2 l0 l1 bt294.2 bt294.1 l1 (l1.length : Int) (wrap64 (x32_2 + 1)))) else (some ([] : List Int)))) = some r := by rw [if_pos rfl] at H; exact H
                          clear H
                          have H := H1
                          clear H1
                          replace H := Option.bind_eq_some_iff.mp H
                          obtain ⟨t293, A220, H⟩ := H
                          replace H : (if t293 = true then ((impl_StepDiagram.f l0 x5_2 (rd_L3 l1 x32_2)).bind fun bt294 => (impl_RunDiagram.l1 k2 l0 l1 bt294.2 bt294.1 l1 (l1.length : Int) (wrap64 (x32_2 + 1)))) else (some ([] : List Int))) = some r := H
                          have A22 := Aside0.mk A220
                          clear A220
                          by_cases c23 : t293 = true
                          · subst c23
                            have H1 : ((impl_StepDiagram.f l0 x5_2 (rd_L3 l1 x32_2)).bind fun bt294 => (impl_RunDiagram.l1 k2 l0 l1 bt294.2 bt294.1 l1 (l1.length : Int) (wrap64 (x32_2 + 1)))) = some r := by rw [if_pos rfl] at H; exact H
                            clear H
                            have H := H1
                            clear H1
                            replace H := Option.bind_eq_some_iff.mp H
                            obtain ⟨⟨t294, t295⟩, A240, H⟩ := H
                            replace H : (impl_RunDiagram.l1 k2 l0 l1 t295 t294 l1 (l1.length : Int) (wrap64 (x32_2 + 1))) = some r := H
                            have A24 := Aside0.mk A240
                            clear A240
                            have H' := Aside0.mk H
                            clear H
                            have p287 : 0 ≤ (x32_2 : Int) := of_decide_eq_true (by first | (with_reducible assumption) | assumption)
                            have q287 : x32_2 < (l1.length : Int) := of_decide_eq_true (by first | (with_reducible assumption) | assumption)
                            obtain ⟨ad287, A287_0, c287_0, e287, hx287_0, hl287_0, hi287_0⟩ := at_L3 HR1.out x32_2 p287 q287
                            cases e287
                            replace hx287_0 := (HB.out.cell (World.block_lt_of_cell? w _ hx287_0)).trans hx287_0
                            have HR287_0 := Aside0.mk hi287_0
                            have HC287_0 := Aside0.mk hl287_0
                            clear hi287_0 hl287_0
                            replace p287 := eq_true p287
                            replace q287 := eq_true q287
                            have p288 : 0 ≤ (0 : Int) := (by omega)
                            have q288 : 0 < (l1.length : Int) := of_decide_eq_true (by first | (with_reducible assumption) | assumption)
                            obtain ⟨ad288, A288_0, c288_0, e288, hx288_0, hl288_0, hi288_0⟩ := at_L3 HR1.out 0 p288 q288
                            obtain rfl : ad287 = ad288 := (by injection e288)
                            have qi288 : (0 < l1.length) = True := eq_true (by omega)
                            (try rw [show ((0 : Int)).toNat = 0 from rfl] at hx288_0)
                            (try rw [Addr.add_zero'] at hx288_0)
                            replace hx288_0 := (HB.out.cell (World.block_lt_of_cell? w _ hx288_0)).trans hx288_0
                            have HR288_0 := Aside0.mk hi288_0
                            have HC288_0 := Aside0.mk hl288_0
                            clear hi288_0 hl288_0
                            replace p288 := eq_true p288
                            replace q288 := eq_true q288
                            go_wp2_with (first | ((with_reducible refine gate_callee (f := 26) rfl ?_); refine goesL_ (some 47) rfl rfl Try.func26 (by kernel_rfl) rfl #[.slice A0 l0.length c0, .int .i64 ((rd_L3 l1 x32_2).length : Int)] rfl (by (try simp only [List.map_toArray, List.map_cons, List.map_nil]); first | done | rfl | (simp only [List.length_drop, List.length_take]; rfl)) ?_; (with_reducible refine (impl_EvaluationOrder.calls _ _ l0 ((rd_L3 l1 x32_2).length : Int) t289 true _ ?side1 ?side2 A20.out).mono ?_); (case side1 => repeat (first | exact (Kd.C_below HR0.out HB.out) | (with_reducible refine Kd.C_alloc ?_ _) | (with_reducible refine Kd.C_drewN ?_ _) | (with_reducible refine Kd.C_drew ?_))); (case side2 => exact HC0.out); rintro e w25 ⟨v291, rfl, ho0, hb⟩; refine ⟨_, rfl, ?_⟩; have n0_ := Aside0.mk (Kd.Q_elder' (by (with_reducible repeat (first | apply Kd.Q_alloc | apply Kd.Q_drewN | apply Kd.Q_drew)); exact HO_5.out) (Kd.Q_base ho0) hb); have n1_ := Aside0.mk (Kd.R_elder' (by (with_reducible repeat (first | apply Kd.R_alloc | apply Kd.R_drewN | apply Kd.R_drew)); exact HO_6.out) (Kd.Q_base ho0) hb); have n2_ := Aside0.mk (Kd.Q_lower (Kd.Q_new' (Kd.Q_new' ho0 (Kd.Q_lt (by (with_reducible repeat (first | apply Kd.Q_alloc | apply Kd.Q_drewN | apply Kd.Q_drew)); exact HO_5.out))) (Kd.R_lt (by (with_reducible repeat (first | apply Kd.R_alloc | apply Kd.R_drewN | apply Kd.R_drew)); exact HO_6.out))) (below_size (by repeat (first | (with_reducible first | exact HB.out | apply below_alloc | apply pw_below_drewN | apply below_drew1) | exact HB.out)))); have n3_ := Aside0.mk (below_step (by repeat (first | (with_reducible first | exact HB.out | apply below_alloc | apply pw_below_drewN | apply below_drew1) | exact HB.out)) hb); clear HO_5; clear HO_6; clear HB; have HO_5 := n0_; have HO_6 := n1_; have HO292 := n2_; have HB := n3_; clear n0_ n1_ n2_ n3_; (try clear hb); (try clear hb2); (try clear hk); (try clear hi); (try clear ho0)) | (go_at_call 28; (with_reducible refine (impl_areWords.calls _ _ (rd_L3 l1 x32_2) true _ ?side1 ?side2 A22.out).mono ?_); (case side1 => repeat (first | exact (Kd.C_below HR287_0.out HB.out) | (with_reducible refine Kd.C_alloc ?_ _) | (with_reducible refine Kd.C_drewN ?_ _) | (with_reducible refine Kd.C_drew ?_))); (case side2 => exact HC287_0.out); rintro e w' ⟨rfl, ⟨nd, rfl⟩⟩; obtain ⟨Ao26, co26, eo26, _⟩ := Kd.Q_slice HO_5.out; subst eo26) | ((with_reducible refine gate_callee (f := 14) rfl ?_); refine goesL_ (some 61) rfl rfl Try.func14 (by kernel_rfl) rfl #[.slice A0 l0.length c0, .slice Ao26 x5_2.length co26, .slice A287_0 (rd_L3 l1 x32_2).length c287_0] rfl (by (try simp only [List.map_toArray, List.map_cons, List.map_nil]); first | done | rfl | (simp only [List.length_drop, List.length_take]; rfl)) ?_; (with_reducible refine (impl_StepDiagram.calls _ _ l0 _ _ x5_2 _ _ (rd_L3 l1 x32_2) t294 t295 _ ?side1 ?side2 ?side3 ?side4 ?side5 ?side6 A24.out).mono ?_); (case side1 => repeat (first | exact (Kd.C_below HR0.out (by repeat (first | (with_reducible first | exact HB.out | apply below_alloc | apply pw_below_drewN | apply below_drew1) | exact HB.out))) | (with_reducible refine Kd.C_alloc ?_ _) | (with_reducible refine Kd.C_drewN ?_ _) | (with_reducible refine Kd.C_drew ?_))); (case side2 => exact HC0.out); (case side3 => repeat (first | exact (Kd.Q_reads' HO_5.out).2.2 | (with_reducible refine Kd.C_alloc ?_ _) | (with_reducible refine Kd.C_drewN ?_ _) | (with_reducible refine Kd.C_drew ?_))); (case side4 => exact (Kd.Q_reads' HO_5.out).2.1); (case side5 => repeat (first | exact (Kd.C_below HR287_0.out (by repeat (first | (with_reducible first | exact HB.out | apply below_alloc | apply pw_below_drewN | apply below_drew1) | exact HB.out))) | (with_reducible refine Kd.C_alloc ?_ _) | (with_reducible refine Kd.C_drewN ?_ _) | (with_reducible refine Kd.C_drew ?_))); (case side6 => exact HC287_0.out); rintro e w27 ⟨v296, v298, rfl, ho0, ho1, hb⟩; refine ⟨_, rfl, ?_⟩; have n0_ := Aside0.mk (Kd.Q_mono (Kd.Q_told (Kd.Q_told (Kd.Q_old (by (with_reducible repeat (first | apply Kd.Q_alloc | apply Kd.Q_drewN | apply Kd.Q_drew)); exact HO_5.out) hb) (Kd.R_base ho0)) (Kd.Q_base ho1)) (fun _ h_ => h_.1)); have n1_ := Aside0.mk (Kd.R_mono (Kd.R_told (Kd.R_told (Kd.R_old (by (with_reducible repeat (first | apply Kd.R_alloc | apply Kd.R_drewN | apply Kd.R_drew)); exact HO_6.out) hb) (Kd.R_base ho0)) (Kd.Q_base ho1)) (fun _ h_ => h_.1)); have n2_ := Aside0.mk (Kd.Q_mono (Kd.Q_told (Kd.Q_told (Kd.Q_old (by (with_reducible repeat (first | apply Kd.Q_alloc | apply Kd.Q_drewN | apply Kd.Q_drew)); exact HO292.out) hb) (Kd.R_base ho0)) (Kd.Q_base ho1)) (fun _ h_ => h_.1)); have n3_ := Aside0.mk (Kd.R_lower (Kd.R_new' (Kd.R_new' (Kd.R_new' ho0 (Kd.Q_lt (by (with_reducible repeat (first | apply Kd.Q_alloc | apply Kd.Q_drewN | apply Kd.Q_drew)); exact HO_5.out))) (Kd.R_lt (by (with_reducible repeat (first | apply Kd.R_alloc | apply Kd.R_drewN | apply Kd.R_drew)); exact HO_6.out))) (Kd.Q_lt (by (with_reducible repeat (first | apply Kd.Q_alloc | apply Kd.Q_drewN | apply Kd.Q_drew)); exact HO292.out))) (below_size (by repeat (first | (with_reducible first | exact HB.out | apply below_alloc | apply pw_below_drewN | apply below_drew1) | exact HB.out)))); have n4_ := Aside0.mk (Kd.Q_lower (Kd.Q_new' (Kd.Q_new' (Kd.Q_new' ho1 (Kd.Q_lt (by (with_reducible repeat (first | apply Kd.Q_alloc | apply Kd.Q_drewN | apply Kd.Q_drew)); exact HO_5.out))) (Kd.R_lt (by (with_reducible repeat (first | apply Kd.R_alloc | apply Kd.R_drewN | apply Kd.R_drew)); exact HO_6.out))) (Kd.Q_lt (by (with_reducible repeat (first | apply Kd.Q_alloc | apply Kd.Q_drewN | apply Kd.Q_drew)); exact HO292.out))) (below_size (by repeat (first | (with_reducible first | exact HB.out | apply below_alloc | apply pw_below_drewN | apply below_drew1) | exact HB.out)))); have n5_ := Aside0.mk (below_step (by repeat (first | (with_reducible first | exact HB.out | apply below_alloc | apply pw_below_drewN | apply below_drew1) | exact HB.out)) hb); clear HO_5; clear HO_6; clear HO292; clear HB; have HO_5 := n0_; have HO_6 := n1_; have HO292 := n2_; have HO297 := n3_; have HO299 := n4_; have HB := n5_; clear n0_ n1_ n2_ n3_ n4_ n5_; (try clear hb); (try clear hb2); (try clear hk); (try clear hi); (try clear ho0); (try clear ho1)))
                            go_roundg k2
                            case measure => have := HK1.out; have := HK2.out; omega
                            case rel => exact ⟨(t295), (t294), (wrap64 (x32_2 + 1)), (by first | rfl | (simp; done) | (simp [*]; done)), H', ⟨by have := HK1.out; have := HK2.out; omega⟩, ⟨by (with_reducible repeat (first | apply Kd.Q_alloc | apply Kd.Q_drewN | apply Kd.Q_drew)); exact Kd.Q_mono HO299.out (fun _ hk => hk.1.1.1)⟩, ⟨by (with_reducible repeat (first | apply Kd.R_alloc | apply Kd.R_drewN | apply Kd.R_drew)); exact Kd.R_mono HO297.out (fun _ hk => hk.1.1.1)⟩, ⟨by repeat (first | (with_reducible first | exact HB.out | apply below_alloc | apply pw_below_drewN | apply below_drew1) | exact HB.out)⟩⟩
                          · replace c23 := Bool.eq_false_iff.mpr c23
                            subst c23
                            have H1 : (some ([] : List Int)) = some r := by rw [if_neg (show ¬ (false = true) by decide)] at H; exact H
                            clear H
                            have H := H1
                            clear H1
                            obtain rfl := Option.some.inj H
                            have p287 : 0 ≤ (x32_2 : Int) := of_decide_eq_true (by first | (with_reducible assumption) | assumption)
                            have q287 : x32_2 < (l1.length : Int) := of_decide_eq_true (by first | (with_reducible assumption) | assumption)
                            obtain ⟨ad287, A287_0, c287_0, e287, hx287_0, hl287_0, hi287_0⟩ := at_L3 HR1.out x32_2 p287 q287
                            cases e287
                            replace hx287_0 := (HB.out.cell (World.block_lt_of_cell? w _ hx287_0)).trans hx287_0
                            have HR287_0 := Aside0.mk hi287_0
                            have HC287_0 := Aside0.mk hl287_0
                            clear hi287_0 hl287_0
                            replace p287 := eq_true p287
                            replace q287 := eq_true q287
                            have p288 : 0 ≤ (0 : Int) := (by omega)
                            have q288 : 0 < (l1.length : Int) := of_decide_eq_true (by first | (with_reducible assumption) | assumption)
                            obtain ⟨ad288, A288_0, c288_0, e288, hx288_0, hl288_0, hi288_0⟩ := at_L3 HR1.out 0 p288 q288
                            obtain rfl : ad287 = ad288 := (by injection e288)
                            have qi288 : (0 < l1.length) = True := eq_true (by omega)
                            (try rw [show ((0 : Int)).toNat = 0 from rfl] at hx288_0)
                            (try rw [Addr.add_zero'] at hx288_0)
                            replace hx288_0 := (HB.out.cell (World.block_lt_of_cell? w _ hx288_0)).trans hx288_0
                            have HR288_0 := Aside0.mk hi288_0
                            have HC288_0 := Aside0.mk hl288_0
                            clear hi288_0 hl288_0
                            replace p288 := eq_true p288
                            replace q288 := eq_true q288
                            go_wp2_with (first | ((with_reducible refine gate_callee (f := 26) rfl ?_); refine goesL_ (some 47) rfl rfl Try.func26 (by kernel_rfl) rfl #[.slice A0 l0.length c0, .int .i64 ((rd_L3 l1 x32_2).length : Int)] rfl (by (try simp only [List.map_toArray, List.map_cons, List.map_nil]); first | done | rfl | (simp only [List.length_drop, List.length_take]; rfl)) ?_; (with_reducible refine (impl_EvaluationOrder.calls _ _ l0 ((rd_L3 l1 x32_2).length : Int) t289 true _ ?side1 ?side2 A20.out).mono ?_); (case side1 => repeat (first | exact (Kd.C_below HR0.out HB.out) | (with_reducible refine Kd.C_alloc ?_ _) | (with_reducible refine Kd.C_drewN ?_ _) | (with_reducible refine Kd.C_drew ?_))); (case side2 => exact HC0.out); rintro e w28 ⟨v291, rfl, ho0, hb⟩; refine ⟨_, rfl, ?_⟩; have n0_ := Aside0.mk (Kd.Q_elder' (by (with_reducible repeat (first | apply Kd.Q_alloc | apply Kd.Q_drewN | apply Kd.Q_drew)); exact HO_5.out) (Kd.Q_base ho0) hb); have n1_ := Aside0.mk (Kd.R_elder' (by (with_reducible repeat (first | apply Kd.R_alloc | apply Kd.R_drewN | apply Kd.R_drew)); exact HO_6.out) (Kd.Q_base ho0) hb); have n2_ := Aside0.mk (Kd.Q_lower (Kd.Q_new' (Kd.Q_new' ho0 (Kd.Q_lt (by (with_reducible repeat (first | apply Kd.Q_alloc | apply Kd.Q_drewN | apply Kd.Q_drew)); exact HO_5.out))) (Kd.R_lt (by (with_reducible repeat (first | apply Kd.R_alloc | apply Kd.R_drewN | apply Kd.R_drew)); exact HO_6.out))) (below_size (by repeat (first | (with_reducible first | exact HB.out | apply below_alloc | apply pw_below_drewN | apply below_drew1) | exact HB.out)))); have n3_ := Aside0.mk (below_step (by repeat (first | (with_reducible first | exact HB.out | apply below_alloc | apply pw_below_drewN | apply below_drew1) | exact HB.out)) hb); clear HO_5; clear HO_6; clear HB; have HO_5 := n0_; have HO_6 := n1_; have HO292 := n2_; have HB := n3_; clear n0_ n1_ n2_ n3_; (try clear hb); (try clear hb2); (try clear hk); (try clear hi); (try clear ho0)) | (go_at_call 28; (with_reducible refine (impl_areWords.calls _ _ (rd_L3 l1 x32_2) false _ ?side1 ?side2 A22.out).mono ?_); (case side1 => repeat (first | exact (Kd.C_below HR287_0.out HB.out) | (with_reducible refine Kd.C_alloc ?_ _) | (with_reducible refine Kd.C_drewN ?_ _) | (with_reducible refine Kd.C_drew ?_))); (case side2 => exact HC287_0.out); rintro e w' ⟨rfl, ⟨nd, rfl⟩⟩))
                            go_ret
                            exact ⟨_, by first | rfl | (simp [errW_none, errW_some] <;> rfl) | (simp [*, errW_none, errW_some] <;> rfl), by first | exact Kd.R_nil _ _ _ _ _ | exact Kd.N_nil _ _ _ _ _ | exact Kd.V_nil _ _ _ _ _ | exact Kd.Q_nil _ _ _ _ _ | exact Kd.S_nil _ _ _ _ _, by repeat (first | (with_reducible first | exact HB.out | apply below_alloc | apply pw_below_drewN | apply below_drew1) | exact HB.out)⟩
                        · replace c21 := Bool.eq_false_iff.mpr c21
                          subst c21
                          have H1 : (some ([] : List Int)) = some r := by rw [if_neg (show ¬ (false = true) by decide)] at H; exact H
                          clear H
                          have H := H1
                          clear H1
                          obtain rfl := Option.some.inj H
                          have p287 : 0 ≤ (x32_2 : Int) := of_decide_eq_true (by first | (with_reducible assumption) | assumption)
                          have q287 : x32_2 < (l1.length : Int) := of_decide_eq_true (by first | (with_reducible assumption) | assumption)
                          obtain ⟨ad287, A287_0, c287_0, e287, hx287_0, hl287_0, hi287_0⟩ := at_L3 HR1.out x32_2 p287 q287
                          cases e287
                          replace hx287_0 := (HB.out.cell (World.block_lt_of_cell? w _ hx287_0)).trans hx287_0
                          have HR287_0 := Aside0.mk hi287_0
                          have HC287_0 := Aside0.mk hl287_0
                          clear hi287_0 hl287_0
                          replace p287 := eq_true p287
                          replace q287 := eq_true q287
                          have p288 : 0 ≤ (0 : Int) := (by omega)
                          have q288 : 0 < (l1.length : Int) := of_decide_eq_true (by first | (with_reducible assumption) | assumption)
                          obtain ⟨ad288, A288_0, c288_0, e288, hx288_0, hl288_0, hi288_0⟩ := at_L3 HR1.out 0 p288 q288
                          obtain rfl : ad287 = ad288 := (by injection e288)
                          have qi288 : (0 < l1.length) = True := eq_true (by omega)
                          (try rw [show ((0 : Int)).toNat = 0 from rfl] at hx288_0)
                          (try rw [Addr.add_zero'] at hx288_0)
                          replace hx288_0 := (HB.out.cell (World.block_lt_of_cell? w _ hx288_0)).trans hx288_0
                          have HR288_0 := Aside0.mk hi288_0
                          have HC288_0 := Aside0.mk hl288_0
                          clear hi288_0 hl288_0
                          replace p288 := eq_true p288
                          replace q288 := eq_true q288
                          go_wp2_with (first | ((with_reducible refine gate_callee (f := 26) rfl ?_); refine goesL_ (some 47) rfl rfl Try.func26 (by kernel_rfl) rfl #[.slice A0 l0.length c0, .int .i64 ((rd_L3 l1 x32_2).length : Int)] rfl (by (try simp only [List.map_toArray, List.map_cons, List.map_nil]); first | done | rfl | (simp only [List.length_drop, List.length_take]; rfl)) ?_; (with_reducible refine (impl_EvaluationOrder.calls _ _ l0 ((rd_L3 l1 x32_2).length : Int) t289 false _ ?side1 ?side2 A20.out).mono ?_); (case side1 => repeat (first | exact (Kd.C_below HR0.out HB.out) | (with_reducible refine Kd.C_alloc ?_ _) | (with_reducible refine Kd.C_drewN ?_ _) | (with_reducible refine Kd.C_drew ?_))); (case side2 => exact HC0.out); rintro e w29 ⟨v291, rfl, ho0, hb⟩; refine ⟨_, rfl, ?_⟩; have n0_ := Aside0.mk (Kd.Q_elder' (by (with_reducible repeat (first | apply Kd.Q_alloc | apply Kd.Q_drewN | apply Kd.Q_drew)); exact HO_5.out) (Kd.Q_base ho0) hb); have n1_ := Aside0.mk (Kd.R_elder' (by (with_reducible repeat (first | apply Kd.R_alloc | apply Kd.R_drewN | apply Kd.R_drew)); exact HO_6.out) (Kd.Q_base ho0) hb); have n2_ := Aside0.mk (Kd.Q_lower (Kd.Q_new' (Kd.Q_new' ho0 (Kd.Q_lt (by (with_reducible repeat (first | apply Kd.Q_alloc | apply Kd.Q_drewN | apply Kd.Q_drew)); exact HO_5.out))) (Kd.R_lt (by (with_reducible repeat (first | apply Kd.R_alloc | apply Kd.R_drewN | apply Kd.R_drew)); exact HO_6.out))) (below_size (by repeat (first | (with_reducible first | exact HB.out | apply below_alloc | apply pw_below_drewN | apply below_drew1) | exact HB.out)))); have n3_ := Aside0.mk (below_step (by repeat (first | (with_reducible first | exact HB.out | apply below_alloc | apply pw_below_drewN | apply below_drew1) | exact HB.out)) hb); clear HO_5; clear HO_6; clear HB; have HO_5 := n0_; have HO_6 := n1_; have HO292 := n2_; have HB := n3_; clear n0_ n1_ n2_ n3_; (try clear hb); (try clear hb2); (try clear hk); (try clear hi); (try clear ho0)))
                          go_ret
                          exact ⟨_, by first | rfl | (simp [errW_none, errW_some] <;> rfl) | (simp [*, errW_none, errW_some] <;> rfl), by first | exact Kd.R_nil _ _ _ _ _ | exact Kd.N_nil _ _ _ _ _ | exact Kd.V_nil _ _ _ _ _ | exact Kd.Q_nil _ _ _ _ _ | exact Kd.S_nil _ _ _ _ _, by repeat (first | (with_reducible first | exact HB.out | apply below_alloc | apply pw_below_drewN | apply below_drew1) | exact HB.out)⟩
                      · rw [if_neg c19] at H
                        have c19b0 : (((rd_L3 l1 x32_2).length : Int) == ((rd_L3 l1 0).length : Int)) = false := beq_eq_false_iff_ne.mpr c19
                        have c19b1 : (((rd_L3 l1 x32_2).length : Int) != ((rd_L3 l1 0).length : Int)) = true := bne_iff_ne.mpr c19
                        have c19b2 : ((rd_L3 l1 x32_2).length == (rd_L3 l1 0).length) = false := by first | simpa using c19 | (simp at c19 ⊢; omega)
                        obtain rfl := Option.some.inj H
                        have p287 : 0 ≤ (x32_2 : Int) := of_decide_eq_true (by first | (with_reducible assumption) | assumption)
                        have q287 : x32_2 < (l1.length : Int) := of_decide_eq_true (by first | (with_reducible assumption) | assumption)
                        obtain ⟨ad287, A287_0, c287_0, e287, hx287_0, hl287_0, hi287_0⟩ := at_L3 HR1.out x32_2 p287 q287
                        cases e287
                        replace hx287_0 := (HB.out.cell (World.block_lt_of_cell? w _ hx287_0)).trans hx287_0
                        have HR287_0 := Aside0.mk hi287_0
                        have HC287_0 := Aside0.mk hl287_0
                        clear hi287_0 hl287_0
                        replace p287 := eq_true p287
                        replace q287 := eq_true q287
                        have p288 : 0 ≤ (0 : Int) := (by omega)
                        have q288 : 0 < (l1.length : Int) := of_decide_eq_true (by first | (with_reducible assumption) | assumption)
                        obtain ⟨ad288, A288_0, c288_0, e288, hx288_0, hl288_0, hi288_0⟩ := at_L3 HR1.out 0 p288 q288
                        obtain rfl : ad287 = ad288 := (by injection e288)
                        have qi288 : (0 < l1.length) = True := eq_true (by omega)
                        (try rw [show ((0 : Int)).toNat = 0 from rfl] at hx288_0)
                        (try rw [Addr.add_zero'] at hx288_0)
                        replace hx288_0 := (HB.out.cell (World.block_lt_of_cell? w _ hx288_0)).trans hx288_0
                        have HR288_0 := Aside0.mk hi288_0
                        have HC288_0 := Aside0.mk hl288_0
                        clear hi288_0 hl288_0
                        replace p288 := eq_true p288
                        replace q288 := eq_true q288
                        go_wp2
                        go_ret
                        exact ⟨_, by first | rfl | (simp [errW_none, errW_some] <;> rfl) | (simp [*, errW_none, errW_some] <;> rfl), by first | exact Kd.R_nil _ _ _ _ _ | exact Kd.N_nil _ _ _ _ _ | exact Kd.V_nil _ _ _ _ _ | exact Kd.Q_nil _ _ _ _ _ | exact Kd.S_nil _ _ _ _ _, by repeat (first | (with_reducible first | exact HB.out | apply below_alloc | apply pw_below_drewN | apply below_drew1) | exact HB.out)⟩
                    · rw [if_neg c18] at H
                      exact absurd H (by simp)
                  · rw [if_neg c17] at H
                    exact absurd H (by simp)
                · rw [if_neg c16] at H
                  exact absurd H (by simp)
              · rw [if_neg c15] at H
                have c15b0 : decide (x32_2 < (l1.length : Int)) = false := decide_eq_false c15
                clear c15
                obtain rfl := Option.some.inj H
                go_wp2
                go_ret
                exact ⟨_, by first | rfl | (simp [errW_none, errW_some] <;> rfl) | (simp [*, errW_none, errW_some] <;> rfl), by (with_reducible repeat (first | apply Kd.R_alloc | apply Kd.R_drewN | apply Kd.R_drew)); exact Kd.R_mono HO_6.out (fun _ hk => trivial), by repeat (first | (with_reducible first | exact HB.out | apply below_alloc | apply pw_below_drewN | apply below_drew1) | exact HB.out)⟩
  · replace c4 := Bool.eq_false_iff.mpr c4
    subst c4
    have H1 : (some ([] : List Int)) = some r := by rw [if_neg (show ¬ (false = true) by decide)] at H; exact H
    clear H
    have H := H1
    clear H1
    obtain rfl := Option.some.inj H
    go_enter Try.func22, Try.ntmps22
    go_wp2_with (first | ((with_reducible refine gate_callee (f := 41) rfl ?_); refine goesL_ (some 15) rfl rfl Try.func41 (by kernel_rfl) rfl #[.int .i64 (l1.length : Int), .int .i64 1, .int .i64 100] rfl (by (try simp only [List.map_toArray, List.map_cons, List.map_nil]); first | done | rfl | (simp only [List.length_drop, List.length_take]; rfl)) ?_; (with_reducible refine (impl_in.calls (l1.length : Int) 1 100 false _ A3.out).mono ?_); rintro e w' ⟨rfl, ⟨nd, rfl⟩⟩; refine ⟨_, rfl, ?_⟩))
    go_ret
    exact ⟨_, by first | rfl | (simp [errW_none, errW_some] <;> rfl) | (simp [*, errW_none, errW_some] <;> rfl), by first | exact Kd.R_nil _ _ _ _ _ | exact Kd.N_nil _ _ _ _ _ | exact Kd.V_nil _ _ _ _ _ | exact Kd.Q_nil _ _ _ _ _ | exact Kd.S_nil _ _ _ _ _, by repeat (first | (with_reducible first | exact HB.out | apply below_alloc | apply pw_below_drewN | apply below_drew1) | exact HB.out)⟩

/-! ### laws_eqIntSS: function 23 -/
def laws_eqIntSS.l0 : Nat → List (List Int) → List (List Int) → Int → Option (Bool)
  | 0, _, _, _ => none
  | k + 1, x0, x1, x5 => if x5 < (x0.length : Int) then (if 0 ≤ x5 then (if x5 < (x1.length : Int) then ((laws_eqIntS.f k (rd_L3 x0 x5) (rd_L3 x1 x5)).bind fun t302 => (if t302 = true then (laws_eqIntSS.l0 k x0 x1 (wrap64 (x5 + 1))) else (some false))) else (none)) else (none)) else (some true)
def laws_eqIntSS.f (k : Nat) (l0 : List (List Int)) (l1 : List (List Int)) : Option (Bool) := if (l0.length : Int) = (l1.length : Int) then (laws_eqIntSS.l0 k l0 l1 0) else (some false)
theorem laws_eqIntSS.mono_l : ∀ k, (∀ y0 y1 y2, LeO (laws_eqIntSS.l0 k y0 y1 y2) (laws_eqIntSS.l0 (k + 1) y0 y1 y2))
  | 0 => fun _ _ _ r h => by simp [laws_eqIntSS.l0] at h
  | k + 1 => by
    have ih0 := laws_eqIntSS.mono_l k
    · intro y0 y1 y2
      unfold laws_eqIntSS.l0
      repeat' first
      | (with_reducible exact ih0 _ _ _)
      | (with_reducible exact laws_eqIntS.mono _ _ _)
      | (with_reducible exact LeO.refl _)
      | (with_reducible exact LeO.none _)
      | (with_reducible refine LeO.ite ?_ ?_)
      | (with_reducible refine LeO.bind ?_ (fun _ => ?_))
      | exact ih0 _ _ _
      | exact laws_eqIntS.mono _ _ _
      | exact LeO.none _
      | refine LeO.ite ?_ ?_
      | refine LeO.bind ?_ (fun _ => ?_)
theorem laws_eqIntSS.mono : ∀ a0 a1 k, LeO (laws_eqIntSS.f k a0 a1) (laws_eqIntSS.f (k + 1) a0 a1) := by
  intro a0 a1 k
  have ih0 := laws_eqIntSS.mono_l k
  unfold laws_eqIntSS.f
  repeat' first
      | (with_reducible exact ih0 _ _ _)
      | (with_reducible exact laws_eqIntS.mono _ _ _)
      | (with_reducible exact LeO.refl _)
      | (with_reducible exact LeO.none _)
      | (with_reducible refine LeO.ite ?_ ?_)
      | (with_reducible refine LeO.bind ?_ (fun _ => ?_))
      | exact ih0 _ _ _
      | exact laws_eqIntS.mono _ _ _
      | exact LeO.none _
      | refine LeO.ite ?_ ?_
      | refine LeO.bind ?_ (fun _ => ?_)
set_option maxHeartbeats 8000000 in
set_option maxRecDepth 100000 in
theorem laws_eqIntSS.calls (k : Nat) (A0 : Option Addr) (c0 : Nat) (l0 : List (List Int)) (A1 : Option Addr) (c1 : Nat) (l1 : List (List Int)) (r : Bool) (w : World) (hr0 : Kd.C (Kd.slice 3 (Kd.int .i64)) w A0 l0.length l0) (hc0 : l0.length ≤ c0) (hr1 : Kd.C (Kd.slice 3 (Kd.int .i64)) w A1 l1.length l1) (hc1 : l1.length ≤ c1) (h : laws_eqIntSS.f k l0 l1 = some r) :
    Calls Try.prog 23 #[.slice A0 l0.length c0, .slice A1 l1.length c1] w fun e w' => e = .returned (.bool r) ∧ Drawn0 w w' := by
  have HR0 := Aside0.mk hr0
  have HC0 := Aside0.mk hc0
  clear hr0 hc0
  have HR1 := Aside0.mk hr1
  have HC1 := Aside0.mk hc1
  clear hr1 hc1
  have H : (if (l0.length : Int) = (l1.length : Int) then (laws_eqIntSS.l0 k l0 l1 0) else (some false)) = some r := h
  clear h
  by_cases c3 : (l0.length : Int) = (l1.length : Int)
  · rw [if_pos c3] at H
    have c3b0 : ((l0.length : Int) == (l1.length : Int)) = true := beq_iff_eq.mpr c3
    have c3b1 : ((l0.length : Int) != (l1.length : Int)) = false := bne_eq_false_iff_eq.mpr c3
    have c3b2 : (l0.length == l1.length) = true := by first | simpa using c3 | (simp at c3 ⊢; omega)
    clear c3
    have H' := Aside0.mk H
    clear H
    go_enter Try.func23, Try.ntmps23
    go_wp2
    repeat (go_quiet (fail); try go_wp2)
    go_loopg [5] k (fun kq v5 w' => ∃ (x5_1 : Int), v5 = .int .i64 x5_1 ∧ Aside0 (laws_eqIntSS.l0 kq l0 l1 x5_1 = some r) ∧ Aside0 (kq ≤ k) ∧ Drawn0 w w')
    case atStart => exact ⟨(0), (by first | rfl | (simp; done) | (simp [*]; done)), H', ⟨Nat.le_refl _⟩, by repeat (first | exact Drawn0.refl _ | apply Drawn0.step)⟩
    case round =>
      clear H'
      try clear c1
      try clear c2
      try clear p2
      try clear c3
      try clear c3b0
      try clear c3b1
      try clear c3b2
      obtain ⟨x5_1, rfl, HA, HK1, ⟨m1, rfl⟩⟩ := hrel
      cases gk with
      | zero => exact absurd HA.out (by simp [laws_eqIntSS.l0])
      | succ k1 =>
        have H := HA.out
        clear HA
        simp only [laws_eqIntSS.l0] at H
        by_cases c4 : x5_1 < (l0.length : Int)
        · rw [if_pos c4] at H
          have c4b0 : decide (x5_1 < (l0.length : Int)) = true := decide_eq_true c4
          clear c4
          by_cases c5 : 0 ≤ x5_1
          · rw [if_pos c5] at H
            have c5b0 : decide (0 ≤ x5_1) = true := decide_eq_true c5
            clear c5
            by_cases c6 : x5_1 < (l1.length : Int)
            · rw [if_pos c6] at H
              have c6b0 : decide (x5_1 < (l1.length : Int)) = true := decide_eq_true c6
              clear c6
              replace H := Option.bind_eq_some_iff.mp H
              obtain ⟨t302, A70, H⟩ := H
              replace H : (if t302 = true then (laws_eqIntSS.l0 k1 l0 l1 (wrap64 (x5_1 + 1))) else (some false)) = some r := H
              have A7 := Aside0.mk A70
              clear A70
              by_cases c8 : t302 = true
              · subst c8
                have H1 : (laws_eqIntSS.l0 k1 l0 l1 (wrap64 (x5_1 + 1))) = some r := by rw [if_pos rfl] at H; exact H
                clear H
                have H := H1
                clear H1
                have H' := Aside0.mk H
                clear H
                have p300 : 0 ≤ (x5_1 : Int) := of_decide_eq_true (by first | (with_reducible assumption) | assumption)
                have q300 : x5_1 < (l0.length : Int) := of_decide_eq_true (by first | (with_reducible assumption) | assumption)
                obtain ⟨ad300, A300_0, c300_0, e300, hx300_0, hl300_0, hi300_0⟩ := at_L3 HR0.out x5_1 p300 q300
                cases e300
                have HR300_0 := Aside0.mk hi300_0
                have HC300_0 := Aside0.mk hl300_0
                clear hi300_0 hl300_0
                replace p300 := eq_true p300
                replace q300 := eq_true q300
                have p301 : 0 ≤ (x5_1 : Int) := of_decide_eq_true (by first | (with_reducible assumption) | assumption)
                have q301 : x5_1 < (l1.length : Int) := of_decide_eq_true (by first | (with_reducible assumption) | assumption)
                obtain ⟨ad301, A301_0, c301_0, e301, hx301_0, hl301_0, hi301_0⟩ := at_L3 HR1.out x5_1 p301 q301
                cases e301
                have HR301_0 := Aside0.mk hi301_0
                have HC301_0 := Aside0.mk hl301_0
                clear hi301_0 hl301_0
                replace p301 := eq_true p301
                replace q301 := eq_true q301
                go_wp2_with (first | (go_at_call 10; (with_reducible refine (laws_eqIntS.calls k1 _ _ (rd_L3 l0 x5_1) _ _ (rd_L3 l1 x5_1) true _ ?side1 ?side2 ?side3 ?side4 A7.out).mono ?_); (case side1 => repeat (first | exact HR300_0.out | (with_reducible refine Kd.C_alloc ?_ _) | (with_reducible refine Kd.C_drewN ?_ _) | (with_reducible refine Kd.C_drew ?_))); (case side2 => exact HC300_0.out); (case side3 => repeat (first | exact HR301_0.out | (with_reducible refine Kd.C_alloc ?_ _) | (with_reducible refine Kd.C_drewN ?_ _) | (with_reducible refine Kd.C_drew ?_))); (case side4 => exact HC301_0.out); rintro e w' ⟨rfl, ⟨nd, rfl⟩⟩; (try first | exact ⟨rfl, _, World.drewN_drewN _ _ _⟩ | exact ⟨rfl, _, Eq.trans (World.drewN_drewN _ _ _) (congrArg (World.drewN _) (Nat.add_assoc _ _ _))⟩)))
                repeat (go_quiet (first | (go_at_call 10; (with_reducible refine (laws_eqIntS.calls k1 _ _ (rd_L3 l0 x5_1) _ _ (rd_L3 l1 x5_1) true _ ?side1 ?side2 ?side3 ?side4 A7.out).mono ?_); (case side1 => repeat (first | exact HR300_0.out | (with_reducible refine Kd.C_alloc ?_ _) | (with_reducible refine Kd.C_drewN ?_ _) | (with_reducible refine Kd.C_drew ?_))); (case side2 => exact HC300_0.out); (case side3 => repeat (first | exact HR301_0.out | (with_reducible refine Kd.C_alloc ?_ _) | (with_reducible refine Kd.C_drewN ?_ _) | (with_reducible refine Kd.C_drew ?_))); (case side4 => exact HC301_0.out); rintro e w' ⟨rfl, ⟨nd, rfl⟩⟩; (try first | exact ⟨rfl, _, World.drewN_drewN _ _ _⟩ | exact ⟨rfl, _, Eq.trans (World.drewN_drewN _ _ _) (congrArg (World.drewN _) (Nat.add_assoc _ _ _))⟩))); try go_wp2_with (first | (go_at_call 10; (with_reducible refine (laws_eqIntS.calls k1 _ _ (rd_L3 l0 x5_1) _ _ (rd_L3 l1 x5_1) true _ ?side1 ?side2 ?side3 ?side4 A7.out).mono ?_); (case side1 => repeat (first | exact HR300_0.out | (with_reducible refine Kd.C_alloc ?_ _) | (with_reducible refine Kd.C_drewN ?_ _) | (with_reducible refine Kd.C_drew ?_))); (case side2 => exact HC300_0.out); (case side3 => repeat (first | exact HR301_0.out | (with_reducible refine Kd.C_alloc ?_ _) | (with_reducible refine Kd.C_drewN ?_ _) | (with_reducible refine Kd.C_drew ?_))); (case side4 => exact HC301_0.out); rintro e w' ⟨rfl, ⟨nd, rfl⟩⟩; (try first | exact ⟨rfl, _, World.drewN_drewN _ _ _⟩ | exact ⟨rfl, _, Eq.trans (World.drewN_drewN _ _ _) (congrArg (World.drewN _) (Nat.add_assoc _ _ _))⟩))))
                go_roundg k1
                case measure => have := HK1.out; omega
                case rel => exact ⟨(wrap64 (x5_1 + 1)), (by first | rfl | (simp; done) | (simp [*]; done)), H', ⟨by have := HK1.out; omega⟩, by repeat (first | exact Drawn0.refl _ | apply Drawn0.step)⟩
              · replace c8 := Bool.eq_false_iff.mpr c8
                subst c8
                have H1 : (some false) = some r := by rw [if_neg (show ¬ (false = true) by decide)] at H; exact H
                clear H
                have H := H1
                clear H1
                obtain rfl := Option.some.inj H
                have p300 : 0 ≤ (x5_1 : Int) := of_decide_eq_true (by first | (with_reducible assumption) | assumption)
                have q300 : x5_1 < (l0.length : Int) := of_decide_eq_true (by first | (with_reducible assumption) | assumption)
                obtain ⟨ad300, A300_0, c300_0, e300, hx300_0, hl300_0, hi300_0⟩ := at_L3 HR0.out x5_1 p300 q300
                cases e300
                have HR300_0 := Aside0.mk hi300_0
                have HC300_0 := Aside0.mk hl300_0
                clear hi300_0 hl300_0
                replace p300 := eq_true p300
                replace q300 := eq_true q300
                have p301 : 0 ≤ (x5_1 : Int) := of_decide_eq_true (by first | (with_reducible assumption) | assumption)
                have q301 : x5_1 < (l1.length : Int) := of_decide_eq_true (by first | (with_reducible assumption) | assumption)
                obtain ⟨ad301, A301_0, c301_0, e301, hx301_0, hl301_0, hi301_0⟩ := at_L3 HR1.out x5_1 p301 q301
                cases e301
                have HR301_0 := Aside0.mk hi301_0
                have HC301_0 := Aside0.mk hl301_0
                clear hi301_0 hl301_0
                replace p301 := eq_true p301
                replace q301 := eq_true q301
                go_wp2_with (first | (go_at_call 10; (with_reducible refine (laws_eqIntS.calls k1 _ _ (rd_L3 l0 x5_1) _ _ (rd_L3 l1 x5_1) false _ ?side1 ?side2 ?side3 ?side4 A7.out).mono ?_); (case side1 => repeat (first | exact HR300_0.out | (with_reducible refine Kd.C_alloc ?_ _) | (with_reducible refine Kd.C_drewN ?_ _) | (with_reducible refine Kd.C_drew ?_))); (case side2 => exact HC300_0.out); (case side3 => repeat (first | exact HR301_0.out | (with_reducible refine Kd.C_alloc ?_ _) | (with_reducible refine Kd.C_drewN ?_ _) | (with_reducible refine Kd.C_drew ?_))); (case side4 => exact HC301_0.out); rintro e w' ⟨rfl, ⟨nd, rfl⟩⟩; (try first | exact ⟨rfl, _, World.drewN_drewN _ _ _⟩ | exact ⟨rfl, _, Eq.trans (World.drewN_drewN _ _ _) (congrArg (World.drewN _) (Nat.add_assoc _ _ _))⟩)))
                repeat (go_quiet (first | (go_at_call 10; (with_reducible refine (laws_eqIntS.calls k1 _ _ (rd_L3 l0 x5_1) _ _ (rd_L3 l1 x5_1) false _ ?side1 ?side2 ?side3 ?side4 A7.out).mono ?_); (case side1 => repeat (first | exact HR300_0.out | (with_reducible refine Kd.C_alloc ?_ _) | (with_reducible refine Kd.C_drewN ?_ _) | (with_reducible refine Kd.C_drew ?_))); (case side2 => exact HC300_0.out); (case side3 => repeat (first | exact HR301_0.out | (with_reducible refine Kd.C_alloc ?_ _) | (with_reducible refine Kd.C_drewN ?_ _) | (with_reducible refine Kd.C_drew ?_))); (case side4 => exact HC301_0.out); rintro e w' ⟨rfl, ⟨nd, rfl⟩⟩; (try first | exact ⟨rfl, _, World.drewN_drewN _ _ _⟩ | exact ⟨rfl, _, Eq.trans (World.drewN_drewN _ _ _) (congrArg (World.drewN _) (Nat.add_assoc _ _ _))⟩))); try go_wp2_with (first | (go_at_call 10; (with_reducible refine (laws_eqIntS.calls k1 _ _ (rd_L3 l0 x5_1) _ _ (rd_L3 l1 x5_1) false _ ?side1 ?side2 ?side3 ?side4 A7.out).mono ?_); (case side1 => repeat (first | exact HR300_0.out | (with_reducible refine Kd.C_alloc ?_ _) | (with_reducible refine Kd.C_drewN ?_ _) | (with_reducible refine Kd.C_drew ?_))); (case side2 => exact HC300_0.out); (case side3 => repeat (first | exact HR301_0.out | (with_reducible refine Kd.C_alloc ?_ _) | (with_reducible refine Kd.C_drewN ?_ _) | (with_reducible refine Kd.C_drew ?_))); (case side4 => exact HC301_0.out); rintro e w' ⟨rfl, ⟨nd, rfl⟩⟩; (try first | exact ⟨rfl, _, World.drewN_drewN _ _ _⟩ | exact ⟨rfl, _, Eq.trans (World.drewN_drewN _ _ _) (congrArg (World.drewN _) (Nat.add_assoc _ _ _))⟩))))
                go_ret
                exact ⟨by first | rfl | (simp; done) | (simp [*]; done), by repeat (first | exact Drawn0.refl _ | apply Drawn0.step)⟩
            · rw [if_neg c6] at H
              exact absurd H (by simp)
          · rw [if_neg c5] at H
            exact absurd H (by simp)
        · rw [if_neg c4] at H
          have c4b0 : decide (x5_1 < (l0.length : Int)) = false := decide_eq_false c4
          clear c4
          obtain rfl := Option.some.inj H
          go_wp2
          repeat (go_quiet (fail); try go_wp2)
          go_ret
          exact ⟨by first | rfl | (simp; done) | (simp [*]; done), by repeat (first | exact Drawn0.refl _ | apply Drawn0.step)⟩
  · rw [if_neg c3] at H
    have c3b0 : ((l0.length : Int) == (l1.length : Int)) = false := beq_eq_false_iff_ne.mpr c3
    have c3b1 : ((l0.length : Int) != (l1.length : Int)) = true := bne_iff_ne.mpr c3
    have c3b2 : (l0.length == l1.length) = false := by first | simpa using c3 | (simp at c3 ⊢; omega)
    obtain rfl := Option.some.inj H
    go_enter Try.func23, Try.ntmps23
    go_wp2
    repeat (go_quiet (fail); try go_wp2)
    go_ret
    exact ⟨by first | rfl | (simp; done) | (simp [*]; done), by repeat (first | exact Drawn0.refl _ | apply Drawn0.step)⟩

/-! ### laws_markIntSS: function 24 -/
/-- A block of rows or of numbers. -/
def laws_markIntSS.In (W : World) (k : Nat) : Prop := ∃ (q : Nat) (cs : Array Value), (q = 22 ∨ q = 3) ∧ W.heap[k]? = some (.cells cs q (0, 0))
theorem laws_markIntSS.apartR {α : Type} {d : Kd α} {e base : Nat} {W : World} {ok : Nat → Prop} {u : Value} {xs : List α} (h : d.R e W base ok u xs) (ht : ∀ q, q ∈ e :: d.E → q ≠ 22 ∧ q ≠ 3) : d.R e W base (fun k => ok k ∧ ¬ laws_markIntSS.In W k) u xs := by
  refine Kd.R_mono (Kd.R_bound h) (fun k hk => ⟨hk.1, fun hi => ?_⟩)
  obtain ⟨q, hq, cells, hc⟩ := hk.2.2.2
  obtain ⟨q', cs', hq', hc'⟩ := hi
  rw [hc] at hc'
  cases hc'
  have := ht q hq
  omega
theorem laws_markIntSS.apartQ {α : Type} {d : Kd α} {e base : Nat} {W : World} {ok : Nat → Prop} {u : Value} {xs : List α} (h : d.Q e W base ok u xs) (ht : ∀ q, q ∈ e :: d.E → q ≠ 22 ∧ q ≠ 3) : d.Q e W base (fun k => ok k ∧ ¬ laws_markIntSS.In W k) u xs := by
  refine Kd.Q_mono (Kd.Q_bound h) (fun k hk => ⟨hk.1, fun hi => ?_⟩)
  obtain ⟨q, hq, cells, hc⟩ := hk.2.2.2
  obtain ⟨q', cs', hq', hc'⟩ := hi
  rw [hc] at hc'
  cases hc'
  have := ht q hq
  omega
/-- A flat row has one block alone. -/
theorem laws_markIntSS.apartE {e base : Nat} {W : World} {ok : Nat → Prop} {u : Value} {xs : List Int} (h : Kd.R (Kd.int .i64) e W base ok u xs) : Kd.R (Kd.int .i64) e W base (fun k => ok k ∧ some k = u.ownBlock) u xs :=
  Kd.R_mono (Kd.R_tight rfl h) (fun k hk => ⟨h.1 k hk.symm, hk⟩)
def laws_markIntSS.go (k : Nat) : List (List Int) → Int → Option Int
  | [], a => some a
  | x :: r, a => (laws_markIntS.f k x a).bind fun p => laws_markIntSS.go k r p.1
def laws_markIntSS.f (k : Nat) (l0 : List (List Int)) (a1 : Int) : Option Int := if l0.length ≤ 1000000000 then laws_markIntSS.go k l0 a1 else none
theorem laws_markIntSS.mono_g (k : Nat) : ∀ (l : List (List Int)) (a : Int), LeO (laws_markIntSS.go k l a) (laws_markIntSS.go (k + 1) l a)
  | [], _ => LeO.refl _
  | x :: r, a => by
    unfold laws_markIntSS.go
    exact LeO.bind (laws_markIntS.mono _ _ _) (fun _ => laws_markIntSS.mono_g k r _)
theorem laws_markIntSS.mono : ∀ a0 a1 k, LeO (laws_markIntSS.f k a0 a1) (laws_markIntSS.f (k + 1) a0 a1) := fun a0 a1 k => LeO.ite (laws_markIntSS.mono_g k a0 a1) (LeO.refl _)
/-- What an element of the row is, ahead of the marks: its inner row, apart from the others'. -/
theorem laws_markIntSS.elems {w : World} {base g n c : Nat} {ok : Nat → Prop} {l : List (List Int)} (h : Kd.S (Kd.slice 3 (Kd.int .i64)) 22 w base ok (.slice (some ⟨g, 0, none⟩) n c) l) :
    ∃ f : Nat → Nat, ∀ (j : Nat) (hj : j < l.length), ∃ v0 : Value, w.cell? ⟨g, j, none⟩ = some v0 ∧ Kd.R (Kd.int .i64) 3 w base (fun k => k ≠ g ∧ f k = j ∧ ok k) v0 l[j] := by
  obtain ⟨f, hR⟩ := h
  refine ⟨f, fun j hj => ?_⟩
  have hn := (Kd.R_reads' hR).1
  rw [List.length_zipIdx] at hn
  obtain ⟨cs, hcl, hM, hcc, _⟩ := Kd.R_elem hR ([], 0) (j : Int) (by omega) (by omega)
  have hz : l.zipIdx.getD ((j : Int)).toNat ([], 0) = (l[j], j) := by
    rw [Int.toNat_natCast, List.getD_eq_getElem?_getD, Kd.zip_at (List.getElem?_eq_getElem hj)]
    rfl
  rw [hz] at hM
  obtain ⟨v0, rfl, hv⟩ := hM
  refine ⟨v0, by have hq := hcc 0 _ rfl; have e : j * 1 = j := Nat.mul_one j; rw [← e]; exact hq, Kd.R_mono hv (fun k hk => ⟨fun e => ?_, ?_, ?_⟩)⟩
  · first | exact hk.1.2 (by rw [e]) | exact hk.2.2 (by rw [e])
  · first | exact hk.2 | exact hk.2.1 | exact hk.1.2
  · first | exact hk.1.1 | exact hk.1
set_option maxHeartbeats 8000000 in
set_option maxRecDepth 100000 in
theorem laws_markIntSS.calls (k : Nat) (P0_ : Nat → Prop) (v : Value) (l0 : List (List Int)) (a1 : Int) (r : Int) (w0 w : World) (hB : Below w0.heap.size w0 w) (ho0 : Kd.S (Kd.slice 3 (Kd.int .i64)) 22 w w0.heap.size P0_ v l0) (h : laws_markIntSS.f k l0 a1 = some r) :
    Calls Try.prog 24 #[v, .int .i64 a1] w fun e w' => e = .returned (.int .i64 r) ∧ Below w0.heap.size w0 w' ∧ Kept w w' (fun k_ => P0_ k_ ∧ laws_markIntSS.In w k_) := by
  unfold laws_markIntSS.f at h
  by_cases hbig : l0.length ≤ 1000000000
  · rw [if_pos hbig] at h
    have H := Aside0.mk h
    have LB := Aside0.mk hbig
    have HB0 := Aside0.mk hB
    clear h hbig hB
    by_cases h0 : l0.length = 0
    · obtain rfl := List.eq_nil_of_length_eq_zero h0
      obtain ⟨A, c, e5⟩ := Kd.S_slice ho0
      have hr : a1 = r := Option.some.inj H.out
      subst hr
      subst e5
      clear ho0 H LB h0
      go_enter Try.func24, Try.ntmps24
      go_wp2
      go_loopg [1, 5] 0 (fun _ s1 s5 wr => s1 = .int .i64 a1 ∧ s5 = .int .i64 0 ∧ wr = w)
      case atStart => exact ⟨rfl, rfl, rfl⟩
      case round =>
        obtain ⟨rfl, rfl, rfl⟩ := hrel
        go_wp2
        go_ret
        exact ⟨rfl, HB0.out, Kept.refl _ _⟩
    · obtain ⟨g, c, e5, hgb, hgl, cur, hcur⟩ := Kd.S_form ho0 (by omega)
      subst e5
      obtain ⟨f, hel⟩ := laws_markIntSS.elems ho0
      have EL := Aside0.mk hel
      have CU := Aside0.mk hcur
      clear ho0 hel hgb hgl hcur h0
      go_enter Try.func24, Try.ntmps24
      go_wp2
      go_loopg [1, 5] l0.length (fun gg v1 v5 wr => ∃ (a : Int) (i : Nat), v1 = .int .i64 a ∧ v5 = .int .i64 (i : Int) ∧ Aside0 (laws_markIntSS.go k (l0.drop i) a = some r) ∧ Aside0 (i + gg = l0.length) ∧ Aside0 (wr.heap[g]? = some (.cells cur 22 (0, 0))) ∧ Aside0 (Kept w wr (fun q => P0_ q ∧ laws_markIntSS.In w q ∧ f q < i)) ∧ Aside0 (Below w0.heap.size w0 wr))
      case atStart => exact ⟨a1, 0, rfl, rfl, H, ⟨by omega⟩, CU, ⟨Kept.refl _ _⟩, HB0⟩
      case round =>
        obtain ⟨a, i, rfl, rfl, HA, HN, BK, HK, HB⟩ := hrel
        cases gk with
        | zero =>
          have hi : i = l0.length := HN.out
          subst hi
          have hr : a = r := by
            have := HA.out
            rw [List.drop_length] at this
            exact Option.some.inj this
          subst hr
          have hltz : ¬ ((l0.length : Int) < (l0.length : Int)) := by omega
          go_wp2
          go_ret
          exact ⟨rfl, HB.out, Kept.mono HK.out (fun q hq => ⟨hq.1, hq.2.1⟩)⟩
        | succ m =>
          have hlt : i < l0.length := by have := HN.out; omega
          have hltz : (i : Int) < (l0.length : Int) := by omega
          obtain ⟨v0, hv0, hvR⟩ := EL.out i hlt
          have hA := HA.out
          rw [List.drop_eq_getElem_cons hlt] at hA
          unfold laws_markIntSS.go at hA
          obtain ⟨⟨p1, p2⟩, hp, hA⟩ := Option.bind_eq_some_iff.mp hA
          have HP := Aside0.mk hp
          have HA2 := Aside0.mk hA
          rw [blk_cell CU.out, ← blk_cell BK.out] at hv0
          have hvR2 : Kd.R (Kd.int .i64) 3 wr w0.heap.size (fun q => q ≠ g ∧ f q = i ∧ P0_ q) v0 l0[i] := Kd.R_step hvR (fun q hq hql => HK.out.2 q hql (fun hs => by have := hq.2.1; have := hs.2.2; omega))
          have VR := Aside0.mk hvR2
          obtain ⟨A0, c0, e0⟩ := Kd.R_slice hvR2
          subst e0
          have VT := Aside0.mk (Kd.R_typed hvR)
          clear hA hp hvR hvR2 HA
          generalize l0[i] = x at hv0 HP HA2 VR VT
          have hcall := laws_markIntS.calls k (fun q => some q = (Value.slice A0 x.length c0).ownBlock) (.slice A0 x.length c0) x a p1 p2 w0 wr HB.out (Kd.Q_of_R (Kd.R_tight rfl VR.out)) HP.out
          go_wp2_with fail
          go_at_call 17
          refine hcall.mono ?_
          rintro e w1 ⟨rfl, hq, hb, hk⟩
          have BK1 := Aside0.mk (blk_kept BK.out hk (fun hs => (VR.out.1 g hs.symm).1 rfl))
          have HB1 := Aside0.mk hb
          have HK1 := Aside0.mk (Kept.then_ (S := fun q => P0_ q ∧ laws_markIntSS.In w q ∧ f q < i + 1) (Kept.mono HK.out (fun q hq => ⟨hq.1, hq.2.1, by have := hq.2.2; omega⟩)) hk (fun q hq => .inl ⟨(VR.out.1 q hq.symm).2.2, by obtain ⟨cs, hcs⟩ := VT.out q hq.symm; exact ⟨3, cs, .inr rfl, hcs⟩, by have := (VR.out.1 q hq.symm).2.1; omega⟩))
          clear hq hb hk hcall hv0
          go_wp2
          go_roundg m
          case measure => omega
          case rel => exact ⟨_, i + 1, rfl, (by first | rw [show wrap64 ((i : Int) + 1) = ((i + 1 : Nat) : Int) from by have := LB.out; have := HN.out; unfold wrap64; omega] | go_num), HA2, ⟨by have := HN.out; omega⟩, BK1, HK1, HB1⟩
  · rw [if_neg hbig] at h
    exact absurd h (by simp)


end Go.Proofs.Ytpefkclpnkefnaa.GFnExactRunDiagram

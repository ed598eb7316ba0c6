/- Functions of the program as Lean functions, with proofs that the machine comes to their answers; written by this session's program mkprint.py; no condition beyond each theorem's own. -/
import Derived.Test.YtmphligplngeaaaGFnExactEvalLogicx0
import Derived.Test.YtmphligplngeaaaGFnExactEvalLogicx4
namespace Go.Proofs.Ytmphligplngeaaa.GFnExactEvalLogic
open Go.RowKit Go.Proofs.YtmphligplngeaaaV.PrintWords Go.Proofs.YtmphligplngeaaaV.PrintLast Go.Proofs.YtmphligplngeaaaV.PrintMore
attribute [local go_sem] max2_int min2_int max_two min_two max_three min_three max_four min_four   -- for this text's walks alone
set_option linter.unusedVariables false
set_option linter.unusedSimpArgs false

/-! ### impl_LogicValid: function 49 -/
mutual
def impl_LogicValid.l0 : Nat → Int → Int → List (S69) → Int → Int → Option (Bool)
  | 0, _, _, _, _, _ => none
  | k + 1, x1, x5, x12, x13, x14 => if x14 < x13 then (if 0 ≤ x14 then (if x14 < (x12.length : Int) then (if ((rd_T69 x12 x14).f0) = 1 then (impl_LogicValid.j1 k x1 x5 x12 x13 x14 false ((rd_T69 x12 x14).f0) ((rd_T69 x12 x14).f1)) else (impl_LogicValid.j1 k x1 x5 x12 x13 x14 (((rd_T69 x12 x14).f1) != 0) ((rd_T69 x12 x14).f0) ((rd_T69 x12 x14).f1))) else (none)) else (none)) else (some (x5 == 1))
def impl_LogicValid.j1 : Nat → Int → Int → List (S69) → Int → Int → Bool → Int → Int → Option (Bool)
  | 0, _, _, _, _, _, _, _, _ => none
  | k + 1, x1, x5, x12, x13, x14, x25, x161000, x161001 => if x25 = true then (some false) else (if x161000 = 1 then (if x161001 < 0 then (some false) else (if x161001 ≥ x1 then (some false) else (impl_LogicValid.l0 k x1 (wrap64 (x5 + 1)) x12 x13 (wrap64 (x14 + 1))))) else (if x161000 = 6 then (impl_LogicValid.j2 k x1 x5 x12 x13 x14 x161000 (x161000 == 6)) else (impl_LogicValid.j2 k x1 x5 x12 x13 x14 x161000 (x161000 == 7))))
def impl_LogicValid.j2 : Nat → Int → Int → List (S69) → Int → Int → Int → Bool → Option (Bool)
  | 0, _, _, _, _, _, _, _ => none
  | k + 1, x1, x5, x12, x13, x14, x27, x41 => if x41 = true then (impl_LogicValid.l0 k x1 (wrap64 (x5 + 1)) x12 x13 (wrap64 (x14 + 1))) else (if x27 = 2 then (if x5 < 1 then (some false) else (impl_LogicValid.l0 k x1 x5 x12 x13 (wrap64 (x14 + 1)))) else (if x27 = 3 then (impl_LogicValid.j3 k x1 x5 x12 x13 x14 (x27 == 3)) else (if x27 = 4 then (impl_LogicValid.j3 k x1 x5 x12 x13 x14 (x27 == 4)) else (impl_LogicValid.j3 k x1 x5 x12 x13 x14 (x27 == 5)))))
def impl_LogicValid.j3 : Nat → Int → Int → List (S69) → Int → Int → Bool → Option (Bool)
  | 0, _, _, _, _, _, _ => none
  | k + 1, x1, x5, x12, x13, x14, x50 => if x50 = true then (if x5 < 2 then (some false) else (impl_LogicValid.l0 k x1 (wrap64 (x5 - 1)) x12 x13 (wrap64 (x14 + 1)))) else (some false)
end
def impl_LogicValid.f (k : Nat) (l0 : List (S69)) (a1 : Int) : Option (Bool) := (impl_in.f (l0.length : Int) 1 24).bind fun t158 => (if t158 = true then (impl_LogicValid.l0 k a1 0 l0 (l0.length : Int) 0) else (some false))
theorem impl_LogicValid.mono_l : ∀ k, (∀ y0 y1 y2 y3 y4, LeO (impl_LogicValid.l0 k y0 y1 y2 y3 y4) (impl_LogicValid.l0 (k + 1) y0 y1 y2 y3 y4)) ∧ (∀ y0 y1 y2 y3 y4 y5 y6 y7, LeO (impl_LogicValid.j1 k y0 y1 y2 y3 y4 y5 y6 y7) (impl_LogicValid.j1 (k + 1) y0 y1 y2 y3 y4 y5 y6 y7)) ∧ (∀ y0 y1 y2 y3 y4 y5 y6, LeO (impl_LogicValid.j2 k y0 y1 y2 y3 y4 y5 y6) (impl_LogicValid.j2 (k + 1) y0 y1 y2 y3 y4 y5 y6)) ∧ (∀ y0 y1 y2 y3 y4 y5, LeO (impl_LogicValid.j3 k y0 y1 y2 y3 y4 y5) (impl_LogicValid.j3 (k + 1) y0 y1 y2 y3 y4 y5))
  | 0 => ⟨fun _ _ _ _ _ r h => by simp [impl_LogicValid.l0] at h, fun _ _ _ _ _ _ _ _ r h => by simp [impl_LogicValid.j1] at h, fun _ _ _ _ _ _ _ r h => by simp [impl_LogicValid.j2] at h, fun _ _ _ _ _ _ r h => by simp [impl_LogicValid.j3] at h⟩
  | k + 1 => by
    obtain ⟨ih0, ih1, ih2, ih3⟩ := impl_LogicValid.mono_l k
    refine ⟨?_, ?_, ?_, ?_⟩
    · intro y0 y1 y2 y3 y4
      unfold impl_LogicValid.l0
      repeat' first
      | (with_reducible exact ih0 _ _ _ _ _)
      | (with_reducible exact ih1 _ _ _ _ _ _ _ _)
      | (with_reducible exact ih2 _ _ _ _ _ _ _)
      | (with_reducible exact ih3 _ _ _ _ _ _)
      | (with_reducible exact LeO.refl _)
      | (with_reducible exact LeO.none _)
      | (with_reducible refine LeO.ite ?_ ?_)
      | (with_reducible refine LeO.bind ?_ (fun _ => ?_))
      | exact ih0 _ _ _ _ _
      | exact ih1 _ _ _ _ _ _ _ _
      | exact ih2 _ _ _ _ _ _ _
      | exact ih3 _ _ _ _ _ _
      | exact LeO.none _
      | refine LeO.ite ?_ ?_
      | refine LeO.bind ?_ (fun _ => ?_)
    · intro y0 y1 y2 y3 y4 y5 y6 y7
      unfold impl_LogicValid.j1
      repeat' first
      | (with_reducible exact ih0 _ _ _ _ _)
      | (with_reducible exact ih1 _ _ _ _ _ _ _ _)
      | (with_reducible exact ih2 _ _ _ _ _ _ _)
      | (with_reducible exact ih3 _ _ _ _ _ _)
      | (with_reducible exact LeO.refl _)
      | (with_reducible exact LeO.none _)
      | (with_reducible refine LeO.ite ?_ ?_)
      | (with_reducible refine LeO.bind ?_ (fun _ => ?_))
      | exact ih0 _ _ _ _ _
      | exact ih1 _ _ _ _ _ _ _ _
      | exact ih2 _ _ _ _ _ _ _
      | exact ih3 _ _ _ _ _ _
      | exact LeO.none _
      | refine LeO.ite ?_ ?_
      | refine LeO.bind ?_ (fun _ => ?_)
    · intro y0 y1 y2 y3 y4 y5 y6
      unfold impl_LogicValid.j2
      repeat' first
      | (with_reducible exact ih0 _ _ _ _ _)
      | (with_reducible exact ih1 _ _ _ _ _ _ _ _)
      | (with_reducible exact ih2 _ _ _ _ _ _ _)
      | (with_reducible exact ih3 _ _ _ _ _ _)
      | (with_reducible exact LeO.refl _)
      | (with_reducible exact LeO.none _)
      | (with_reducible refine LeO.ite ?_ ?_)
      | (with_reducible refine LeO.bind ?_ (fun _ => ?_))
      | exact ih0 _ _ _ _ _
      | exact ih1 _ _ _ _ _ _ _ _
      | exact ih2 _ _ _ _ _ _ _
      | exact ih3 _ _ _ _ _ _
      | exact LeO.none _
      | refine LeO.ite ?_ ?_
      | refine LeO.bind ?_ (fun _ => ?_)
    · intro y0 y1 y2 y3 y4 y5
      unfold impl_LogicValid.j3
      repeat' first
      | (with_reducible exact ih0 _ _ _ _ _)
      | (with_reducible exact ih1 _ _ _ _ _ _ _ _)
      | (with_reducible exact ih2 _ _ _ _ _ _ _)
      | (with_reducible exact ih3 _ _ _ _ _ _)
      | (with_reducible exact LeO.refl _)
      | (with_reducible exact LeO.none _)
      | (with_reducible refine LeO.ite ?_ ?_)
      | (with_reducible refine LeO.bind ?_ (fun _ => ?_))
      | exact ih0 _ _ _ _ _
      | exact ih1 _ _ _ _ _ _ _ _
      | exact ih2 _ _ _ _ _ _ _
      | exact ih3 _ _ _ _ _ _
      | exact LeO.none _
      | refine LeO.ite ?_ ?_
      | refine LeO.bind ?_ (fun _ => ?_)
theorem impl_LogicValid.mono : ∀ a0 a1 k, LeO (impl_LogicValid.f k a0 a1) (impl_LogicValid.f (k + 1) a0 a1) := by
  intro a0 a1 k
  obtain ⟨ih0, ih1, ih2, ih3⟩ := impl_LogicValid.mono_l k
  unfold impl_LogicValid.f
  repeat' first
      | (with_reducible exact ih0 _ _ _ _ _)
      | (with_reducible exact ih1 _ _ _ _ _ _ _ _)
      | (with_reducible exact ih2 _ _ _ _ _ _ _)
      | (with_reducible exact ih3 _ _ _ _ _ _)
      | (with_reducible exact LeO.refl _)
      | (with_reducible exact LeO.none _)
      | (with_reducible refine LeO.ite ?_ ?_)
      | (with_reducible refine LeO.bind ?_ (fun _ => ?_))
      | exact ih0 _ _ _ _ _
      | exact ih1 _ _ _ _ _ _ _ _
      | exact ih2 _ _ _ _ _ _ _
      | exact ih3 _ _ _ _ _ _
      | exact LeO.none _
      | refine LeO.ite ?_ ?_
      | refine LeO.bind ?_ (fun _ => ?_)
set_option maxHeartbeats 8000000 in
set_option maxRecDepth 100000 in
theorem impl_LogicValid.calls (k : Nat) (A0 : Option Addr) (c0 : Nat) (l0 : List (S69)) (a1 : Int) (r : Bool) (w : World) (hr0 : Kd.C k69 w A0 l0.length l0) (hc0 : l0.length ≤ c0) (h : impl_LogicValid.f k l0 a1 = some r) :
    Calls Try.prog 49 #[.slice A0 l0.length c0, .int .i64 a1] w fun e w' => e = .returned (.bool r) ∧ Below w.heap.size w w' := by
  have hu69 := Try.underlying69
  have HR0 := Aside0.mk hr0
  have HC0 := Aside0.mk hc0
  clear hr0 hc0
  have HB := Aside0.mk (Below.refl w.heap.size w)
  have H : ((impl_in.f (l0.length : Int) 1 24).bind fun t158 => (if t158 = true then (impl_LogicValid.l0 k a1 0 l0 (l0.length : Int) 0) else (some false))) = some r := h
  clear h
  replace H := Option.bind_eq_some_iff.mp H
  obtain ⟨t158, A30, H⟩ := H
  replace H : (if t158 = true then (impl_LogicValid.l0 k a1 0 l0 (l0.length : Int) 0) else (some false)) = some r := H
  have A3 := Aside0.mk A30
  clear A30
  by_cases c4 : t158 = true
  · subst c4
    have H1 : (impl_LogicValid.l0 k a1 0 l0 (l0.length : Int) 0) = some r := by rw [if_pos rfl] at H; exact H
    clear H
    have H := H1
    clear H1
    have H' := Aside0.mk H
    clear H
    go_enter Try.func49, Try.ntmps49
    go_wp2_with (first | ((with_reducible refine gate_callee (f := 48) rfl ?_); refine goesL_ (some 10) rfl rfl Try.func48 (by kernel_rfl) rfl #[.int .i64 (l0.length : Int), .int .i64 1, .int .i64 24] rfl (by (try simp only [List.map_toArray, List.map_cons, List.map_nil]); first | done | rfl | (simp only [List.length_drop, List.length_take]; rfl)) ?_; (with_reducible refine (impl_in.calls (l0.length : Int) 1 24 true _ A3.out).mono ?_); rintro e w' ⟨rfl, ⟨nd, rfl⟩⟩; refine ⟨_, rfl, ?_⟩))
    go_loopg [5, 14] k (fun kq v5 v14 w' => ∃ (x5_1 : Int) (x14_1 : Int), v5 = .int .i64 x5_1 ∧ v14 = .int .i64 x14_1 ∧ Aside0 (impl_LogicValid.l0 kq a1 x5_1 l0 (l0.length : Int) x14_1 = some r) ∧ Aside0 (kq ≤ k) ∧ Aside0 (Below w.heap.size w w'))
    case atStart => exact ⟨(0), (0), (by first | rfl | (simp; done) | (simp [*]; done)), (by first | rfl | (simp; done) | (simp [*]; done)), H', ⟨Nat.le_refl _⟩, ⟨by repeat (first | (with_reducible first | exact HB.out | apply below_alloc | apply pw_below_drewN | apply below_drew1) | exact HB.out)⟩⟩
    case round =>
      clear H'
      try clear p2
      try clear c4
      obtain ⟨x5_1, x14_1, rfl, rfl, HA, HK1, HB⟩ := hrel
      cases gk with
      | zero => exact absurd HA.out (by simp [impl_LogicValid.l0])
      | succ k1 =>
        have H := HA.out
        clear HA
        simp only [impl_LogicValid.l0] at H
        by_cases c5 : x14_1 < (l0.length : Int)
        · rw [if_pos c5] at H
          have c5b0 : decide (x14_1 < (l0.length : Int)) = true := decide_eq_true c5
          clear c5
          by_cases c6 : 0 ≤ x14_1
          · rw [if_pos c6] at H
            have c6b0 : decide (0 ≤ x14_1) = true := decide_eq_true c6
            clear c6
            by_cases c7 : x14_1 < (l0.length : Int)
            · rw [if_pos c7] at H
              have c7b0 : decide (x14_1 < (l0.length : Int)) = true := decide_eq_true c7
              clear c7
              have HC8 := Aside0.mk H
              clear H
              have p159 : 0 ≤ (x14_1 : Int) := of_decide_eq_true (by first | (with_reducible assumption) | assumption)
              have q159 : x14_1 < (l0.length : Int) := of_decide_eq_true (by first | (with_reducible assumption) | assumption)
              obtain ⟨ad159, e159, hx159_0, hx159_1⟩ := at_T69 HR0.out x14_1 p159 q159
              cases e159
              replace hx159_0 := (HB.out.cell (World.block_lt_of_cell? w _ hx159_0)).trans hx159_0
              replace hx159_1 := (HB.out.cell (World.block_lt_of_cell? w _ hx159_1)).trans hx159_1
              replace p159 := eq_true p159
              replace q159 := eq_true q159
              go_upto_region 7 with (first | ((with_reducible refine gate_dst (N := 7) rfl ?_); refine box_event ?hg (N := 7) ?hd (cs := #[.int .i64 0, .int .i64 0]) (t := 69) ?hr ?_; (case hd => rfl); (case hg => rfl); (case hr => first | (go_simp; done) | (go_simp; rfl)); intro gb160 hg w9 hbox hb; have n0_ := Aside0.mk (below_step (by repeat (first | (with_reducible first | exact HB.out | apply below_alloc | apply pw_below_drewN | apply below_drew1) | exact HB.out)) hb); have n1_ := Aside0.mk (hbox); have n2_ := Aside0.mk ((by rw [hg]; exact (below_size (by repeat (first | (with_reducible first | exact HB.out | apply below_alloc | apply pw_below_drewN | apply below_drew1) | exact HB.out))) : w.heap.size ≤ gb160)); have n3_ := Aside0.mk ((by rw [hg]; exact (below_size (by repeat (first | (with_reducible first | exact HB.out | apply below_alloc | apply pw_below_drewN | apply below_drew1) | exact HB.out))) : w.heap.size ≤ gb160)); clear HB; have HB := n0_; have BK160 := n1_; have GW160 := n2_; have GE160 := n3_; clear n0_ n1_ n2_ n3_; clear hb hbox hg; have hcz10_0 : w9.cell? ⟨gb160, 0, none⟩ = some (.int .i64 0) := (blk_cell BK160.out 0).trans rfl; have hcz10_1 : w9.cell? ⟨gb160, 1, none⟩ = some (.int .i64 0) := (blk_cell BK160.out 1).trans rfl; have hfz10_0 := blk_frozen BK160.out 0; have hfz10_1 := blk_frozen BK160.out 1))
              (try simp only [Act.put, List.setIfInBounds_toArray, List.set_cons_zero, List.set_cons_succ])
              go_cut [25] (fun v25 wc => ∃ (kq : Nat) (x25_7 : Bool), v25 = .bool x25_7 ∧ Aside0 (impl_LogicValid.j1 kq a1 x5_1 l0 (l0.length : Int) x14_1 x25_7 ((rd_T69 l0 x14_1).f0) ((rd_T69 l0 x14_1).f1) = some r) ∧ Aside0 (kq ≤ k1) ∧ Aside0 (wc.heap[gb160]? = some (.cells #[.int .i64 ((rd_T69 l0 x14_1).f0), .int .i64 ((rd_T69 l0 x14_1).f1)] 69 (0, 0))) ∧ Aside0 (Below w.heap.size w wc))
              case first =>
                have H := HC8.out
                clear HC8
                by_cases c11 : ((rd_T69 l0 x14_1).f0) = 1
                · rw [if_pos c11] at H
                  have c11b0 : (((rd_T69 l0 x14_1).f0) == 1) = true := beq_iff_eq.mpr c11
                  have c11b1 : (((rd_T69 l0 x14_1).f0) != 1) = false := bne_eq_false_iff_eq.mpr c11
                  clear c11
                  (first | rw [c11b0] | (simp only [i64_w, i32_w]; rw [c11b0]) | skip)
                  have H' := Aside0.mk H
                  clear H
                  have hcz12_0 : w9.cell? ⟨gb160, 0, none⟩ = some (.int .i64 0) := (blk_cell BK160.out 0).trans rfl
                  have hcz12_1 : w9.cell? ⟨gb160, 1, none⟩ = some (.int .i64 0) := (blk_cell BK160.out 1).trans rfl
                  have hfz12_0 := blk_frozen BK160.out 0
                  have hfz12_1 := blk_frozen BK160.out 1
                  go_wp2
                  go_meet
                  case rel => exact ⟨_, (false), (by first | rfl | (simp; done) | (simp [*]; done)), H', ⟨by have := HK1.out; first | omega | exact Nat.le_refl _⟩, ⟨by (with_reducible repeat (first | refine blk_drewN ?_ _ | refine blk_drew ?_ | refine blk_alloc ?_ _)); refine blk_put (cs := #[.int .i64 ((rd_T69 l0 x14_1).f0), .int .i64 0]) ?_ 1 _ rfl; (with_reducible repeat (first | refine blk_drewN ?_ _ | refine blk_drew ?_ | refine blk_alloc ?_ _)); refine blk_put (cs := #[.int .i64 0, .int .i64 0]) ?_ 0 _ rfl; (with_reducible repeat (first | refine blk_drewN ?_ _ | refine blk_drew ?_ | refine blk_alloc ?_ _)); exact BK160.out⟩, ⟨by repeat (first | (with_reducible first | exact HB.out | apply below_alloc | apply pw_below_drewN | apply below_drew1 | refine below_set ?_ GE160.out) | exact HB.out)⟩⟩
                · rw [if_neg c11] at H
                  have c11b0 : (((rd_T69 l0 x14_1).f0) == 1) = false := beq_eq_false_iff_ne.mpr c11
                  have c11b1 : (((rd_T69 l0 x14_1).f0) != 1) = true := bne_iff_ne.mpr c11
                  (first | rw [c11b0] | (simp only [i64_w, i32_w]; rw [c11b0]) | skip)
                  have H' := Aside0.mk H
                  clear H
                  have hcz13_0 : w9.cell? ⟨gb160, 0, none⟩ = some (.int .i64 0) := (blk_cell BK160.out 0).trans rfl
                  have hcz13_1 : w9.cell? ⟨gb160, 1, none⟩ = some (.int .i64 0) := (blk_cell BK160.out 1).trans rfl
                  have hfz13_0 := blk_frozen BK160.out 0
                  have hfz13_1 := blk_frozen BK160.out 1
                  go_wp2
                  go_meet
                  case rel => exact ⟨_, ((((rd_T69 l0 x14_1).f1) != 0)), (by first | rfl | (simp; done) | (simp [*]; done)), H', ⟨by have := HK1.out; first | omega | exact Nat.le_refl _⟩, ⟨by (with_reducible repeat (first | refine blk_drewN ?_ _ | refine blk_drew ?_ | refine blk_alloc ?_ _)); refine blk_put (cs := #[.int .i64 ((rd_T69 l0 x14_1).f0), .int .i64 0]) ?_ 1 _ rfl; (with_reducible repeat (first | refine blk_drewN ?_ _ | refine blk_drew ?_ | refine blk_alloc ?_ _)); refine blk_put (cs := #[.int .i64 0, .int .i64 0]) ?_ 0 _ rfl; (with_reducible repeat (first | refine blk_drewN ?_ _ | refine blk_drew ?_ | refine blk_alloc ?_ _)); exact BK160.out⟩, ⟨by repeat (first | (with_reducible first | exact HB.out | apply below_alloc | apply pw_below_drewN | apply below_drew1 | refine below_set ?_ GE160.out) | exact HB.out)⟩⟩
              case rest =>
                clear HC8
                try clear c1
                try clear p1
                try clear q1
                try clear hx1
                try clear p2
                try clear c4
                try clear c5
                try clear c5b0
                try clear c6
                try clear c6b0
                try clear c7
                try clear c7b0
                try clear c11
                try clear c11b0
                try clear c11b1
                try clear hcz10_0
                try clear hcz10_1
                try clear hcz12_0
                try clear hcz12_1
                try clear hcz13_0
                try clear hcz13_1
                try clear hfz10_0
                try clear hfz10_1
                try clear hfz12_0
                try clear hfz12_1
                try clear hfz13_0
                try clear hfz13_1
                try clear hx159_0
                try clear hx159_1
                try clear p159
                try clear p2
                try clear q159
                obtain ⟨kq, x25_7, rfl, HA, HJ7, BK160, HB⟩ := hcut
                cases kq with
                | zero => exact absurd HA.out (by simp [impl_LogicValid.j1])
                | succ kj7 =>
                  have H := HA.out
                  clear HA
                  simp only [impl_LogicValid.j1] at H
                  by_cases c14 : x25_7 = true
                  · subst c14
                    have H1 : (some false) = some r := by rw [if_pos rfl] at H; exact H
                    clear H
                    have H := H1
                    clear H1
                    obtain rfl := Option.some.inj H
                    go_wp2
                    go_ret
                    exact ⟨by first | rfl | (simp [errW_none, errW_some] <;> rfl) | (simp [*, errW_none, errW_some] <;> rfl), by repeat (first | (with_reducible first | exact HB.out | apply below_alloc | apply pw_below_drewN | apply below_drew1 | refine below_set ?_ GE160.out) | exact HB.out)⟩
                  · replace c14 := Bool.eq_false_iff.mpr c14
                    subst c14
                    have H1 : (if ((rd_T69 l0 x14_1).f0) = 1 then (if ((rd_T69 l0 x14_1).f1) < 0 then (some false) else (if ((rd_T69 l0 x14_1).f1) ≥ a1 then (some false) else (impl_LogicValid.l0 kj7 a1 (wrap64 (x5_1 + 1)) l0 (l0.length : Int) (wrap64 (x14_1 + 1))))) else (if ((rd_T69 l0 x14_1).f0) = 6 then (impl_LogicValid.j2 kj7 a1 x5_1 l0 (l0.length : Int) x14_1 ((rd_T69 l0 x14_1).f0) (((rd_T69 l0 x14_1).f0) == 6)) else (impl_LogicValid.j2 kj7 a1 x5_1 l0 (l0.length : Int) x14_1 ((rd_T69 l0 x14_1).f0) (((rd_T69 l0 x14_1).f0) == 7)))) = some r := by rw [if_neg (show ¬ (false = true) by decide)] at H; exact H
                    clear H
                    have H := H1
                    clear H1
                    by_cases c15 : ((rd_T69 l0 x14_1).f0) = 1
                    · rw [if_pos c15] at H
                      have c15b0 : (((rd_T69 l0 x14_1).f0) == 1) = true := beq_iff_eq.mpr c15
                      have c15b1 : (((rd_T69 l0 x14_1).f0) != 1) = false := bne_eq_false_iff_eq.mpr c15
                      clear c15
                      by_cases c16 : ((rd_T69 l0 x14_1).f1) < 0
                      · rw [if_pos c16] at H
                        have c16b0 : decide (((rd_T69 l0 x14_1).f1) < 0) = true := decide_eq_true c16
                        clear c16
                        obtain rfl := Option.some.inj H
                        have hcz17_0 : wc.cell? ⟨gb160, 0, none⟩ = some (.int .i64 ((rd_T69 l0 x14_1).f0)) := (blk_cell BK160.out 0).trans rfl
                        have hcz17_1 : wc.cell? ⟨gb160, 1, none⟩ = some (.int .i64 ((rd_T69 l0 x14_1).f1)) := (blk_cell BK160.out 1).trans rfl
                        have hfz17_0 := blk_frozen BK160.out 0
                        have hfz17_1 := blk_frozen BK160.out 1
                        go_wp2
                        go_ret
                        exact ⟨by first | rfl | (simp [errW_none, errW_some] <;> rfl) | (simp [*, errW_none, errW_some] <;> rfl), by repeat (first | (with_reducible first | exact HB.out | apply below_alloc | apply pw_below_drewN | apply below_drew1 | refine below_set ?_ GE160.out) | exact HB.out)⟩
                      · rw [if_neg c16] at H
                        have c16b0 : decide (((rd_T69 l0 x14_1).f1) < 0) = false := decide_eq_false c16
                        clear c16
                        by_cases c18 : ((rd_T69 l0 x14_1).f1) ≥ a1
                        · rw [if_pos c18] at H
                          have c18b0 : decide (a1 ≤ ((rd_T69 l0 x14_1).f1)) = true := decide_eq_true c18
                          clear c18
                          obtain rfl := Option.some.inj H
                          have hcz19_0 : wc.cell? ⟨gb160, 0, none⟩ = some (.int .i64 ((rd_T69 l0 x14_1).f0)) := (blk_cell BK160.out 0).trans rfl
                          have hcz19_1 : wc.cell? ⟨gb160, 1, none⟩ = some (.int .i64 ((rd_T69 l0 x14_1).f1)) := (blk_cell BK160.out 1).trans rfl
                          have hfz19_0 := blk_frozen BK160.out 0
                          have hfz19_1 := blk_frozen BK160.out 1
                          go_wp2
                          go_ret
                          exact ⟨by first | rfl | (simp [errW_none, errW_some] <;> rfl) | (simp [*, errW_none, errW_some] <;> rfl), by repeat (first | (with_reducible first | exact HB.out | apply below_alloc | apply pw_below_drewN | apply below_drew1 | refine below_set ?_ GE160.out) | exact HB.out)⟩
                        · rw [if_neg c18] at H
                          have c18b0 : decide (a1 ≤ ((rd_T69 l0 x14_1).f1)) = false := decide_eq_false c18
                          clear c18
                          have H' := Aside0.mk H
                          clear H
                          have hcz20_0 : wc.cell? ⟨gb160, 0, none⟩ = some (.int .i64 ((rd_T69 l0 x14_1).f0)) := (blk_cell BK160.out 0).trans rfl
                          have hcz20_1 : wc.cell? ⟨gb160, 1, none⟩ = some (.int .i64 ((rd_T69 l0 x14_1).f1)) := (blk_cell BK160.out 1).trans rfl
                          have hfz20_0 := blk_frozen BK160.out 0
                          have hfz20_1 := blk_frozen BK160.out 1
                          go_wp2
                          go_roundg kj7
                          case measure => have := HK1.out; have := HJ7.out; omega
                          case rel => exact ⟨(wrap64 (x5_1 + 1)), (wrap64 (x14_1 + 1)), (by first | rfl | (simp; done) | (simp [*]; done)), (by first | rfl | (simp; done) | (simp [*]; done)), H', ⟨by have := HK1.out; have := HJ7.out; omega⟩, ⟨by repeat (first | (with_reducible first | exact HB.out | apply below_alloc | apply pw_below_drewN | apply below_drew1 | refine below_set ?_ GE160.out) | exact HB.out)⟩⟩
                    · rw [if_neg c15] at H
                      have c15b0 : (((rd_T69 l0 x14_1).f0) == 1) = false := beq_eq_false_iff_ne.mpr c15
                      have c15b1 : (((rd_T69 l0 x14_1).f0) != 1) = true := bne_iff_ne.mpr c15
                      have HC21 := Aside0.mk H
                      clear H
                      have hcz22_0 : wc.cell? ⟨gb160, 0, none⟩ = some (.int .i64 ((rd_T69 l0 x14_1).f0)) := (blk_cell BK160.out 0).trans rfl
                      have hcz22_1 : wc.cell? ⟨gb160, 1, none⟩ = some (.int .i64 ((rd_T69 l0 x14_1).f1)) := (blk_cell BK160.out 1).trans rfl
                      have hfz22_0 := blk_frozen BK160.out 0
                      have hfz22_1 := blk_frozen BK160.out 1
                      go_upto_if 41 with (fail)
                      go_cut [41] (fun v41 wc => ∃ (kq : Nat) (x41_20 : Bool), v41 = .bool x41_20 ∧ Aside0 (impl_LogicValid.j2 kq a1 x5_1 l0 (l0.length : Int) x14_1 ((rd_T69 l0 x14_1).f0) x41_20 = some r) ∧ Aside0 (kq ≤ kj7) ∧ Aside0 (wc.heap[gb160]? = some (.cells #[.int .i64 ((rd_T69 l0 x14_1).f0), .int .i64 ((rd_T69 l0 x14_1).f1)] 69 (0, 0))) ∧ Aside0 (Below w.heap.size w wc))
                      case first =>
                        have H := HC21.out
                        clear HC21
                        by_cases c23 : ((rd_T69 l0 x14_1).f0) = 6
                        · rw [if_pos c23] at H
                          have c23b0 : (((rd_T69 l0 x14_1).f0) == 6) = true := beq_iff_eq.mpr c23
                          have c23b1 : (((rd_T69 l0 x14_1).f0) != 6) = false := bne_eq_false_iff_eq.mpr c23
                          clear c23
                          (first | rw [c23b0] | (simp only [i64_w, i32_w]; rw [c23b0]) | skip)
                          have H' := Aside0.mk H
                          clear H
                          go_wp2
                          go_meet
                          case rel => exact ⟨_, ((((rd_T69 l0 x14_1).f0) == 6)), (by first | rfl | (simp; done) | (simp [*]; done)), H', ⟨by have := HK1.out; have := HJ7.out; first | omega | exact Nat.le_refl _⟩, ⟨by (with_reducible repeat (first | refine blk_drewN ?_ _ | refine blk_drew ?_ | refine blk_alloc ?_ _)); exact BK160.out⟩, ⟨by repeat (first | (with_reducible first | exact HB.out | apply below_alloc | apply pw_below_drewN | apply below_drew1 | refine below_set ?_ GE160.out) | exact HB.out)⟩⟩
                        · rw [if_neg c23] at H
                          have c23b0 : (((rd_T69 l0 x14_1).f0) == 6) = false := beq_eq_false_iff_ne.mpr c23
                          have c23b1 : (((rd_T69 l0 x14_1).f0) != 6) = true := bne_iff_ne.mpr c23
                          (first | rw [c23b0] | (simp only [i64_w, i32_w]; rw [c23b0]) | skip)
                          have H' := Aside0.mk H
                          clear H
                          go_wp2
                          go_meet
                          case rel => exact ⟨_, ((((rd_T69 l0 x14_1).f0) == 7)), (by first | rfl | (simp; done) | (simp [*]; done)), H', ⟨by have := HK1.out; have := HJ7.out; first | omega | exact Nat.le_refl _⟩, ⟨by (with_reducible repeat (first | refine blk_drewN ?_ _ | refine blk_drew ?_ | refine blk_alloc ?_ _)); exact BK160.out⟩, ⟨by repeat (first | (with_reducible first | exact HB.out | apply below_alloc | apply pw_below_drewN | apply below_drew1 | refine below_set ?_ GE160.out) | exact HB.out)⟩⟩
                      case rest =>
                        clear HC21
                        try clear c1
                        try clear p1
                        try clear q1
                        try clear hx1
                        try clear c2
                        try clear p2
                        try clear c4
                        try clear c5
                        try clear c5b0
                        try clear c6
                        try clear c6b0
                        try clear p6
                        try clear c7
                        try clear c7b0
                        try clear c11
                        try clear c11b0
                        try clear c11b1
                        try clear c14
                        try clear c15
                        try clear c15b0
                        try clear c15b1
                        try clear p15
                        try clear q15
                        try clear hx15
                        try clear c16
                        try clear c16b0
                        try clear c18
                        try clear c18b0
                        try clear c23
                        try clear c23b0
                        try clear c23b1
                        try clear hcz10_0
                        try clear hcz10_1
                        try clear hcz12_0
                        try clear hcz12_1
                        try clear hcz13_0
                        try clear hcz13_1
                        try clear hcz17_0
                        try clear hcz17_1
                        try clear hcz19_0
                        try clear hcz19_1
                        try clear hcz20_0
                        try clear hcz20_1
                        try clear hcz22_0
                        try clear hcz22_1
                        try clear hfz10_0
                        try clear hfz10_1
                        try clear hfz12_0
                        try clear hfz12_1
                        try clear hfz13_0
                        try clear hfz13_1
                        try clear hfz17_0
                        try clear hfz17_1
                        try clear hfz19_0
                        try clear hfz19_1
                        try clear hfz20_0
                        try clear hfz20_1
                        try clear hfz22_0
                        try clear hfz22_1
                        try clear hx159_0
                        try clear hx159_1
                        try clear p1
                        try clear p159
                        try clear p2
                        try clear q1
                        try clear q159
                        obtain ⟨kq, x41_20, rfl, HA, HJ20, BK160, HB⟩ := hcut
                        cases kq with
                        | zero => exact absurd HA.out (by simp [impl_LogicValid.j2])
                        | succ kj20 =>
                          have H := HA.out
                          clear HA
                          simp only [impl_LogicValid.j2] at H
                          by_cases c24 : x41_20 = true
                          · subst c24
                            have H1 : (impl_LogicValid.l0 kj20 a1 (wrap64 (x5_1 + 1)) l0 (l0.length : Int) (wrap64 (x14_1 + 1))) = some r := by rw [if_pos rfl] at H; exact H
                            clear H
                            have H := H1
                            clear H1
                            have H' := Aside0.mk H
                            clear H
                            go_wp2
                            go_roundg kj20
                            case measure => have := HK1.out; have := HJ7.out; have := HJ20.out; omega
                            case rel => exact ⟨(wrap64 (x5_1 + 1)), (wrap64 (x14_1 + 1)), (by first | rfl | (simp; done) | (simp [*]; done)), (by first | rfl | (simp; done) | (simp [*]; done)), H', ⟨by have := HK1.out; have := HJ7.out; have := HJ20.out; omega⟩, ⟨by repeat (first | (with_reducible first | exact HB.out | apply below_alloc | apply pw_below_drewN | apply below_drew1 | refine below_set ?_ GE160.out) | exact HB.out)⟩⟩
                          · replace c24 := Bool.eq_false_iff.mpr c24
                            subst c24
                            have H1 : (if ((rd_T69 l0 x14_1).f0) = 2 then (if x5_1 < 1 then (some false) else (impl_LogicValid.l0 kj20 a1 x5_1 l0 (l0.length : Int) (wrap64 (x14_1 + 1)))) else (if ((rd_T69 l0 x14_1).f0) = 3 then (impl_LogicValid.j3 kj20 a1 x5_1 l0 (l0.length : Int) x14_1 (((rd_T69 l0 x14_1).f0) == 3)) else (if ((rd_T69 l0 x14_1).f0) = 4 then (impl_LogicValid.j3 kj20 a1 x5_1 l0 (l0.length : Int) x14_1 (((rd_T69 l0 x14_1).f0) == 4)) else (impl_LogicValid.j3 kj20 a1 x5_1 l0 (l0.length : Int) x14_1 (((rd_T69 l0 x14_1).f0) == 5))))) = some r := by rw [if_neg (show ¬ (false = true) by decide)] at H; exact H
                            clear H
                            have H := H1
                            clear H1
                            by_cases c25 : ((rd_T69 l0 x14_1).f0) = 2
                            · rw [if_pos c25] at H
                              have c25b0 : (((rd_T69 l0 x14_1).f0) == 2) = true := beq_iff_eq.mpr c25
                              have c25b1 : (((rd_T69 l0 x14_1).f0) != 2) = false := bne_eq_false_iff_eq.mpr c25
                              clear c25
                              by_cases c26 : x5_1 < 1
                              · rw [if_pos c26] at H
                                have c26b0 : decide (x5_1 < 1) = true := decide_eq_true c26
                                clear c26
                                obtain rfl := Option.some.inj H
                                go_wp2
                                go_ret
                                exact ⟨by first | rfl | (simp [errW_none, errW_some] <;> rfl) | (simp [*, errW_none, errW_some] <;> rfl), by repeat (first | (with_reducible first | exact HB.out | apply below_alloc | apply pw_below_drewN | apply below_drew1 | refine below_set ?_ GE160.out) | exact HB.out)⟩
                              · rw [if_neg c26] at H
                                have c26b0 : decide (x5_1 < 1) = false := decide_eq_false c26
                                clear c26
                                have H' := Aside0.mk H
                                clear H
                                go_wp2
                                go_roundg kj20
                                case measure => have := HK1.out; have := HJ7.out; have := HJ20.out; omega
                                case rel => exact ⟨(x5_1), (wrap64 (x14_1 + 1)), (by first | rfl | (simp; done) | (simp [*]; done)), (by first | rfl | (simp; done) | (simp [*]; done)), H', ⟨by have := HK1.out; have := HJ7.out; have := HJ20.out; omega⟩, ⟨by repeat (first | (with_reducible first | exact HB.out | apply below_alloc | apply pw_below_drewN | apply below_drew1 | refine below_set ?_ GE160.out) | exact HB.out)⟩⟩
                            · rw [if_neg c25] at H
                              have c25b0 : (((rd_T69 l0 x14_1).f0) == 2) = false := beq_eq_false_iff_ne.mpr c25
                              have c25b1 : (((rd_T69 l0 x14_1).f0) != 2) = true := bne_iff_ne.mpr c25
                              have HC27 := Aside0.mk H
                              clear H
                              go_upto_if 50 with (fail)
                              go_cut [50] (fun v50 wc => ∃ (kq : Nat) (x50_26 : Bool), v50 = .bool x50_26 ∧ Aside0 (impl_LogicValid.j3 kq a1 x5_1 l0 (l0.length : Int) x14_1 x50_26 = some r) ∧ Aside0 (kq ≤ kj20) ∧ Aside0 (wc.heap[gb160]? = some (.cells #[.int .i64 ((rd_T69 l0 x14_1).f0), .int .i64 ((rd_T69 l0 x14_1).f1)] 69 (0, 0))) ∧ Aside0 (Below w.heap.size w wc))
                              case first =>
                                have H := HC27.out
                                clear HC27
                                by_cases c28 : ((rd_T69 l0 x14_1).f0) = 3
                                · rw [if_pos c28] at H
                                  have c28b0 : (((rd_T69 l0 x14_1).f0) == 3) = true := beq_iff_eq.mpr c28
                                  have c28b1 : (((rd_T69 l0 x14_1).f0) != 3) = false := bne_eq_false_iff_eq.mpr c28
                                  clear c28
                                  (first | rw [c28b0] | (simp only [i64_w, i32_w]; rw [c28b0]) | skip)
                                  have H' := Aside0.mk H
                                  clear H
                                  go_wp2
                                  go_meet
                                  case rel => exact ⟨_, ((((rd_T69 l0 x14_1).f0) == 3)), (by first | rfl | (simp; done) | (simp [*]; done)), H', ⟨by have := HK1.out; have := HJ7.out; have := HJ20.out; first | omega | exact Nat.le_refl _⟩, ⟨by (with_reducible repeat (first | refine blk_drewN ?_ _ | refine blk_drew ?_ | refine blk_alloc ?_ _)); exact BK160.out⟩, ⟨by repeat (first | (with_reducible first | exact HB.out | apply below_alloc | apply pw_below_drewN | apply below_drew1 | refine below_set ?_ GE160.out) | exact HB.out)⟩⟩
                                · rw [if_neg c28] at H
                                  have c28b0 : (((rd_T69 l0 x14_1).f0) == 3) = false := beq_eq_false_iff_ne.mpr c28
                                  have c28b1 : (((rd_T69 l0 x14_1).f0) != 3) = true := bne_iff_ne.mpr c28
                                  (first | rw [c28b0] | (simp only [i64_w, i32_w]; rw [c28b0]) | skip)
                                  by_cases c29 : ((rd_T69 l0 x14_1).f0) = 4
                                  · rw [if_pos c29] at H
                                    have c29b0 : (((rd_T69 l0 x14_1).f0) == 4) = true := beq_iff_eq.mpr c29
                                    have c29b1 : (((rd_T69 l0 x14_1).f0) != 4) = false := bne_eq_false_iff_eq.mpr c29
                                    clear c29
                                    have H' := Aside0.mk H
                                    clear H
                                    go_wp2
                                    go_meet
                                    case rel => exact ⟨_, ((((rd_T69 l0 x14_1).f0) == 4)), (by first | rfl | (simp; done) | (simp [*]; done)), H', ⟨by have := HK1.out; have := HJ7.out; have := HJ20.out; first | omega | exact Nat.le_refl _⟩, ⟨by (with_reducible repeat (first | refine blk_drewN ?_ _ | refine blk_drew ?_ | refine blk_alloc ?_ _)); exact BK160.out⟩, ⟨by repeat (first | (with_reducible first | exact HB.out | apply below_alloc | apply pw_below_drewN | apply below_drew1 | refine below_set ?_ GE160.out) | exact HB.out)⟩⟩
                                  · rw [if_neg c29] at H
                                    have c29b0 : (((rd_T69 l0 x14_1).f0) == 4) = false := beq_eq_false_iff_ne.mpr c29
                                    have c29b1 : (((rd_T69 l0 x14_1).f0) != 4) = true := bne_iff_ne.mpr c29
                                    have H' := Aside0.mk H
                                    clear H
                                    go_wp2
                                    go_meet
                                    case rel => exact ⟨_, ((((rd_T69 l0 x14_1).f0) == 5)), (by first | rfl | (simp; done) | (simp [*]; done)), H', ⟨by have := HK1.out; have := HJ7.out; have := HJ20.out; first | omega | exact Nat.le_refl _⟩, ⟨by (with_reducible repeat (first | refine blk_drewN ?_ _ | refine blk_drew ?_ | refine blk_alloc ?_ _)); exact BK160.out⟩, ⟨by repeat (first | (with_reducible first | exact HB.out | apply below_alloc | apply pw_below_drewN | apply below_drew1 | refine below_set ?_ GE160.out) | exact HB.out)⟩⟩
                              case rest =>
                                clear HC27
                                try clear c1
                                try clear p1
                                try clear q1
                                try clear hx1
                                try clear c2
                                try clear p2
                                try clear c4
                                try clear c5
                                try clear c5b0
                                try clear c6
                                try clear c6b0
                                try clear p6
                                try clear c7
                                try clear c7b0
                                try clear c11
                                try clear c11b0
                                try clear c11b1
                                try clear c14
                                try clear c15
                                try clear c15b0
                                try clear c15b1
                                try clear p15
                                try clear q15
                                try clear hx15
                                try clear c16
                                try clear c16b0
                                try clear c18
                                try clear c18b0
                                try clear c23
                                try clear c23b0
                                try clear c23b1
                                try clear c24
                                try clear c25
                                try clear c25b0
                                try clear c25b1
                                try clear c26
                                try clear c26b0
                                try clear c28
                                try clear c28b0
                                try clear c28b1
                                try clear c29
                                try clear c29b0
                                try clear c29b1
                                try clear hcz10_0
                                try clear hcz10_1
                                try clear hcz12_0
                                try clear hcz12_1
                                try clear hcz13_0
                                try clear hcz13_1
                                try clear hcz17_0
                                try clear hcz17_1
                                try clear hcz19_0
                                try clear hcz19_1
                                try clear hcz20_0
                                try clear hcz20_1
                                try clear hcz22_0
                                try clear hcz22_1
                                try clear hfz10_0
                                try clear hfz10_1
                                try clear hfz12_0
                                try clear hfz12_1
                                try clear hfz13_0
                                try clear hfz13_1
                                try clear hfz17_0
                                try clear hfz17_1
                                try clear hfz19_0
                                try clear hfz19_1
                                try clear hfz20_0
                                try clear hfz20_1
                                try clear hfz22_0
                                try clear hfz22_1
                                try clear hx159_0
                                try clear hx159_1
                                try clear p1
                                try clear p15
                                try clear p159
                                try clear p2
                                try clear p6
                                try clear q1
                                try clear q15
                                try clear q159
                                obtain ⟨kq, x50_26, rfl, HA, HJ26, BK160, HB⟩ := hcut
                                cases kq with
                                | zero => exact absurd HA.out (by simp [impl_LogicValid.j3])
                                | succ kj26 =>
                                  have H := HA.out
                                  clear HA
                                  simp only [impl_LogicValid.j3] at H
                                  by_cases c30 : x50_26 = true
                                  · subst c30
                                    have H1 : (if x5_1 < 2 then (some false) else (impl_LogicValid.l0 kj26 a1 (wrap64 (x5_1 - 1)) l0 (l0.length : Int) (wrap64 (x14_1 + 1)))) = some r := by rw [if_pos rfl] at H; exact H
                                    clear H
                                    have H := H1
                                    clear H1
                                    by_cases c31 : x5_1 < 2
                                    · rw [if_pos c31] at H
                                      have c31b0 : decide (x5_1 < 2) = true := decide_eq_true c31
                                      clear c31
                                      obtain rfl := Option.some.inj H
                                      go_wp2
                                      go_ret
                                      exact ⟨by first | rfl | (simp [errW_none, errW_some] <;> rfl) | (simp [*, errW_none, errW_some] <;> rfl), by repeat (first | (with_reducible first | exact HB.out | apply below_alloc | apply pw_below_drewN | apply below_drew1 | refine below_set ?_ GE160.out) | exact HB.out)⟩
                                    · rw [if_neg c31] at H
                                      have c31b0 : decide (x5_1 < 2) = false := decide_eq_false c31
                                      clear c31
                                      have H' := Aside0.mk H
                                      clear H
                                      go_wp2
                                      go_roundg kj26
                                      case measure => have := HK1.out; have := HJ7.out; have := HJ20.out; have := HJ26.out; omega
                                      case rel => exact ⟨(wrap64 (x5_1 - 1)), (wrap64 (x14_1 + 1)), (by first | rfl | (simp; done) | (simp [*]; done)), (by first | rfl | (simp; done) | (simp [*]; done)), H', ⟨by have := HK1.out; have := HJ7.out; have := HJ20.out; have := HJ26.out; omega⟩, ⟨by repeat (first | (with_reducible first | exact HB.out | apply below_alloc | apply pw_below_drewN | apply below_drew1 | refine below_set ?_ GE160.out) | exact HB.out)⟩⟩
                                  · replace c30 := Bool.eq_false_iff.mpr c30
                                    subst c30
                                    have H1 : (some false) = some r := by rw [if_neg (show ¬ (false = true) by decide)] at H; exact H
                                    clear H
                                    have H := H1
                                    clear H1
                                    obtain rfl := Option.some.inj H
                                    go_wp2
                                    go_ret
                                    exact ⟨by first | rfl | (simp [errW_none, errW_some] <;> rfl) | (simp [*, errW_none, errW_some] <;> rfl), by repeat (first | (with_reducible first | exact HB.out | apply below_alloc | apply pw_below_drewN | apply below_drew1 | refine below_set ?_ GE160.out) | exact HB.out)⟩
            · rw [if_neg c7] at H
              exact absurd H (by simp)
          · rw [if_neg c6] at H
            exact absurd H (by simp)
        · rw [if_neg c5] at H
          have c5b0 : decide (x14_1 < (l0.length : Int)) = false := decide_eq_false c5
          clear c5
          obtain rfl := Option.some.inj H
          go_wp2
          go_ret
          exact ⟨by first | rfl | (simp [errW_none, errW_some] <;> rfl) | (simp [*, errW_none, errW_some] <;> rfl), by repeat (first | (with_reducible first | exact HB.out | apply below_alloc | apply pw_below_drewN | apply below_drew1) | exact HB.out)⟩
  · replace c4 := Bool.eq_false_iff.mpr c4
    subst c4
    have H1 : (some false) = some r := by rw [if_neg (show ¬ (false = true) by decide)] at H; exact H
    clear H
    have H := H1
    clear H1
    obtain rfl := Option.some.inj H
    go_enter Try.func49, Try.ntmps49
    go_wp2_with (first | ((with_reducible refine gate_callee (f := 48) rfl ?_); refine goesL_ (some 10) rfl rfl Try.func48 (by kernel_rfl) rfl #[.int .i64 (l0.length : Int), .int .i64 1, .int .i64 24] rfl (by (try simp only [List.map_toArray, List.map_cons, List.map_nil]); first | done | rfl | (simp only [List.length_drop, List.length_take]; rfl)) ?_; (with_reducible refine (impl_in.calls (l0.length : Int) 1 24 false _ A3.out).mono ?_); rintro e w' ⟨rfl, ⟨nd, rfl⟩⟩; refine ⟨_, rfl, ?_⟩))
    go_ret
    exact ⟨by first | rfl | (simp [errW_none, errW_some] <;> rfl) | (simp [*, errW_none, errW_some] <;> rfl), by repeat (first | (with_reducible first | exact HB.out | apply below_alloc | apply pw_below_drewN | apply below_drew1) | exact HB.out)⟩

-- NOT PRINTED: function 72 (slices_IndexFunc_int_int)

-- NOT PRINTED: function 68 (slices_ContainsFunc_int_int)

/-! ### impl_isWord: function 70 -/
def impl_isWord.f (a0 : Int) : Option (Bool) := (impl_in.f a0 (-32768) 32767).bind fun t161 => (some t161)
set_option maxHeartbeats 8000000 in
set_option maxRecDepth 100000 in
theorem impl_isWord.calls (a0 : Int) (r : Bool) (w : World) (h : impl_isWord.f a0 = some r) :
    Calls Try.prog 70 #[.int .i64 a0] w fun e w' => e = .returned (.bool r) ∧ Drawn0 w w' := by
  have H : ((impl_in.f a0 (-32768) 32767).bind fun t161 => (some t161)) = some r := h
  clear h
  replace H := Option.bind_eq_some_iff.mp H
  obtain ⟨t161, A20, H⟩ := H
  replace H : (some t161) = some r := H
  have A2 := Aside0.mk A20
  clear A20
  obtain rfl := Option.some.inj H
  go_enter Try.func70, Try.ntmps70
  go_wp2_with (first | ((with_reducible refine gate_callee (f := 48) rfl ?_); refine goesL_ (some 4) rfl rfl Try.func48 (by kernel_rfl) rfl #[.int .i64 a0, .int .i64 (-32768), .int .i64 32767] rfl (by (try simp only [List.map_toArray, List.map_cons, List.map_nil]); first | done | rfl | (simp only [List.length_drop, List.length_take]; rfl)) ?_; (with_reducible refine (impl_in.calls a0 (-32768) 32767 t161 _ A2.out).mono ?_); rintro e w' ⟨rfl, ⟨nd, rfl⟩⟩; refine ⟨_, rfl, ?_⟩))
  go_ret
  exact ⟨by first | rfl | (simp; done) | (simp [*]; done), by repeat (first | exact Drawn0.refl _ | apply Drawn0.step)⟩

-- NOT PRINTED: function 69 (impl_ImageValid_1)

/-! ### impl_ImageValid: function 61 -/
/-- A number that is no word. -/
def impl_ImageValid.bad (x : Int) : Bool := !(decide (-32768 ≤ x) && decide (x ≤ 32767))
def impl_ImageValid.idx (l : List Int) (m : Nat) : Int := Lib.idxBy (fun _ y => impl_ImageValid.bad y) (l.take m) default
theorem impl_ImageValid.closure (x : Int) (w : World) : Calls Try.prog 69 #[.int .i64 x] w fun e w' => e = .returned (.bool (impl_ImageValid.bad x)) ∧ ∃ q, w' = w.drewN q := by
  have h : impl_isWord.f x = some (!impl_ImageValid.bad x) := by
    unfold impl_isWord.f impl_in.f impl_ImageValid.bad
    by_cases h1 : x ≥ -32768
    · rw [if_pos h1]; simp [show -32768 ≤ x from h1]
    · rw [if_neg h1]; simp [show ¬ -32768 ≤ x from h1]
  generalize impl_ImageValid.bad x = b at h ⊢
  go_enter Try.func69, Try.ntmps69
  go_wp2_with (go_at_call 70; refine (impl_isWord.calls x (!b) _ h).mono ?_; rintro e w' ⟨rfl, ⟨⟨nd, rfl⟩⟩⟩)
  go_ret
  exact ⟨by simp, nd, rfl⟩
theorem impl_ImageValid.index0 (A : Option Addr) (c : Nat) (fv : Value) (w : World) :
    Calls Try.prog 72 #[.slice A 0 c, fv] w fun e w' => e = .returned (.int .i64 (-1)) ∧ w' = w := by
  go_enter Try.func72, Try.ntmps72
  go_wp2
  go_loopg [5, 8] 0 (fun _ _ s8 wr => s8 = .int .i64 0 ∧ wr = w)
  case atStart => exact ⟨rfl, rfl⟩
  case round =>
    obtain ⟨rfl, rfl⟩ := hrel
    go_wp2
    go_ret
    exact ⟨rfl, rfl⟩
set_option maxHeartbeats 2000000 in
theorem impl_ImageValid.index (ad : Addr) (c n : Nat) (l : List Int) (w : World) (hn : l.length = n) (hbig : n ≤ 9223372036854775807) (hc : ∀ j, j < n → w.cell? (ad.add j) = some (.int .i64 l[j]!)) :
    Calls Try.prog 72 #[.slice (some ad) n c, .func (.func 69) #[] #[]] w fun e w' => e = .returned (.int .i64 (impl_ImageValid.idx l n)) ∧ ∃ q, w' = w.drewN q := by
  have hcall : ∀ (x : Int) (q : Nat), Calls Try.prog 69 #[.int .i64 x] (w.drewN q) fun e w' => e = .returned (.bool (impl_ImageValid.bad x)) ∧ ∃ q', w' = (w.drewN q).drewN q' := fun x q => impl_ImageValid.closure x _
  have Hn := Aside0.mk hn
  clear hn
  go_enter Try.func72, Try.ntmps72
  go_wp2
  go_loopg [5, 8] n (fun gg _ s8 wr => ∃ kk q : Nat, kk ≤ n ∧ n - kk ≤ gg ∧ s8 = .int .i64 kk ∧ wr = w.drewN q ∧ Aside0 (∀ j, j < kk → impl_ImageValid.bad l[j]! = false))
  case atStart => exact ⟨0, 0, Nat.zero_le _, by omega, rfl, rfl, ⟨fun j hj => absurd hj (Nat.not_lt_zero _)⟩⟩
  case round =>
    obtain ⟨kk, q, hkk, hg, rfl, rfl, HA⟩ := hrel
    by_cases hlt : kk < n
    · have hltz : (kk : Int) < (n : Int) := by omega
      have hcell : w.cell? (ad.add kk) = some (.int .i64 l[kk]!) := hc kk (by omega)
      clear hc
      generalize hy : l[kk]! = y at hcell
      have HB := Aside0.mk hy
      clear hy
      have hcall1 := hcall y
      clear hcall
      cases hq : impl_ImageValid.bad y with
      | true =>
        rw [hq] at hcall1
        have HQ := Aside0.mk hq
        clear hq
        go_wp2_with (go_at_call 69; refine (hcall1 _).mono ?_; rintro e w' ⟨rfl, q', rfl⟩)
        go_ret
        refine ⟨?_, _, rfl⟩
        unfold impl_ImageValid.idx
        rw [Lib.idxBy_hit (fun _ y => impl_ImageValid.bad y) l n kk default hlt (Nat.le_of_eq Hn.out.symm) (by show impl_ImageValid.bad l[kk]! = true; rw [HB.out]; exact HQ.out) HA.out]
        rfl
      | false =>
        rw [hq] at hcall1
        have HQ := Aside0.mk hq
        clear hq
        go_wp2_with (go_at_call 69; refine (hcall1 _).mono ?_; rintro e w' ⟨rfl, q', rfl⟩)
        go_roundg (n - (kk + 1))
        case measure => omega
        case rel =>
          refine ⟨kk + 1, _, by omega, by omega, by go_num, rfl, ⟨fun j hj => ?_⟩⟩
          by_cases e : j = kk
          · subst e
            rw [HB.out]; exact HQ.out
          · exact HA.out j (by omega)
    · have hltz : ¬ (kk : Int) < (n : Int) := by omega
      obtain rfl : kk = n := by omega
      go_wp2
      go_ret
      refine ⟨?_, q, rfl⟩
      unfold impl_ImageValid.idx
      rw [Lib.idxBy_miss (fun _ y => impl_ImageValid.bad y) l kk default HA.out]
      rfl
theorem impl_ImageValid.contains (A : Option Addr) (c : Nat) (l : List Int) (w : World) (hr : Kd.C (Kd.int .i64) w A l.length l) :
    Calls Try.prog 68 #[.slice A l.length c, .func (.func 69) #[] #[]] w fun e w' => e = .returned (.bool (l.any impl_ImageValid.bad)) ∧ ∃ q, w' = w.drewN q := by
  have hi : Calls Try.prog 72 #[.slice A l.length c, .func (.func 69) #[] #[]] w fun e w' => e = .returned (.int .i64 (Lib.idxBy (fun _ y => impl_ImageValid.bad y) l default)) ∧ ∃ q, w' = w.drewN q := by
    rcases Nat.eq_zero_or_pos l.length with h0 | h0
    · have : l = [] := List.eq_nil_of_length_eq_zero h0
      subst this
      exact (impl_ImageValid.index0 A c _ w).mono fun e w' ⟨he, hw⟩ => ⟨he, 0, hw⟩
    · obtain ⟨ad, rfl, hc⟩ := hr.2.2 h0
      have h := impl_ImageValid.index ad c l.length l w rfl hr.2.1 (fun j hj => by
        obtain ⟨ad', he, hcell⟩ := Kd.at_int hr (j : Int) (by omega) (by omega)
        obtain rfl := Option.some.inj he
        rw [show rd l (j : Int) = l[j]! by simp [rd, List.getElem!_eq_getElem?_getD, List.getD_eq_getElem?_getD]] at hcell
        exact hcell)
      unfold impl_ImageValid.idx at h
      rw [List.take_length] at h
      exact h
  rw [show l.any impl_ImageValid.bad = decide (0 ≤ Lib.idxBy (fun _ y => impl_ImageValid.bad y) l default) from (Lib.idxBy_nonneg_iff (fun _ y => impl_ImageValid.bad y) l default).symm]
  generalize Lib.idxBy (fun _ y => impl_ImageValid.bad y) l default = i at hi ⊢
  generalize l.length = n at hi ⊢
  clear hr
  go_enter Try.func68, Try.ntmps68
  go_wp2_with (go_at_call 72; refine hi.mono ?_; rintro e w' ⟨rfl, q, rfl⟩)
  go_ret
  exact ⟨rfl, q, rfl⟩
/-- ImageValid: few bits, few words, all words. -/
def impl_ImageValid.f (l0_0 : List Bool) (l0_1 : List Int) : Option Bool := some (decide ((l0_0.length : Int) ≤ 16) && decide ((l0_1.length : Int) ≤ 8) && !l0_1.any impl_ImageValid.bad)
theorem impl_ImageValid.calls (A0_0 : Option Addr) (c0_0 : Nat) (l0_0 : List Bool) (A0_1 : Option Addr) (c0_1 : Nat) (l0_1 : List Int) (r : Bool) (w : World) (hr0_0 : Kd.C Kd.bool w A0_0 l0_0.length l0_0) (hc0_0 : l0_0.length ≤ c0_0) (hr0_1 : Kd.C (Kd.int .i64) w A0_1 l0_1.length l0_1) (hc0_1 : l0_1.length ≤ c0_1) (h : impl_ImageValid.f l0_0 l0_1 = some r) :
    Calls Try.prog 61 #[.agg #[.slice A0_0 l0_0.length c0_0, .slice A0_1 l0_1.length c0_1]] w fun e w' => e = .returned (.bool r) ∧ Below w.heap.size w w' := by
  obtain rfl := Option.some.inj h
  have hi := fun (o : Obj) => impl_ImageValid.contains A0_1 c0_1 l0_1 (w.alloc o) (Kd.C_alloc hr0_1 o)
  generalize l0_1.any impl_ImageValid.bad = b at hi ⊢
  clear hr0_0 hr0_1 h
  generalize l0_1.length = n at hi hc0_1 ⊢
  generalize l0_0.length = m at hc0_0 ⊢
  have hu := Try.underlying52
  go_enter Try.func61, Try.ntmps61
  by_cases h0 : (m : Int) ≤ 16
  · rw [decide_eq_true h0]
    by_cases h1 : (n : Int) ≤ 8
    · rw [decide_eq_true h1]
      go_wp2_with (go_at_call 68; refine (hi _).mono ?_; rintro e w' ⟨rfl, q, rfl⟩)
      go_ret
      exact ⟨by simp, pw_below_drewN (below_alloc (Below.refl _ _) _) _⟩
    · rw [decide_eq_false h1]
      go_wp2
      go_ret
      exact ⟨by simp, below_alloc (Below.refl _ _) _⟩
  · rw [decide_eq_false h0]
    go_wp2
    go_ret
    exact ⟨by simp, below_alloc (Below.refl _ _) _⟩


-- NOT PRINTED: function 71 (impl_eval_1)

-- NOT PRINTED: function 62 (impl_eval)

-- NOT PRINTED: function 63 (impl_EvalLogic_1)

end Go.Proofs.Ytmphligplngeaaa.GFnExactEvalLogic

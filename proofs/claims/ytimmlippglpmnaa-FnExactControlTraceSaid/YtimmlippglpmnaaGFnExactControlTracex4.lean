/- Functions of the program as Lean functions, with proofs that the machine comes to their answers; written by this session's program mkprint.py; no condition beyond each theorem's own. -/
import Derived.Test.YtimmlippglpmnaaGFnExactControlTracex0
import Derived.Test.YtimmlippglpmnaaGFnExactControlTracex3
namespace Go.Proofs.Ytimmlippglpmnaa.GFnExactControlTrace
open Go.RowKit Go.Proofs.YtimmlippglpmnaaV.PrintWords Go.Proofs.YtimmlippglpmnaaV.PrintLast Go.Proofs.YtimmlippglpmnaaV.PrintMore
attribute [local go_sem] max2_int min2_int max_two min_two max_three min_three max_four min_four   -- for this text's walks alone
set_option linter.unusedVariables false
set_option linter.unusedSimpArgs false

/-! ### impl_ControlValid: function 19 -/
def impl_ControlValid.f (a0_0 : Int) (a0_1 : Int) (a0_2 : Int) (a0_3 : Int) (a0_4 : Int) (a0_5 : Int) (a0_6 : Int) : Option (Bool) := (impl_in.f a0_0 0 4096).bind fun t153 => (if t153 = true then ((impl_in.f a0_1 0 4096).bind fun t154 => (if t154 = true then ((impl_in.f a0_2 0 4096).bind fun t155 => (if t155 = true then ((impl_areWords.f (([a0_3, a0_4, a0_6] : List Int))).bind fun t159 => (if t159 = true then (if a0_3 ≤ a0_4 then ((impl_in.f a0_5 (wrap64 (256 * a0_3)) (wrap64 (256 * a0_4))).bind fun t160 => (some t160)) else (some false)) else (some false))) else (some false))) else (some false))) else (some false))
set_option maxHeartbeats 8000000 in
set_option maxRecDepth 100000 in
theorem impl_ControlValid.calls (a0_0 : Int) (a0_1 : Int) (a0_2 : Int) (a0_3 : Int) (a0_4 : Int) (a0_5 : Int) (a0_6 : Int) (r : Bool) (w : World) (h : impl_ControlValid.f a0_0 a0_1 a0_2 a0_3 a0_4 a0_5 a0_6 = some r) :
    Calls Try.prog 19 #[.agg #[.int .i64 a0_0, .int .i64 a0_1, .int .i64 a0_2, .int .i64 a0_3, .int .i64 a0_4, .int .i64 a0_5, .int .i64 a0_6]] w fun e w' => e = .returned (.bool r) ∧ Below w.heap.size w w' := by
  have hu27 := Try.underlying27
  have HB := Aside0.mk (Below.refl w.heap.size w)
  have H : ((impl_in.f a0_0 0 4096).bind fun t153 => (if t153 = true then ((impl_in.f a0_1 0 4096).bind fun t154 => (if t154 = true then ((impl_in.f a0_2 0 4096).bind fun t155 => (if t155 = true then ((impl_areWords.f (([a0_3, a0_4, a0_6] : List Int))).bind fun t159 => (if t159 = true then (if a0_3 ≤ a0_4 then ((impl_in.f a0_5 (wrap64 (256 * a0_3)) (wrap64 (256 * a0_4))).bind fun t160 => (some t160)) else (some false)) else (some false))) else (some false))) else (some false))) else (some false))) = some r := h
  clear h
  replace H := Option.bind_eq_some_iff.mp H
  obtain ⟨t153, A20, H⟩ := H
  replace H : (if t153 = true then ((impl_in.f a0_1 0 4096).bind fun t154 => (if t154 = true then ((impl_in.f a0_2 0 4096).bind fun t155 => (if t155 = true then ((impl_areWords.f (([a0_3, a0_4, a0_6] : List Int))).bind fun t159 => (if t159 = true then (if a0_3 ≤ a0_4 then ((impl_in.f a0_5 (wrap64 (256 * a0_3)) (wrap64 (256 * a0_4))).bind fun t160 => (some t160)) else (some false)) else (some false))) else (some false))) else (some false))) else (some false)) = some r := H
  have A2 := Aside0.mk A20
  clear A20
  by_cases c3 : t153 = true
  · subst c3
    have H1 : ((impl_in.f a0_1 0 4096).bind fun t154 => (if t154 = true then ((impl_in.f a0_2 0 4096).bind fun t155 => (if t155 = true then ((impl_areWords.f (([a0_3, a0_4, a0_6] : List Int))).bind fun t159 => (if t159 = true then (if a0_3 ≤ a0_4 then ((impl_in.f a0_5 (wrap64 (256 * a0_3)) (wrap64 (256 * a0_4))).bind fun t160 => (some t160)) else (some false)) else (some false))) else (some false))) else (some false))) = some r := by rw [if_pos rfl] at H; exact H
    clear H
    have H := H1
    clear H1
    replace H := Option.bind_eq_some_iff.mp H
    obtain ⟨t154, A40, H⟩ := H
    replace H : (if t154 = true then ((impl_in.f a0_2 0 4096).bind fun t155 => (if t155 = true then ((impl_areWords.f (([a0_3, a0_4, a0_6] : List Int))).bind fun t159 => (if t159 = true then (if a0_3 ≤ a0_4 then ((impl_in.f a0_5 (wrap64 (256 * a0_3)) (wrap64 (256 * a0_4))).bind fun t160 => (some t160)) else (some false)) else (some false))) else (some false))) else (some false)) = some r := H
    have A4 := Aside0.mk A40
    clear A40
    by_cases c5 : t154 = true
    · subst c5
      have H1 : ((impl_in.f a0_2 0 4096).bind fun t155 => (if t155 = true then ((impl_areWords.f (([a0_3, a0_4, a0_6] : List Int))).bind fun t159 => (if t159 = true then (if a0_3 ≤ a0_4 then ((impl_in.f a0_5 (wrap64 (256 * a0_3)) (wrap64 (256 * a0_4))).bind fun t160 => (some t160)) else (some false)) else (some false))) else (some false))) = some r := by rw [if_pos rfl] at H; exact H
      clear H
      have H := H1
      clear H1
      replace H := Option.bind_eq_some_iff.mp H
      obtain ⟨t155, A60, H⟩ := H
      replace H : (if t155 = true then ((impl_areWords.f (([a0_3, a0_4, a0_6] : List Int))).bind fun t159 => (if t159 = true then (if a0_3 ≤ a0_4 then ((impl_in.f a0_5 (wrap64 (256 * a0_3)) (wrap64 (256 * a0_4))).bind fun t160 => (some t160)) else (some false)) else (some false))) else (some false)) = some r := H
      have A6 := Aside0.mk A60
      clear A60
      by_cases c7 : t155 = true
      · subst c7
        have H1 : ((impl_areWords.f (([a0_3, a0_4, a0_6] : List Int))).bind fun t159 => (if t159 = true then (if a0_3 ≤ a0_4 then ((impl_in.f a0_5 (wrap64 (256 * a0_3)) (wrap64 (256 * a0_4))).bind fun t160 => (some t160)) else (some false)) else (some false))) = some r := by rw [if_pos rfl] at H; exact H
        clear H
        have H := H1
        clear H1
        obtain ⟨y156, hy156⟩ : ∃ y_ : List Int, y_ = (([a0_3, a0_4, a0_6] : List Int)) := ⟨_, rfl⟩
        replace H : ((impl_areWords.f y156).bind fun t159 => (if t159 = true then (if a0_3 ≤ a0_4 then ((impl_in.f a0_5 (wrap64 (256 * a0_3)) (wrap64 (256 * a0_4))).bind fun t160 => (some t160)) else (some false)) else (some false))) = some r := by first | (rw [hy156]; with_reducible exact H) | (have H2_ := (Option.bind_some _ _).symm.trans H; rw [hy156]; with_reducible exact H2_) | (have H2_ := (Option.bind_some _ _).symm.trans H; with_reducible exact H2_) | with_reducible exact H | (rw [hy156]; exact H) | exact H
        have Ny156 := Aside0.mk hy156
        clear hy156
        replace H := Option.bind_eq_some_iff.mp H
        obtain ⟨t159, A80, H⟩ := H
        replace H : (if t159 = true then (if a0_3 ≤ a0_4 then ((impl_in.f a0_5 (wrap64 (256 * a0_3)) (wrap64 (256 * a0_4))).bind fun t160 => (some t160)) else (some false)) else (some false)) = some r := H
        have A8 := Aside0.mk A80
        clear A80
        by_cases c9 : t159 = true
        · subst c9
          have H1 : (if a0_3 ≤ a0_4 then ((impl_in.f a0_5 (wrap64 (256 * a0_3)) (wrap64 (256 * a0_4))).bind fun t160 => (some t160)) else (some false)) = some r := by rw [if_pos rfl] at H; exact H
          clear H
          have H := H1
          clear H1
          by_cases c10 : a0_3 ≤ a0_4
          · rw [if_pos c10] at H
            have c10b0 : decide (a0_3 ≤ a0_4) = true := decide_eq_true c10
            clear c10
            replace H := Option.bind_eq_some_iff.mp H
            obtain ⟨t160, A110, H⟩ := H
            replace H : (some t160) = some r := H
            have A11 := Aside0.mk A110
            clear A110
            obtain rfl := Option.some.inj H
            go_enter Try.func19, Try.ntmps19
            go_wp2_with (first | ((with_reducible refine gate_dst (N := 1) rfl ?_); (try (refine gate_guard (by rfl) ?_; dsimp only)); refine box_event ?hg (N := 1) ?hd (cs := #[.int .i64 a0_0, .int .i64 a0_1, .int .i64 a0_2, .int .i64 a0_3, .int .i64 a0_4, .int .i64 a0_5, .int .i64 a0_6]) (t := 27) ?hr ?_; (case hd => rfl); (case hg => rfl); (case hr => first | (go_simp; done) | (go_simp; rfl)); intro gb152 hg w12 hbox hb; have n0_ := Aside0.mk (below_step (by repeat (first | (with_reducible first | exact HB.out | apply below_alloc | apply pw_below_drewN | apply below_drew1) | exact HB.out)) hb); have n1_ := Aside0.mk (hbox); have n2_ := Aside0.mk ((by rw [hg]; exact (below_size (by repeat (first | (with_reducible first | exact HB.out | apply below_alloc | apply pw_below_drewN | apply below_drew1) | exact HB.out))) : w.heap.size ≤ gb152)); have n3_ := Aside0.mk ((by rw [hg]; exact (below_size (by repeat (first | (with_reducible first | exact HB.out | apply below_alloc | apply pw_below_drewN | apply below_drew1) | exact HB.out))) : w.heap.size ≤ gb152)); clear HB; have HB := n0_; have BK152 := n1_; have GW152 := n2_; have GE152 := n3_; clear n0_ n1_ n2_ n3_; clear hb hbox hg; have hcz13_0 : w12.cell? ⟨gb152, 0, none⟩ = some (.int .i64 a0_0) := (blk_cell BK152.out 0).trans rfl; have hcz13_1 : w12.cell? ⟨gb152, 1, none⟩ = some (.int .i64 a0_1) := (blk_cell BK152.out 1).trans rfl; have hcz13_2 : w12.cell? ⟨gb152, 2, none⟩ = some (.int .i64 a0_2) := (blk_cell BK152.out 2).trans rfl; have hcz13_3 : w12.cell? ⟨gb152, 3, none⟩ = some (.int .i64 a0_3) := (blk_cell BK152.out 3).trans rfl; have hcz13_4 : w12.cell? ⟨gb152, 4, none⟩ = some (.int .i64 a0_4) := (blk_cell BK152.out 4).trans rfl; have hcz13_5 : w12.cell? ⟨gb152, 5, none⟩ = some (.int .i64 a0_5) := (blk_cell BK152.out 5).trans rfl; have hcz13_6 : w12.cell? ⟨gb152, 6, none⟩ = some (.int .i64 a0_6) := (blk_cell BK152.out 6).trans rfl; have hfz13_0 := blk_frozen BK152.out 0; have hfz13_1 := blk_frozen BK152.out 1; have hfz13_2 := blk_frozen BK152.out 2; have hfz13_3 := blk_frozen BK152.out 3; have hfz13_4 := blk_frozen BK152.out 4; have hfz13_5 := blk_frozen BK152.out 5; have hfz13_6 := blk_frozen BK152.out 6) | ((with_reducible refine gate_callee (f := 58) rfl ?_); refine goesL_ (some 5) rfl rfl Try.func58 (by kernel_rfl) rfl #[.int .i64 a0_0, .int .i64 0, .int .i64 4096] rfl (by (try simp only [List.map_toArray, List.map_cons, List.map_nil]); first | done | rfl | (simp only [List.length_drop, List.length_take]; rfl)) ?_; (with_reducible refine (impl_in.calls a0_0 0 4096 true _ A2.out).mono ?_); rintro e w' ⟨rfl, ⟨nd, rfl⟩⟩; refine ⟨_, rfl, ?_⟩) | (go_at_call 58; (with_reducible refine (impl_in.calls a0_1 0 4096 true _ A4.out).mono ?_); rintro e w' ⟨rfl, ⟨nd, rfl⟩⟩) | (go_at_call 58; (with_reducible refine (impl_in.calls a0_2 0 4096 true _ A6.out).mono ?_); rintro e w' ⟨rfl, ⟨nd, rfl⟩⟩) | ((with_reducible refine gate_dst (N := 23) rfl ?_); (try (refine gate_guard (by rfl) ?_; dsimp only)); refine Kd.R_lit (Kd.int .i64) _ 3 ?hg (N := 23) ?hd (xs := ([a0_3, a0_4, a0_6] : List Int)) (inner := [.int .i64 a0_3, .int .i64 a0_4, .int .i64 a0_6]) (ok := fun _ => True) (okp := fun _ => True) ?hr ?hp (fun _ hk => hk) trivial (Below.refl _ _) (Nat.le_refl _) (by simp) ?_; (case hd => rfl); (case hg => rfl); (case hr => first | (go_simp; done) | (go_simp; rfl)); (case hp => exact (Reps.one (show Kd.M (Kd.int .i64) _ _ _ a0_3 [.int .i64 a0_3] from rfl) (Reps.one (show Kd.M (Kd.int .i64) _ _ _ a0_4 [.int .i64 a0_4] from rfl) (Reps.one (show Kd.M (Kd.int .i64) _ _ _ a0_6 [.int .i64 a0_6] from rfl) (Reps.none _ _))))); intro v157 w14 ho15 hb hg_ hnew_; clear hg_ hnew_; (first | rw [← Ny156.out] at ho15 | (simp only [Int.reduceToNat] at ho15; rw [← Ny156.out] at ho15)); have n0_ := Aside0.mk (Kd.R_lower ho15 (below_size (by repeat (first | (with_reducible first | exact HB.out | apply below_alloc | apply pw_below_drewN | apply below_drew1 | refine below_set ?_ GE152.out) | exact HB.out)))); have n1_ := Aside0.mk (blk_below (g := gb152) (o := .cells #[.int .i64 a0_0, .int .i64 a0_1, .int .i64 a0_2, .int .i64 a0_3, .int .i64 a0_4, .int .i64 a0_5, .int .i64 a0_6] 27 (0, 0)) (by (with_reducible repeat (first | refine blk_drewN ?_ _ | refine blk_drew ?_ | refine blk_alloc ?_ _)); exact BK152.out) hb); have n2_ := Aside0.mk (below_step (by repeat (first | (with_reducible first | exact HB.out | apply below_alloc | apply pw_below_drewN | apply below_drew1 | refine below_set ?_ GE152.out) | exact HB.out)) hb); clear BK152; clear HB; have HO158 := n0_; have BK152 := n1_; have HB := n2_; clear n0_ n1_ n2_; clear hb ho15; obtain ⟨Ao16, co16, eo16⟩ := Kd.R_slice HO158.out; subst eo16) | (go_at_call 55; (with_reducible refine (impl_areWords.calls _ _ y156 true _ ?side1 ?side2 A8.out).mono ?_); (case side1 => repeat (first | exact (Kd.R_reads' HO158.out).2.2 | (with_reducible refine Kd.C_alloc ?_ _) | (with_reducible refine Kd.C_drewN ?_ _) | (with_reducible refine Kd.C_drew ?_))); (case side2 => exact (Kd.R_reads' HO158.out).2.1); rintro e w' ⟨rfl, ⟨nd, rfl⟩⟩; have hcz17_0 : w14.cell? ⟨gb152, 0, none⟩ = some (.int .i64 a0_0) := (blk_cell BK152.out 0).trans rfl; have hcz17_1 : w14.cell? ⟨gb152, 1, none⟩ = some (.int .i64 a0_1) := (blk_cell BK152.out 1).trans rfl; have hcz17_2 : w14.cell? ⟨gb152, 2, none⟩ = some (.int .i64 a0_2) := (blk_cell BK152.out 2).trans rfl; have hcz17_3 : w14.cell? ⟨gb152, 3, none⟩ = some (.int .i64 a0_3) := (blk_cell BK152.out 3).trans rfl; have hcz17_4 : w14.cell? ⟨gb152, 4, none⟩ = some (.int .i64 a0_4) := (blk_cell BK152.out 4).trans rfl; have hcz17_5 : w14.cell? ⟨gb152, 5, none⟩ = some (.int .i64 a0_5) := (blk_cell BK152.out 5).trans rfl; have hcz17_6 : w14.cell? ⟨gb152, 6, none⟩ = some (.int .i64 a0_6) := (blk_cell BK152.out 6).trans rfl; have hfz17_0 := blk_frozen BK152.out 0; have hfz17_1 := blk_frozen BK152.out 1; have hfz17_2 := blk_frozen BK152.out 2; have hfz17_3 := blk_frozen BK152.out 3; have hfz17_4 := blk_frozen BK152.out 4; have hfz17_5 := blk_frozen BK152.out 5; have hfz17_6 := blk_frozen BK152.out 6) | (go_at_call 58; (with_reducible refine (impl_in.calls a0_5 (wrap64 (256 * a0_3)) (wrap64 (256 * a0_4)) t160 _ A11.out).mono ?_); rintro e w' ⟨rfl, ⟨nd, rfl⟩⟩))
            go_ret
            exact ⟨by first | rfl | (simp [errW_none, errW_some] <;> rfl) | (simp [*, errW_none, errW_some] <;> rfl), by repeat (first | (with_reducible first | exact HB.out | apply below_alloc | apply pw_below_drewN | apply below_drew1 | refine below_set ?_ GE152.out) | exact HB.out)⟩
          · rw [if_neg c10] at H
            have c10b0 : decide (a0_3 ≤ a0_4) = false := decide_eq_false c10
            clear c10
            obtain rfl := Option.some.inj H
            go_enter Try.func19, Try.ntmps19
            go_wp2_with (first | ((with_reducible refine gate_dst (N := 1) rfl ?_); (try (refine gate_guard (by rfl) ?_; dsimp only)); refine box_event ?hg (N := 1) ?hd (cs := #[.int .i64 a0_0, .int .i64 a0_1, .int .i64 a0_2, .int .i64 a0_3, .int .i64 a0_4, .int .i64 a0_5, .int .i64 a0_6]) (t := 27) ?hr ?_; (case hd => rfl); (case hg => rfl); (case hr => first | (go_simp; done) | (go_simp; rfl)); intro gb152 hg w18 hbox hb; have n0_ := Aside0.mk (below_step (by repeat (first | (with_reducible first | exact HB.out | apply below_alloc | apply pw_below_drewN | apply below_drew1) | exact HB.out)) hb); have n1_ := Aside0.mk (hbox); have n2_ := Aside0.mk ((by rw [hg]; exact (below_size (by repeat (first | (with_reducible first | exact HB.out | apply below_alloc | apply pw_below_drewN | apply below_drew1) | exact HB.out))) : w.heap.size ≤ gb152)); have n3_ := Aside0.mk ((by rw [hg]; exact (below_size (by repeat (first | (with_reducible first | exact HB.out | apply below_alloc | apply pw_below_drewN | apply below_drew1) | exact HB.out))) : w.heap.size ≤ gb152)); clear HB; have HB := n0_; have BK152 := n1_; have GW152 := n2_; have GE152 := n3_; clear n0_ n1_ n2_ n3_; clear hb hbox hg; have hcz19_0 : w18.cell? ⟨gb152, 0, none⟩ = some (.int .i64 a0_0) := (blk_cell BK152.out 0).trans rfl; have hcz19_1 : w18.cell? ⟨gb152, 1, none⟩ = some (.int .i64 a0_1) := (blk_cell BK152.out 1).trans rfl; have hcz19_2 : w18.cell? ⟨gb152, 2, none⟩ = some (.int .i64 a0_2) := (blk_cell BK152.out 2).trans rfl; have hcz19_3 : w18.cell? ⟨gb152, 3, none⟩ = some (.int .i64 a0_3) := (blk_cell BK152.out 3).trans rfl; have hcz19_4 : w18.cell? ⟨gb152, 4, none⟩ = some (.int .i64 a0_4) := (blk_cell BK152.out 4).trans rfl; have hcz19_5 : w18.cell? ⟨gb152, 5, none⟩ = some (.int .i64 a0_5) := (blk_cell BK152.out 5).trans rfl; have hcz19_6 : w18.cell? ⟨gb152, 6, none⟩ = some (.int .i64 a0_6) := (blk_cell BK152.out 6).trans rfl; have hfz19_0 := blk_frozen BK152.out 0; have hfz19_1 := blk_frozen BK152.out 1; have hfz19_2 := blk_frozen BK152.out 2; have hfz19_3 := blk_frozen BK152.out 3; have hfz19_4 := blk_frozen BK152.out 4; have hfz19_5 := blk_frozen BK152.out 5; have hfz19_6 := blk_frozen BK152.out 6) | ((with_reducible refine gate_callee (f := 58) rfl ?_); refine goesL_ (some 5) rfl rfl Try.func58 (by kernel_rfl) rfl #[.int .i64 a0_0, .int .i64 0, .int .i64 4096] rfl (by (try simp only [List.map_toArray, List.map_cons, List.map_nil]); first | done | rfl | (simp only [List.length_drop, List.length_take]; rfl)) ?_; (with_reducible refine (impl_in.calls a0_0 0 4096 true _ A2.out).mono ?_); rintro e w' ⟨rfl, ⟨nd, rfl⟩⟩; refine ⟨_, rfl, ?_⟩) | (go_at_call 58; (with_reducible refine (impl_in.calls a0_1 0 4096 true _ A4.out).mono ?_); rintro e w' ⟨rfl, ⟨nd, rfl⟩⟩) | (go_at_call 58; (with_reducible refine (impl_in.calls a0_2 0 4096 true _ A6.out).mono ?_); rintro e w' ⟨rfl, ⟨nd, rfl⟩⟩) | ((with_reducible refine gate_dst (N := 23) rfl ?_); (try (refine gate_guard (by rfl) ?_; dsimp only)); refine Kd.R_lit (Kd.int .i64) _ 3 ?hg (N := 23) ?hd (xs := ([a0_3, a0_4, a0_6] : List Int)) (inner := [.int .i64 a0_3, .int .i64 a0_4, .int .i64 a0_6]) (ok := fun _ => True) (okp := fun _ => True) ?hr ?hp (fun _ hk => hk) trivial (Below.refl _ _) (Nat.le_refl _) (by simp) ?_; (case hd => rfl); (case hg => rfl); (case hr => first | (go_simp; done) | (go_simp; rfl)); (case hp => exact (Reps.one (show Kd.M (Kd.int .i64) _ _ _ a0_3 [.int .i64 a0_3] from rfl) (Reps.one (show Kd.M (Kd.int .i64) _ _ _ a0_4 [.int .i64 a0_4] from rfl) (Reps.one (show Kd.M (Kd.int .i64) _ _ _ a0_6 [.int .i64 a0_6] from rfl) (Reps.none _ _))))); intro v157 w20 ho21 hb hg_ hnew_; clear hg_ hnew_; (first | rw [← Ny156.out] at ho21 | (simp only [Int.reduceToNat] at ho21; rw [← Ny156.out] at ho21)); have n0_ := Aside0.mk (Kd.R_lower ho21 (below_size (by repeat (first | (with_reducible first | exact HB.out | apply below_alloc | apply pw_below_drewN | apply below_drew1 | refine below_set ?_ GE152.out) | exact HB.out)))); have n1_ := Aside0.mk (blk_below (g := gb152) (o := .cells #[.int .i64 a0_0, .int .i64 a0_1, .int .i64 a0_2, .int .i64 a0_3, .int .i64 a0_4, .int .i64 a0_5, .int .i64 a0_6] 27 (0, 0)) (by (with_reducible repeat (first | refine blk_drewN ?_ _ | refine blk_drew ?_ | refine blk_alloc ?_ _)); exact BK152.out) hb); have n2_ := Aside0.mk (below_step (by repeat (first | (with_reducible first | exact HB.out | apply below_alloc | apply pw_below_drewN | apply below_drew1 | refine below_set ?_ GE152.out) | exact HB.out)) hb); clear BK152; clear HB; have HO158 := n0_; have BK152 := n1_; have HB := n2_; clear n0_ n1_ n2_; clear hb ho21; obtain ⟨Ao22, co22, eo22⟩ := Kd.R_slice HO158.out; subst eo22) | (go_at_call 55; (with_reducible refine (impl_areWords.calls _ _ y156 true _ ?side1 ?side2 A8.out).mono ?_); (case side1 => repeat (first | exact (Kd.R_reads' HO158.out).2.2 | (with_reducible refine Kd.C_alloc ?_ _) | (with_reducible refine Kd.C_drewN ?_ _) | (with_reducible refine Kd.C_drew ?_))); (case side2 => exact (Kd.R_reads' HO158.out).2.1); rintro e w' ⟨rfl, ⟨nd, rfl⟩⟩; have hcz23_0 : w20.cell? ⟨gb152, 0, none⟩ = some (.int .i64 a0_0) := (blk_cell BK152.out 0).trans rfl; have hcz23_1 : w20.cell? ⟨gb152, 1, none⟩ = some (.int .i64 a0_1) := (blk_cell BK152.out 1).trans rfl; have hcz23_2 : w20.cell? ⟨gb152, 2, none⟩ = some (.int .i64 a0_2) := (blk_cell BK152.out 2).trans rfl; have hcz23_3 : w20.cell? ⟨gb152, 3, none⟩ = some (.int .i64 a0_3) := (blk_cell BK152.out 3).trans rfl; have hcz23_4 : w20.cell? ⟨gb152, 4, none⟩ = some (.int .i64 a0_4) := (blk_cell BK152.out 4).trans rfl; have hcz23_5 : w20.cell? ⟨gb152, 5, none⟩ = some (.int .i64 a0_5) := (blk_cell BK152.out 5).trans rfl; have hcz23_6 : w20.cell? ⟨gb152, 6, none⟩ = some (.int .i64 a0_6) := (blk_cell BK152.out 6).trans rfl; have hfz23_0 := blk_frozen BK152.out 0; have hfz23_1 := blk_frozen BK152.out 1; have hfz23_2 := blk_frozen BK152.out 2; have hfz23_3 := blk_frozen BK152.out 3; have hfz23_4 := blk_frozen BK152.out 4; have hfz23_5 := blk_frozen BK152.out 5; have hfz23_6 := blk_frozen BK152.out 6))
            go_ret
            exact ⟨by first | rfl | (simp [errW_none, errW_some] <;> rfl) | (simp [*, errW_none, errW_some] <;> rfl), by repeat (first | (with_reducible first | exact HB.out | apply below_alloc | apply pw_below_drewN | apply below_drew1 | refine below_set ?_ GE152.out) | exact HB.out)⟩
        · replace c9 := Bool.eq_false_iff.mpr c9
          subst c9
          have H1 : (some false) = some r := by rw [if_neg (show ¬ (false = true) by decide)] at H; exact H
          clear H
          have H := H1
          clear H1
          obtain rfl := Option.some.inj H
          go_enter Try.func19, Try.ntmps19
          go_wp2_with (first | ((with_reducible refine gate_dst (N := 1) rfl ?_); (try (refine gate_guard (by rfl) ?_; dsimp only)); refine box_event ?hg (N := 1) ?hd (cs := #[.int .i64 a0_0, .int .i64 a0_1, .int .i64 a0_2, .int .i64 a0_3, .int .i64 a0_4, .int .i64 a0_5, .int .i64 a0_6]) (t := 27) ?hr ?_; (case hd => rfl); (case hg => rfl); (case hr => first | (go_simp; done) | (go_simp; rfl)); intro gb152 hg w24 hbox hb; have n0_ := Aside0.mk (below_step (by repeat (first | (with_reducible first | exact HB.out | apply below_alloc | apply pw_below_drewN | apply below_drew1) | exact HB.out)) hb); have n1_ := Aside0.mk (hbox); have n2_ := Aside0.mk ((by rw [hg]; exact (below_size (by repeat (first | (with_reducible first | exact HB.out | apply below_alloc | apply pw_below_drewN | apply below_drew1) | exact HB.out))) : w.heap.size ≤ gb152)); have n3_ := Aside0.mk ((by rw [hg]; exact (below_size (by repeat (first | (with_reducible first | exact HB.out | apply below_alloc | apply pw_below_drewN | apply below_drew1) | exact HB.out))) : w.heap.size ≤ gb152)); clear HB; have HB := n0_; have BK152 := n1_; have GW152 := n2_; have GE152 := n3_; clear n0_ n1_ n2_ n3_; clear hb hbox hg; have hcz25_0 : w24.cell? ⟨gb152, 0, none⟩ = some (.int .i64 a0_0) := (blk_cell BK152.out 0).trans rfl; have hcz25_1 : w24.cell? ⟨gb152, 1, none⟩ = some (.int .i64 a0_1) := (blk_cell BK152.out 1).trans rfl; have hcz25_2 : w24.cell? ⟨gb152, 2, none⟩ = some (.int .i64 a0_2) := (blk_cell BK152.out 2).trans rfl; have hcz25_3 : w24.cell? ⟨gb152, 3, none⟩ = some (.int .i64 a0_3) := (blk_cell BK152.out 3).trans rfl; have hcz25_4 : w24.cell? ⟨gb152, 4, none⟩ = some (.int .i64 a0_4) := (blk_cell BK152.out 4).trans rfl; have hcz25_5 : w24.cell? ⟨gb152, 5, none⟩ = some (.int .i64 a0_5) := (blk_cell BK152.out 5).trans rfl; have hcz25_6 : w24.cell? ⟨gb152, 6, none⟩ = some (.int .i64 a0_6) := (blk_cell BK152.out 6).trans rfl; have hfz25_0 := blk_frozen BK152.out 0; have hfz25_1 := blk_frozen BK152.out 1; have hfz25_2 := blk_frozen BK152.out 2; have hfz25_3 := blk_frozen BK152.out 3; have hfz25_4 := blk_frozen BK152.out 4; have hfz25_5 := blk_frozen BK152.out 5; have hfz25_6 := blk_frozen BK152.out 6) | ((with_reducible refine gate_callee (f := 58) rfl ?_); refine goesL_ (some 5) rfl rfl Try.func58 (by kernel_rfl) rfl #[.int .i64 a0_0, .int .i64 0, .int .i64 4096] rfl (by (try simp only [List.map_toArray, List.map_cons, List.map_nil]); first | done | rfl | (simp only [List.length_drop, List.length_take]; rfl)) ?_; (with_reducible refine (impl_in.calls a0_0 0 4096 true _ A2.out).mono ?_); rintro e w' ⟨rfl, ⟨nd, rfl⟩⟩; refine ⟨_, rfl, ?_⟩) | (go_at_call 58; (with_reducible refine (impl_in.calls a0_1 0 4096 true _ A4.out).mono ?_); rintro e w' ⟨rfl, ⟨nd, rfl⟩⟩) | (go_at_call 58; (with_reducible refine (impl_in.calls a0_2 0 4096 true _ A6.out).mono ?_); rintro e w' ⟨rfl, ⟨nd, rfl⟩⟩) | ((with_reducible refine gate_dst (N := 23) rfl ?_); (try (refine gate_guard (by rfl) ?_; dsimp only)); refine Kd.R_lit (Kd.int .i64) _ 3 ?hg (N := 23) ?hd (xs := ([a0_3, a0_4, a0_6] : List Int)) (inner := [.int .i64 a0_3, .int .i64 a0_4, .int .i64 a0_6]) (ok := fun _ => True) (okp := fun _ => True) ?hr ?hp (fun _ hk => hk) trivial (Below.refl _ _) (Nat.le_refl _) (by simp) ?_; (case hd => rfl); (case hg => rfl); (case hr => first | (go_simp; done) | (go_simp; rfl)); (case hp => exact (Reps.one (show Kd.M (Kd.int .i64) _ _ _ a0_3 [.int .i64 a0_3] from rfl) (Reps.one (show Kd.M (Kd.int .i64) _ _ _ a0_4 [.int .i64 a0_4] from rfl) (Reps.one (show Kd.M (Kd.int .i64) _ _ _ a0_6 [.int .i64 a0_6] from rfl) (Reps.none _ _))))); intro v157 w26 ho27 hb hg_ hnew_; clear hg_ hnew_; (first | rw [← Ny156.out] at ho27 | (simp only [Int.reduceToNat] at ho27; rw [← Ny156.out] at ho27)); have n0_ := Aside0.mk (Kd.R_lower ho27 (below_size (by repeat (first | (with_reducible first | exact HB.out | apply below_alloc | apply pw_below_drewN | apply below_drew1 | refine below_set ?_ GE152.out) | exact HB.out)))); have n1_ := Aside0.mk (blk_below (g := gb152) (o := .cells #[.int .i64 a0_0, .int .i64 a0_1, .int .i64 a0_2, .int .i64 a0_3, .int .i64 a0_4, .int .i64 a0_5, .int .i64 a0_6] 27 (0, 0)) (by (with_reducible repeat (first | refine blk_drewN ?_ _ | refine blk_drew ?_ | refine blk_alloc ?_ _)); exact BK152.out) hb); have n2_ := Aside0.mk (below_step (by repeat (first | (with_reducible first | exact HB.out | apply below_alloc | apply pw_below_drewN | apply below_drew1 | refine below_set ?_ GE152.out) | exact HB.out)) hb); clear BK152; clear HB; have HO158 := n0_; have BK152 := n1_; have HB := n2_; clear n0_ n1_ n2_; clear hb ho27; obtain ⟨Ao28, co28, eo28⟩ := Kd.R_slice HO158.out; subst eo28) | (go_at_call 55; (with_reducible refine (impl_areWords.calls _ _ y156 false _ ?side1 ?side2 A8.out).mono ?_); (case side1 => repeat (first | exact (Kd.R_reads' HO158.out).2.2 | (with_reducible refine Kd.C_alloc ?_ _) | (with_reducible refine Kd.C_drewN ?_ _) | (with_reducible refine Kd.C_drew ?_))); (case side2 => exact (Kd.R_reads' HO158.out).2.1); rintro e w' ⟨rfl, ⟨nd, rfl⟩⟩))
          go_ret
          exact ⟨by first | rfl | (simp [errW_none, errW_some] <;> rfl) | (simp [*, errW_none, errW_some] <;> rfl), by repeat (first | (with_reducible first | exact HB.out | apply below_alloc | apply pw_below_drewN | apply below_drew1 | refine below_set ?_ GE152.out) | exact HB.out)⟩
      · replace c7 := Bool.eq_false_iff.mpr c7
        subst c7
        have H1 : (some false) = some r := by rw [if_neg (show ¬ (false = true) by decide)] at H; exact H
        clear H
        have H := H1
        clear H1
        obtain rfl := Option.some.inj H
        go_enter Try.func19, Try.ntmps19
        go_wp2_with (first | ((with_reducible refine gate_dst (N := 1) rfl ?_); (try (refine gate_guard (by rfl) ?_; dsimp only)); refine box_event ?hg (N := 1) ?hd (cs := #[.int .i64 a0_0, .int .i64 a0_1, .int .i64 a0_2, .int .i64 a0_3, .int .i64 a0_4, .int .i64 a0_5, .int .i64 a0_6]) (t := 27) ?hr ?_; (case hd => rfl); (case hg => rfl); (case hr => first | (go_simp; done) | (go_simp; rfl)); intro gb152 hg w29 hbox hb; have n0_ := Aside0.mk (below_step (by repeat (first | (with_reducible first | exact HB.out | apply below_alloc | apply pw_below_drewN | apply below_drew1) | exact HB.out)) hb); have n1_ := Aside0.mk (hbox); have n2_ := Aside0.mk ((by rw [hg]; exact (below_size (by repeat (first | (with_reducible first | exact HB.out | apply below_alloc | apply pw_below_drewN | apply below_drew1) | exact HB.out))) : w.heap.size ≤ gb152)); have n3_ := Aside0.mk ((by rw [hg]; exact (below_size (by repeat (first | (with_reducible first | exact HB.out | apply below_alloc | apply pw_below_drewN | apply below_drew1) | exact HB.out))) : w.heap.size ≤ gb152)); clear HB; have HB := n0_; have BK152 := n1_; have GW152 := n2_; have GE152 := n3_; clear n0_ n1_ n2_ n3_; clear hb hbox hg; have hcz30_0 : w29.cell? ⟨gb152, 0, none⟩ = some (.int .i64 a0_0) := (blk_cell BK152.out 0).trans rfl; have hcz30_1 : w29.cell? ⟨gb152, 1, none⟩ = some (.int .i64 a0_1) := (blk_cell BK152.out 1).trans rfl; have hcz30_2 : w29.cell? ⟨gb152, 2, none⟩ = some (.int .i64 a0_2) := (blk_cell BK152.out 2).trans rfl; have hcz30_3 : w29.cell? ⟨gb152, 3, none⟩ = some (.int .i64 a0_3) := (blk_cell BK152.out 3).trans rfl; have hcz30_4 : w29.cell? ⟨gb152, 4, none⟩ = some (.int .i64 a0_4) := (blk_cell BK152.out 4).trans rfl; have hcz30_5 : w29.cell? ⟨gb152, 5, none⟩ = some (.int .i64 a0_5) := (blk_cell BK152.out 5).trans rfl; have hcz30_6 : w29.cell? ⟨gb152, 6, none⟩ = some (.int .i64 a0_6) := (blk_cell BK152.out 6).trans rfl; have hfz30_0 := blk_frozen BK152.out 0; have hfz30_1 := blk_frozen BK152.out 1; have hfz30_2 := blk_frozen BK152.out 2; have hfz30_3 := blk_frozen BK152.out 3; have hfz30_4 := blk_frozen BK152.out 4; have hfz30_5 := blk_frozen BK152.out 5; have hfz30_6 := blk_frozen BK152.out 6) | ((with_reducible refine gate_callee (f := 58) rfl ?_); refine goesL_ (some 5) rfl rfl Try.func58 (by kernel_rfl) rfl #[.int .i64 a0_0, .int .i64 0, .int .i64 4096] rfl (by (try simp only [List.map_toArray, List.map_cons, List.map_nil]); first | done | rfl | (simp only [List.length_drop, List.length_take]; rfl)) ?_; (with_reducible refine (impl_in.calls a0_0 0 4096 true _ A2.out).mono ?_); rintro e w' ⟨rfl, ⟨nd, rfl⟩⟩; refine ⟨_, rfl, ?_⟩) | (go_at_call 58; (with_reducible refine (impl_in.calls a0_1 0 4096 true _ A4.out).mono ?_); rintro e w' ⟨rfl, ⟨nd, rfl⟩⟩) | (go_at_call 58; (with_reducible refine (impl_in.calls a0_2 0 4096 false _ A6.out).mono ?_); rintro e w' ⟨rfl, ⟨nd, rfl⟩⟩))
        go_ret
        exact ⟨by first | rfl | (simp [errW_none, errW_some] <;> rfl) | (simp [*, errW_none, errW_some] <;> rfl), by repeat (first | (with_reducible first | exact HB.out | apply below_alloc | apply pw_below_drewN | apply below_drew1 | refine below_set ?_ GE152.out) | exact HB.out)⟩
    · replace c5 := Bool.eq_false_iff.mpr c5
      subst c5
      have H1 : (some false) = some r := by rw [if_neg (show ¬ (false = true) by decide)] at H; exact H
      clear H
      have H := H1
      clear H1
      obtain rfl := Option.some.inj H
      go_enter Try.func19, Try.ntmps19
      go_wp2_with (first | ((with_reducible refine gate_dst (N := 1) rfl ?_); (try (refine gate_guard (by rfl) ?_; dsimp only)); refine box_event ?hg (N := 1) ?hd (cs := #[.int .i64 a0_0, .int .i64 a0_1, .int .i64 a0_2, .int .i64 a0_3, .int .i64 a0_4, .int .i64 a0_5, .int .i64 a0_6]) (t := 27) ?hr ?_; (case hd => rfl); (case hg => rfl); (case hr => first | (go_simp; done) | (go_simp; rfl)); intro gb152 hg w31 hbox hb; have n0_ := Aside0.mk (below_step (by repeat (first | (with_reducible first | exact HB.out | apply below_alloc | apply pw_below_drewN | apply below_drew1) | exact HB.out)) hb); have n1_ := Aside0.mk (hbox); have n2_ := Aside0.mk ((by rw [hg]; exact (below_size (by repeat (first | (with_reducible first | exact HB.out | apply below_alloc | apply pw_below_drewN | apply below_drew1) | exact HB.out))) : w.heap.size ≤ gb152)); have n3_ := Aside0.mk ((by rw [hg]; exact (below_size (by repeat (first | (with_reducible first | exact HB.out | apply below_alloc | apply pw_below_drewN | apply below_drew1) | exact HB.out))) : w.heap.size ≤ gb152)); clear HB; have HB := n0_; have BK152 := n1_; have GW152 := n2_; have GE152 := n3_; clear n0_ n1_ n2_ n3_; clear hb hbox hg; have hcz32_0 : w31.cell? ⟨gb152, 0, none⟩ = some (.int .i64 a0_0) := (blk_cell BK152.out 0).trans rfl; have hcz32_1 : w31.cell? ⟨gb152, 1, none⟩ = some (.int .i64 a0_1) := (blk_cell BK152.out 1).trans rfl; have hcz32_2 : w31.cell? ⟨gb152, 2, none⟩ = some (.int .i64 a0_2) := (blk_cell BK152.out 2).trans rfl; have hcz32_3 : w31.cell? ⟨gb152, 3, none⟩ = some (.int .i64 a0_3) := (blk_cell BK152.out 3).trans rfl; have hcz32_4 : w31.cell? ⟨gb152, 4, none⟩ = some (.int .i64 a0_4) := (blk_cell BK152.out 4).trans rfl; have hcz32_5 : w31.cell? ⟨gb152, 5, none⟩ = some (.int .i64 a0_5) := (blk_cell BK152.out 5).trans rfl; have hcz32_6 : w31.cell? ⟨gb152, 6, none⟩ = some (.int .i64 a0_6) := (blk_cell BK152.out 6).trans rfl; have hfz32_0 := blk_frozen BK152.out 0; have hfz32_1 := blk_frozen BK152.out 1; have hfz32_2 := blk_frozen BK152.out 2; have hfz32_3 := blk_frozen BK152.out 3; have hfz32_4 := blk_frozen BK152.out 4; have hfz32_5 := blk_frozen BK152.out 5; have hfz32_6 := blk_frozen BK152.out 6) | ((with_reducible refine gate_callee (f := 58) rfl ?_); refine goesL_ (some 5) rfl rfl Try.func58 (by kernel_rfl) rfl #[.int .i64 a0_0, .int .i64 0, .int .i64 4096] rfl (by (try simp only [List.map_toArray, List.map_cons, List.map_nil]); first | done | rfl | (simp only [List.length_drop, List.length_take]; rfl)) ?_; (with_reducible refine (impl_in.calls a0_0 0 4096 true _ A2.out).mono ?_); rintro e w' ⟨rfl, ⟨nd, rfl⟩⟩; refine ⟨_, rfl, ?_⟩) | (go_at_call 58; (with_reducible refine (impl_in.calls a0_1 0 4096 false _ A4.out).mono ?_); rintro e w' ⟨rfl, ⟨nd, rfl⟩⟩))
      go_ret
      exact ⟨by first | rfl | (simp [errW_none, errW_some] <;> rfl) | (simp [*, errW_none, errW_some] <;> rfl), by repeat (first | (with_reducible first | exact HB.out | apply below_alloc | apply pw_below_drewN | apply below_drew1 | refine below_set ?_ GE152.out) | exact HB.out)⟩
  · replace c3 := Bool.eq_false_iff.mpr c3
    subst c3
    have H1 : (some false) = some r := by rw [if_neg (show ¬ (false = true) by decide)] at H; exact H
    clear H
    have H := H1
    clear H1
    obtain rfl := Option.some.inj H
    go_enter Try.func19, Try.ntmps19
    go_wp2_with (first | ((with_reducible refine gate_dst (N := 1) rfl ?_); (try (refine gate_guard (by rfl) ?_; dsimp only)); refine box_event ?hg (N := 1) ?hd (cs := #[.int .i64 a0_0, .int .i64 a0_1, .int .i64 a0_2, .int .i64 a0_3, .int .i64 a0_4, .int .i64 a0_5, .int .i64 a0_6]) (t := 27) ?hr ?_; (case hd => rfl); (case hg => rfl); (case hr => first | (go_simp; done) | (go_simp; rfl)); intro gb152 hg w33 hbox hb; have n0_ := Aside0.mk (below_step (by repeat (first | (with_reducible first | exact HB.out | apply below_alloc | apply pw_below_drewN | apply below_drew1) | exact HB.out)) hb); have n1_ := Aside0.mk (hbox); have n2_ := Aside0.mk ((by rw [hg]; exact (below_size (by repeat (first | (with_reducible first | exact HB.out | apply below_alloc | apply pw_below_drewN | apply below_drew1) | exact HB.out))) : w.heap.size ≤ gb152)); have n3_ := Aside0.mk ((by rw [hg]; exact (below_size (by repeat (first | (with_reducible first | exact HB.out | apply below_alloc | apply pw_below_drewN | apply below_drew1) | exact HB.out))) : w.heap.size ≤ gb152)); clear HB; have HB := n0_; have BK152 := n1_; have GW152 := n2_; have GE152 := n3_; clear n0_ n1_ n2_ n3_; clear hb hbox hg; have hcz34_0 : w33.cell? ⟨gb152, 0, none⟩ = some (.int .i64 a0_0) := (blk_cell BK152.out 0).trans rfl; have hcz34_1 : w33.cell? ⟨gb152, 1, none⟩ = some (.int .i64 a0_1) := (blk_cell BK152.out 1).trans rfl; have hcz34_2 : w33.cell? ⟨gb152, 2, none⟩ = some (.int .i64 a0_2) := (blk_cell BK152.out 2).trans rfl; have hcz34_3 : w33.cell? ⟨gb152, 3, none⟩ = some (.int .i64 a0_3) := (blk_cell BK152.out 3).trans rfl; have hcz34_4 : w33.cell? ⟨gb152, 4, none⟩ = some (.int .i64 a0_4) := (blk_cell BK152.out 4).trans rfl; have hcz34_5 : w33.cell? ⟨gb152, 5, none⟩ = some (.int .i64 a0_5) := (blk_cell BK152.out 5).trans rfl; have hcz34_6 : w33.cell? ⟨gb152, 6, none⟩ = some (.int .i64 a0_6) := (blk_cell BK152.out 6).trans rfl; have hfz34_0 := blk_frozen BK152.out 0; have hfz34_1 := blk_frozen BK152.out 1; have hfz34_2 := blk_frozen BK152.out 2; have hfz34_3 := blk_frozen BK152.out 3; have hfz34_4 := blk_frozen BK152.out 4; have hfz34_5 := blk_frozen BK152.out 5; have hfz34_6 := blk_frozen BK152.out 6) | ((with_reducible refine gate_callee (f := 58) rfl ?_); refine goesL_ (some 5) rfl rfl Try.func58 (by kernel_rfl) rfl #[.int .i64 a0_0, .int .i64 0, .int .i64 4096] rfl (by (try simp only [List.map_toArray, List.map_cons, List.map_nil]); first | done | rfl | (simp only [List.length_drop, List.length_take]; rfl)) ?_; (with_reducible refine (impl_in.calls a0_0 0 4096 false _ A2.out).mono ?_); rintro e w' ⟨rfl, ⟨nd, rfl⟩⟩; refine ⟨_, rfl, ?_⟩))
    go_ret
    exact ⟨by first | rfl | (simp [errW_none, errW_some] <;> rfl) | (simp [*, errW_none, errW_some] <;> rfl), by repeat (first | (with_reducible first | exact HB.out | apply below_alloc | apply pw_below_drewN | apply below_drew1 | refine below_set ?_ GE152.out) | exact HB.out)⟩

/-! ### impl_floor: function 62 -/
def impl_floor.f (a0 : Int) (a1 : Int) : Option (Int) := if a1 = 0 then (none) else (if (Int.tmod a0 a1) < 0 then (some (wrap64 ((wrap64 (Int.tdiv a0 a1)) - 1))) else (some (wrap64 (Int.tdiv a0 a1))))
set_option maxHeartbeats 8000000 in
set_option maxRecDepth 100000 in
theorem impl_floor.calls (a0 : Int) (a1 : Int) (r : Int) (w : World) (h : impl_floor.f a0 a1 = some r) :
    Calls Try.prog 62 #[.int .i64 a0, .int .i64 a1] w fun e w' => e = .returned (.int .i64 r) ∧ Drawn0 w w' := by
  have H : (if a1 = 0 then (none) else (if (Int.tmod a0 a1) < 0 then (some (wrap64 ((wrap64 (Int.tdiv a0 a1)) - 1))) else (some (wrap64 (Int.tdiv a0 a1))))) = some r := h
  clear h
  by_cases c3 : a1 = 0
  · rw [if_pos c3] at H
    exact absurd H (by simp)
  · rw [if_neg c3] at H
    have c3b0 : (a1 == 0) = false := beq_eq_false_iff_ne.mpr c3
    have c3b1 : (a1 != 0) = true := bne_iff_ne.mpr c3
    by_cases c4 : (Int.tmod a0 a1) < 0
    · rw [if_pos c4] at H
      have c4b0 : decide ((Int.tmod a0 a1) < 0) = true := decide_eq_true c4
      clear c4
      obtain rfl := Option.some.inj H
      go_enter Try.func62, Try.ntmps62
      go_wp2
      go_ret
      exact ⟨by first | rfl | (simp; done) | (simp [*]; done), by repeat (first | exact Drawn0.refl _ | apply Drawn0.step)⟩
    · rw [if_neg c4] at H
      have c4b0 : decide ((Int.tmod a0 a1) < 0) = false := decide_eq_false c4
      clear c4
      obtain rfl := Option.some.inj H
      go_enter Try.func62, Try.ntmps62
      go_wp2
      go_ret
      exact ⟨by first | rfl | (simp; done) | (simp [*]; done), by repeat (first | exact Drawn0.refl _ | apply Drawn0.step)⟩

/-! ### impl_Control_bound: function 63 -/
def impl_Control_bound.f (a0_0 : Int) (a0_1 : Int) (a0_2 : Int) (a0_3 : Int) (a0_4 : Int) (a0_5 : Int) (a0_6 : Int) (a1 : Int) (a2 : Int) : Option (Int) := some (mx (wrap64 (a2 * a0_3)) (mn (wrap64 (a2 * a0_4)) a1))
set_option maxHeartbeats 8000000 in
set_option maxRecDepth 100000 in
theorem impl_Control_bound.calls (a0_0 : Int) (a0_1 : Int) (a0_2 : Int) (a0_3 : Int) (a0_4 : Int) (a0_5 : Int) (a0_6 : Int) (a1 : Int) (a2 : Int) (r : Int) (w : World) (h : impl_Control_bound.f a0_0 a0_1 a0_2 a0_3 a0_4 a0_5 a0_6 a1 a2 = some r) :
    Calls Try.prog 63 #[.agg #[.int .i64 a0_0, .int .i64 a0_1, .int .i64 a0_2, .int .i64 a0_3, .int .i64 a0_4, .int .i64 a0_5, .int .i64 a0_6], .int .i64 a1, .int .i64 a2] w fun e w' => e = .returned (.int .i64 r) ∧ Below w.heap.size w w' := by
  have hu27 := Try.underlying27
  have HB := Aside0.mk (Below.refl w.heap.size w)
  have H : (some (mx (wrap64 (a2 * a0_3)) (mn (wrap64 (a2 * a0_4)) a1))) = some r := h
  clear h
  obtain ⟨ji4, hji4⟩ : ∃ j_ : Int, (mn (wrap64 (a2 * a0_4)) a1) = j_ := ⟨_, rfl⟩
  replace H : (some (mx (wrap64 (a2 * a0_3)) (ji4))) = some r := by first | (rw [hji4] at H; exact H) | (simp only [hji4] at H ⊢; exact H)
  have hji4_ : (if a1 < (wrap64 (a2 * a0_4)) then a1 else (wrap64 (a2 * a0_4))) = ji4 := hji4
  obtain ⟨ji5, hji5⟩ : ∃ j_ : Int, (mx (wrap64 (a2 * a0_3)) (ji4)) = j_ := ⟨_, rfl⟩
  replace H : (some ji5) = some r := by first | (rw [hji5] at H; exact H) | (simp only [hji5] at H ⊢; exact H)
  have hji5_ : (if (wrap64 (a2 * a0_3)) < (ji4) then (ji4) else (wrap64 (a2 * a0_3))) = ji5 := hji5
  obtain rfl := Option.some.inj H
  go_enter Try.func63, Try.ntmps63
  go_wp2_with (first | ((with_reducible refine gate_dst (N := 3) rfl ?_); refine box_event ?hg (N := 3) ?hd (cs := #[.int .i64 a0_0, .int .i64 a0_1, .int .i64 a0_2, .int .i64 a0_3, .int .i64 a0_4, .int .i64 a0_5, .int .i64 a0_6]) (t := 27) ?hr ?_; (case hd => rfl); (case hg => rfl); (case hr => first | (go_simp; done) | (go_simp; rfl)); intro gb161 hg w6 hbox hb; have n0_ := Aside0.mk (below_step (by repeat (first | (with_reducible first | exact HB.out | apply below_alloc | apply pw_below_drewN | apply below_drew1) | exact HB.out)) hb); have n1_ := Aside0.mk (hbox); have n2_ := Aside0.mk ((by rw [hg]; exact (below_size (by repeat (first | (with_reducible first | exact HB.out | apply below_alloc | apply pw_below_drewN | apply below_drew1) | exact HB.out))) : w.heap.size ≤ gb161)); have n3_ := Aside0.mk ((by rw [hg]; exact (below_size (by repeat (first | (with_reducible first | exact HB.out | apply below_alloc | apply pw_below_drewN | apply below_drew1) | exact HB.out))) : w.heap.size ≤ gb161)); clear HB; have HB := n0_; have BK161 := n1_; have GW161 := n2_; have GE161 := n3_; clear n0_ n1_ n2_ n3_; clear hb hbox hg; have hcz7_0 : w6.cell? ⟨gb161, 0, none⟩ = some (.int .i64 a0_0) := (blk_cell BK161.out 0).trans rfl; have hcz7_1 : w6.cell? ⟨gb161, 1, none⟩ = some (.int .i64 a0_1) := (blk_cell BK161.out 1).trans rfl; have hcz7_2 : w6.cell? ⟨gb161, 2, none⟩ = some (.int .i64 a0_2) := (blk_cell BK161.out 2).trans rfl; have hcz7_3 : w6.cell? ⟨gb161, 3, none⟩ = some (.int .i64 a0_3) := (blk_cell BK161.out 3).trans rfl; have hcz7_4 : w6.cell? ⟨gb161, 4, none⟩ = some (.int .i64 a0_4) := (blk_cell BK161.out 4).trans rfl; have hcz7_5 : w6.cell? ⟨gb161, 5, none⟩ = some (.int .i64 a0_5) := (blk_cell BK161.out 5).trans rfl; have hcz7_6 : w6.cell? ⟨gb161, 6, none⟩ = some (.int .i64 a0_6) := (blk_cell BK161.out 6).trans rfl; have hfz7_0 := blk_frozen BK161.out 0; have hfz7_1 := blk_frozen BK161.out 1; have hfz7_2 := blk_frozen BK161.out 2; have hfz7_3 := blk_frozen BK161.out 3; have hfz7_4 := blk_frozen BK161.out 4; have hfz7_5 := blk_frozen BK161.out 5; have hfz7_6 := blk_frozen BK161.out 6))
  go_ret
  exact ⟨by first | rfl | (simp [errW_none, errW_some] <;> rfl) | (simp only [← hji4, ← hji5]; first | rfl | (simp [errW_none, errW_some] <;> rfl)) | (simp [*, errW_none, errW_some] <;> rfl), by repeat (first | (with_reducible first | exact HB.out | apply below_alloc | apply pw_below_drewN | apply below_drew1 | refine below_set ?_ GE161.out) | exact HB.out)⟩

/-! ### impl_ControlStep: function 36 -/
def impl_ControlStep.j0 : Nat → Int → Int → Bool → Int → Int → Int → Int → Int → Int → Int → Option (Int × Int × Int × Int × Int × Int × Int × Int)
  | 0, _, _, _, _, _, _, _, _, _, _ => none
  | k + 1, x1, x2, x19, x163000, x163001, x163002, x163003, x163004, x163005, x163006 => if x19 = true then (some (0, 0, 0, 0, 0, 0, 0, 0)) else ((impl_Control_bound.f x163000 x163001 x163002 x163003 x163004 x163005 x163006 (wrap64 (x163005 + (wrap64 (x163001 * (wrap64 (x1 - x2)))))) 256).bind fun t169 => ((impl_floor.f (wrap64 ((wrap64 ((wrap64 (x163000 * (wrap64 (x1 - x2)))) + t169)) - (wrap64 (x163002 * (wrap64 (x2 - x163006)))))) 256).bind fun t170 => ((impl_Control_bound.f x163000 x163001 x163002 x163003 x163004 t169 x163006 t170 1).bind fun t171 => (some (x163000, x163001, x163002, x163003, x163004, t169, x2, t171)))))
def impl_ControlStep.f (k : Nat) (a0_0 : Int) (a0_1 : Int) (a0_2 : Int) (a0_3 : Int) (a0_4 : Int) (a0_5 : Int) (a0_6 : Int) (a1 : Int) (a2 : Int) : Option (Int × Int × Int × Int × Int × Int × Int × Int) := (impl_ControlValid.f a0_0 a0_1 a0_2 a0_3 a0_4 a0_5 a0_6).bind fun t164 => (if t164 = true then ((impl_areWords.f (([a1, a2] : List Int))).bind fun t168 => (impl_ControlStep.j0 k a1 a2 (!t168) a0_0 a0_1 a0_2 a0_3 a0_4 a0_5 a0_6)) else (impl_ControlStep.j0 k a1 a2 true a0_0 a0_1 a0_2 a0_3 a0_4 a0_5 a0_6))
theorem impl_ControlStep.mono_l : ∀ k, (∀ y0 y1 y2 y3 y4 y5 y6 y7 y8 y9, LeO (impl_ControlStep.j0 k y0 y1 y2 y3 y4 y5 y6 y7 y8 y9) (impl_ControlStep.j0 (k + 1) y0 y1 y2 y3 y4 y5 y6 y7 y8 y9))
  | 0 => fun _ _ _ _ _ _ _ _ _ _ r h => by simp [impl_ControlStep.j0] at h
  | k + 1 => by
    have ih0 := impl_ControlStep.mono_l k
    · intro y0 y1 y2 y3 y4 y5 y6 y7 y8 y9
      unfold impl_ControlStep.j0
      repeat' first
      | (with_reducible exact ih0 _ _ _ _ _ _ _ _ _ _)
      | (with_reducible exact LeO.refl _)
      | (with_reducible exact LeO.none _)
      | (with_reducible refine LeO.ite ?_ ?_)
      | (with_reducible refine LeO.bind ?_ (fun _ => ?_))
      | exact ih0 _ _ _ _ _ _ _ _ _ _
      | exact LeO.none _
      | refine LeO.ite ?_ ?_
      | refine LeO.bind ?_ (fun _ => ?_)
theorem impl_ControlStep.mono : ∀ a0 a1 a2 a3 a4 a5 a6 a7 a8 k, LeO (impl_ControlStep.f k a0 a1 a2 a3 a4 a5 a6 a7 a8) (impl_ControlStep.f (k + 1) a0 a1 a2 a3 a4 a5 a6 a7 a8) := by
  intro a0 a1 a2 a3 a4 a5 a6 a7 a8 k
  have ih0 := impl_ControlStep.mono_l k
  unfold impl_ControlStep.f
  repeat' first
      | (with_reducible exact ih0 _ _ _ _ _ _ _ _ _ _)
      | (with_reducible exact LeO.refl _)
      | (with_reducible exact LeO.none _)
      | (with_reducible refine LeO.ite ?_ ?_)
      | (with_reducible refine LeO.bind ?_ (fun _ => ?_))
      | exact ih0 _ _ _ _ _ _ _ _ _ _
      | exact LeO.none _
      | refine LeO.ite ?_ ?_
      | refine LeO.bind ?_ (fun _ => ?_)
def impl_ControlStep.T5 : Bool × List (List Nat × List Nat) := (true, [([], []), ([], []), ([1], [1]), ([], []), ([2, 3], [2, 3]), ([], []), ([5], [5]), ([4, 6], [4, 6]), ([], []), ([8], [8]), ([], []), ([], []), ([11], [11]), ([10, 12], [10, 12]), ([9, 13], [9, 13]), ([7, 14], [7, 14]), ([15], [15]), ([0, 16, 16], [0, 16]), ([17, 17, 0, 1, 2, 3, 4, 5, 6, 7, 8, 9, 10, 11, 12, 13, 14, 15, 16, 17], [17])])
def impl_ControlStep.B5 : List Nat := [0, 0, 2, 0, 14, 0, 32, 126, 0, 256, 0, 0, 2048, 7168, 16128, 32766, 65534, 131071, 262143]
theorem impl_ControlStep.tab5 : rtab .any (opsOf Try.f36 5) = impl_ControlStep.T5 := by kernel_rfl
theorem impl_ControlStep.bits5 : waitsOk impl_ControlStep.T5.2 impl_ControlStep.B5 = true := by kernel_rfl
set_option maxHeartbeats 8000000 in
set_option maxRecDepth 100000 in
theorem impl_ControlStep.calls (k : Nat) (a0_0 : Int) (a0_1 : Int) (a0_2 : Int) (a0_3 : Int) (a0_4 : Int) (a0_5 : Int) (a0_6 : Int) (a1 : Int) (a2 : Int) (r1 : Int) (r2 : Int) (r3 : Int) (r4 : Int) (r5 : Int) (r6 : Int) (r7 : Int) (r8 : Int) (w : World) (h : impl_ControlStep.f k a0_0 a0_1 a0_2 a0_3 a0_4 a0_5 a0_6 a1 a2 = some (r1, r2, r3, r4, r5, r6, r7, r8)) :
    Calls Try.prog 36 #[.agg #[.int .i64 a0_0, .int .i64 a0_1, .int .i64 a0_2, .int .i64 a0_3, .int .i64 a0_4, .int .i64 a0_5, .int .i64 a0_6], .int .i64 a1, .int .i64 a2] w fun e w' => e = .returned (.tuple #[.agg #[.int .i64 r1, .int .i64 r2, .int .i64 r3, .int .i64 r4, .int .i64 r5, .int .i64 r6, .int .i64 r7], .int .i64 r8]) ∧ Below w.heap.size w w' := by
  have hu27 := Try.underlying27
  have HB := Aside0.mk (Below.refl w.heap.size w)
  have H : ((impl_ControlValid.f a0_0 a0_1 a0_2 a0_3 a0_4 a0_5 a0_6).bind fun t164 => (if t164 = true then ((impl_areWords.f (([a1, a2] : List Int))).bind fun t168 => (impl_ControlStep.j0 k a1 a2 (!t168) a0_0 a0_1 a0_2 a0_3 a0_4 a0_5 a0_6)) else (impl_ControlStep.j0 k a1 a2 true a0_0 a0_1 a0_2 a0_3 a0_4 a0_5 a0_6))) = some (r1, r2, r3, r4, r5, r6, r7, r8) := h
  clear h
  have HC4 := Aside0.mk H
  clear H
  go_enter Try.func36, Try.ntmps36
  go_upto_region 1 with (first | ((with_reducible refine gate_dst (N := 3) rfl ?_); (try (refine gate_guard (by rfl) ?_; dsimp only)); refine box_event ?hg (N := 3) ?hd (cs := #[.int .i64 a0_0, .int .i64 a0_1, .int .i64 a0_2, .int .i64 a0_3, .int .i64 a0_4, .int .i64 a0_5, .int .i64 a0_6]) (t := 27) ?hr ?_; (case hd => rfl); (case hg => rfl); (case hr => first | (go_simp; done) | (go_simp; rfl)); intro gb162 hg w5 hbox hb; have n0_ := Aside0.mk (below_step (by repeat (first | (with_reducible first | exact HB.out | apply below_alloc | apply pw_below_drewN | apply below_drew1) | exact HB.out)) hb); have n1_ := Aside0.mk (hbox); have n2_ := Aside0.mk ((by rw [hg]; exact (below_size (by repeat (first | (with_reducible first | exact HB.out | apply below_alloc | apply pw_below_drewN | apply below_drew1) | exact HB.out))) : w.heap.size ≤ gb162)); have n3_ := Aside0.mk ((by rw [hg]; exact (below_size (by repeat (first | (with_reducible first | exact HB.out | apply below_alloc | apply pw_below_drewN | apply below_drew1) | exact HB.out))) : w.heap.size ≤ gb162)); clear HB; have HB := n0_; have BK162 := n1_; have GW162 := n2_; have GE162 := n3_; clear n0_ n1_ n2_ n3_; clear hb hbox hg) | ((with_reducible refine gate_dst (N := 6) rfl ?_); (try (refine gate_guard (by rfl) ?_; dsimp only)); refine box_event ?hg (N := 6) ?hd (cs := #[.int .i64 0, .int .i64 0, .int .i64 0, .int .i64 0, .int .i64 0, .int .i64 0, .int .i64 0]) (t := 27) ?hr ?_; (case hd => rfl); (case hg => rfl); (case hr => first | (go_simp; done) | (go_simp; rfl)); intro gb163 hg w6 hbox hb; have n0_ := Aside0.mk (blk_below (g := gb162) (o := .cells #[.int .i64 a0_0, .int .i64 a0_1, .int .i64 a0_2, .int .i64 a0_3, .int .i64 a0_4, .int .i64 a0_5, .int .i64 a0_6] 27 (0, 0)) (by (with_reducible repeat (first | refine blk_drewN ?_ _ | refine blk_drew ?_ | refine blk_alloc ?_ _)); exact BK162.out) hb); have n1_ := Aside0.mk (below_step (by repeat (first | (with_reducible first | exact HB.out | apply below_alloc | apply pw_below_drewN | apply below_drew1 | refine below_set ?_ GE162.out) | exact HB.out)) hb); have n2_ := Aside0.mk (hbox); have n3_ := Aside0.mk ((by rw [hg]; exact (below_size (by repeat (first | (with_reducible first | exact HB.out | apply below_alloc | apply pw_below_drewN | apply below_drew1 | refine below_set ?_ GE162.out) | exact HB.out))) : w.heap.size ≤ gb163)); have n4_ := Aside0.mk ((by rw [hg]; exact (below_size (by repeat (first | (with_reducible first | exact HB.out | apply below_alloc | apply pw_below_drewN | apply below_drew1 | refine below_set ?_ GE162.out) | exact HB.out))) : w.heap.size ≤ gb163)); have n5_ := Aside0.mk ((by rw [hg]; exact Nat.ne_of_lt (blk_lt (g := gb162) (o := .cells #[.int .i64 a0_0, .int .i64 a0_1, .int .i64 a0_2, .int .i64 a0_3, .int .i64 a0_4, .int .i64 a0_5, .int .i64 a0_6] 27 (0, 0)) (by (with_reducible repeat (first | refine blk_drewN ?_ _ | refine blk_drew ?_ | refine blk_alloc ?_ _)); exact BK162.out)) : gb162 ≠ gb163)); have n6_ := Aside0.mk ((by rw [hg]; exact Nat.ne_of_gt (blk_lt (g := gb162) (o := .cells #[.int .i64 a0_0, .int .i64 a0_1, .int .i64 a0_2, .int .i64 a0_3, .int .i64 a0_4, .int .i64 a0_5, .int .i64 a0_6] 27 (0, 0)) (by (with_reducible repeat (first | refine blk_drewN ?_ _ | refine blk_drew ?_ | refine blk_alloc ?_ _)); exact BK162.out)) : gb163 ≠ gb162)); clear BK162; clear HB; have BK162 := n0_; have HB := n1_; have BK163 := n2_; have GW163 := n3_; have GE163 := n4_; have NB162_163 := n5_; have NB163_162 := n6_; clear n0_ n1_ n2_ n3_ n4_ n5_ n6_; clear hb hbox hg))
  (try simp only [Act.put, List.setIfInBounds_toArray, List.set_cons_zero, List.set_cons_succ])
  go_cut [19] (fun v19 wc => ∃ (kq : Nat) (x19_3 : Bool), v19 = .bool x19_3 ∧ Aside0 (impl_ControlStep.j0 kq a1 a2 x19_3 a0_0 a0_1 a0_2 a0_3 a0_4 a0_5 a0_6 = some (r1, r2, r3, r4, r5, r6, r7, r8)) ∧ Aside0 (kq ≤ k) ∧ Aside0 (wc.heap[gb162]? = some (.cells #[.int .i64 a0_0, .int .i64 a0_1, .int .i64 a0_2, .int .i64 a0_3, .int .i64 a0_4, .int .i64 a0_5, .int .i64 a0_6] 27 (0, 0))) ∧ Aside0 (wc.heap[gb163]? = some (.cells #[.int .i64 0, .int .i64 0, .int .i64 0, .int .i64 0, .int .i64 0, .int .i64 0, .int .i64 0] 27 (0, 0))) ∧ Aside0 (Below w.heap.size w wc))
  case first =>
    have H := HC4.out
    clear HC4
    replace H := Option.bind_eq_some_iff.mp H
    obtain ⟨t164, A70, H⟩ := H
    replace H : (if t164 = true then ((impl_areWords.f (([a1, a2] : List Int))).bind fun t168 => (impl_ControlStep.j0 k a1 a2 (!t168) a0_0 a0_1 a0_2 a0_3 a0_4 a0_5 a0_6)) else (impl_ControlStep.j0 k a1 a2 true a0_0 a0_1 a0_2 a0_3 a0_4 a0_5 a0_6)) = some (r1, r2, r3, r4, r5, r6, r7, r8) := H
    have A7 := Aside0.mk A70
    clear A70
    by_cases c8 : t164 = true
    · subst c8
      have H1 : ((impl_areWords.f (([a1, a2] : List Int))).bind fun t168 => (impl_ControlStep.j0 k a1 a2 (!t168) a0_0 a0_1 a0_2 a0_3 a0_4 a0_5 a0_6)) = some (r1, r2, r3, r4, r5, r6, r7, r8) := by rw [if_pos rfl] at H; exact H
      clear H
      have H := H1
      clear H1
      obtain ⟨y165, hy165⟩ : ∃ y_ : List Int, y_ = (([a1, a2] : List Int)) := ⟨_, rfl⟩
      replace H : ((impl_areWords.f y165).bind fun t168 => (impl_ControlStep.j0 k a1 a2 (!t168) a0_0 a0_1 a0_2 a0_3 a0_4 a0_5 a0_6)) = some (r1, r2, r3, r4, r5, r6, r7, r8) := by first | (rw [hy165]; with_reducible exact H) | (have H2_ := (Option.bind_some _ _).symm.trans H; rw [hy165]; with_reducible exact H2_) | (have H2_ := (Option.bind_some _ _).symm.trans H; with_reducible exact H2_) | with_reducible exact H | (rw [hy165]; exact H) | exact H
      have Ny165 := Aside0.mk hy165
      clear hy165
      replace H := Option.bind_eq_some_iff.mp H
      obtain ⟨t168, A90, H⟩ := H
      replace H : (impl_ControlStep.j0 k a1 a2 (!t168) a0_0 a0_1 a0_2 a0_3 a0_4 a0_5 a0_6) = some (r1, r2, r3, r4, r5, r6, r7, r8) := H
      have A9 := Aside0.mk A90
      clear A90
      have H' := Aside0.mk H
      clear H
      have hnb10 := NB162_163.out
      have hnc10 := NB163_162.out
      have hcz11_0 : w6.cell? ⟨gb162, 0, none⟩ = some (.int .i64 a0_0) := (blk_cell BK162.out 0).trans rfl
      have hcz11_1 : w6.cell? ⟨gb162, 1, none⟩ = some (.int .i64 a0_1) := (blk_cell BK162.out 1).trans rfl
      have hcz11_2 : w6.cell? ⟨gb162, 2, none⟩ = some (.int .i64 a0_2) := (blk_cell BK162.out 2).trans rfl
      have hcz11_3 : w6.cell? ⟨gb162, 3, none⟩ = some (.int .i64 a0_3) := (blk_cell BK162.out 3).trans rfl
      have hcz11_4 : w6.cell? ⟨gb162, 4, none⟩ = some (.int .i64 a0_4) := (blk_cell BK162.out 4).trans rfl
      have hcz11_5 : w6.cell? ⟨gb162, 5, none⟩ = some (.int .i64 a0_5) := (blk_cell BK162.out 5).trans rfl
      have hcz11_6 : w6.cell? ⟨gb162, 6, none⟩ = some (.int .i64 a0_6) := (blk_cell BK162.out 6).trans rfl
      have hfz11_0 := blk_frozen BK162.out 0
      have hfz11_1 := blk_frozen BK162.out 1
      have hfz11_2 := blk_frozen BK162.out 2
      have hfz11_3 := blk_frozen BK162.out 3
      have hfz11_4 := blk_frozen BK162.out 4
      have hfz11_5 := blk_frozen BK162.out 5
      have hfz11_6 := blk_frozen BK162.out 6
      go_wp2_with (first | ((with_reducible refine gate_callee (f := 19) rfl ?_); refine goesL_ (some 11) rfl rfl Try.func19 (by kernel_rfl) rfl #[.agg #[.int .i64 a0_0, .int .i64 a0_1, .int .i64 a0_2, .int .i64 a0_3, .int .i64 a0_4, .int .i64 a0_5, .int .i64 a0_6]] rfl (by (try simp only [List.map_toArray, List.map_cons, List.map_nil]); first | done | rfl | (simp only [List.length_drop, List.length_take]; rfl)) ?_; (with_reducible refine (impl_ControlValid.calls a0_0 a0_1 a0_2 a0_3 a0_4 a0_5 a0_6 true _ A7.out).mono ?_); rintro e w12 ⟨rfl, hb⟩; refine ⟨_, rfl, ?_⟩; have n0_ := Aside0.mk (blk_below (g := gb162) (o := .cells #[.int .i64 a0_0, .int .i64 a0_1, .int .i64 a0_2, .int .i64 a0_3, .int .i64 a0_4, .int .i64 a0_5, .int .i64 a0_6] 27 (0, 0)) (by (with_reducible repeat (first | refine blk_drewN ?_ _ | refine blk_drew ?_ | refine blk_alloc ?_ _)); exact BK162.out) hb); have n1_ := Aside0.mk (blk_below (g := gb163) (o := .cells #[.int .i64 0, .int .i64 0, .int .i64 0, .int .i64 0, .int .i64 0, .int .i64 0, .int .i64 0] 27 (0, 0)) (by (with_reducible repeat (first | refine blk_drewN ?_ _ | refine blk_drew ?_ | refine blk_alloc ?_ _)); exact BK163.out) hb); have n2_ := Aside0.mk (below_step (by repeat (first | (with_reducible first | exact HB.out | apply below_alloc | apply pw_below_drewN | apply below_drew1 | refine below_set ?_ GE162.out | refine below_set ?_ GE163.out) | exact HB.out)) hb); clear BK162; clear BK163; clear HB; have BK162 := n0_; have BK163 := n1_; have HB := n2_; clear n0_ n1_ n2_; (try clear hb); (try clear hb2); (try clear hk); (try clear hi)) | ((with_reducible refine gate_dst (N := 16) rfl ?_); (try (refine gate_guard (by rfl) ?_; dsimp only)); refine Kd.R_lit (Kd.int .i64) _ 3 ?hg (N := 16) ?hd (xs := ([a1, a2] : List Int)) (inner := [.int .i64 a1, .int .i64 a2]) (ok := fun _ => True) (okp := fun _ => True) ?hr ?hp (fun _ hk => hk) trivial (Below.refl _ _) (Nat.le_refl _) (by simp) ?_; (case hd => rfl); (case hg => rfl); (case hr => first | (go_simp; done) | (go_simp; rfl)); (case hp => exact (Reps.one (show Kd.M (Kd.int .i64) _ _ _ a1 [.int .i64 a1] from rfl) (Reps.one (show Kd.M (Kd.int .i64) _ _ _ a2 [.int .i64 a2] from rfl) (Reps.none _ _)))); intro v166 w13 ho14 hb hg_ hnew_; clear hg_ hnew_; (first | rw [← Ny165.out] at ho14 | (simp only [Int.reduceToNat] at ho14; rw [← Ny165.out] at ho14)); have n0_ := Aside0.mk (Kd.R_lower ho14 (below_size (by repeat (first | (with_reducible first | exact HB.out | apply below_alloc | apply pw_below_drewN | apply below_drew1 | refine below_set ?_ GE162.out | refine below_set ?_ GE163.out) | exact HB.out)))); have n1_ := Aside0.mk (blk_below (g := gb162) (o := .cells #[.int .i64 a0_0, .int .i64 a0_1, .int .i64 a0_2, .int .i64 a0_3, .int .i64 a0_4, .int .i64 a0_5, .int .i64 a0_6] 27 (0, 0)) (by (with_reducible repeat (first | refine blk_drewN ?_ _ | refine blk_drew ?_ | refine blk_alloc ?_ _)); exact BK162.out) hb); have n2_ := Aside0.mk (blk_below (g := gb163) (o := .cells #[.int .i64 0, .int .i64 0, .int .i64 0, .int .i64 0, .int .i64 0, .int .i64 0, .int .i64 0] 27 (0, 0)) (by (with_reducible repeat (first | refine blk_drewN ?_ _ | refine blk_drew ?_ | refine blk_alloc ?_ _)); exact BK163.out) hb); have n3_ := Aside0.mk (below_step (by repeat (first | (with_reducible first | exact HB.out | apply below_alloc | apply pw_below_drewN | apply below_drew1 | refine below_set ?_ GE162.out | refine below_set ?_ GE163.out) | exact HB.out)) hb); clear BK162; clear BK163; clear HB; have HO167 := n0_; have BK162 := n1_; have BK163 := n2_; have HB := n3_; clear n0_ n1_ n2_ n3_; clear hb ho14; obtain ⟨Ao15, co15, eo15⟩ := Kd.R_slice HO167.out; subst eo15) | (go_at_call 55; (with_reducible refine (impl_areWords.calls _ _ y165 t168 _ ?side1 ?side2 A9.out).mono ?_); (case side1 => repeat (first | exact (Kd.R_reads' HO167.out).2.2 | (with_reducible refine Kd.C_alloc ?_ _) | (with_reducible refine Kd.C_drewN ?_ _) | (with_reducible refine Kd.C_drew ?_))); (case side2 => exact (Kd.R_reads' HO167.out).2.1); rintro e w' ⟨rfl, ⟨nd, rfl⟩⟩))
      go_meet
      case rel => exact ⟨_, (!t168), (by first | rfl | (simp; done) | (simp [*]; done)), H', ⟨by first | omega | exact Nat.le_refl _⟩, ⟨by (with_reducible repeat (first | refine blk_drewN ?_ _ | refine blk_drew ?_ | refine blk_alloc ?_ _)); exact BK162.out⟩, ⟨by (with_reducible repeat (first | refine blk_drewN ?_ _ | refine blk_drew ?_ | refine blk_alloc ?_ _)); exact BK163.out⟩, ⟨by repeat (first | (with_reducible first | exact HB.out | apply below_alloc | apply pw_below_drewN | apply below_drew1 | refine below_set ?_ GE162.out | refine below_set ?_ GE163.out) | exact HB.out)⟩⟩
    · replace c8 := Bool.eq_false_iff.mpr c8
      subst c8
      have H1 : (impl_ControlStep.j0 k a1 a2 true a0_0 a0_1 a0_2 a0_3 a0_4 a0_5 a0_6) = some (r1, r2, r3, r4, r5, r6, r7, r8) := by rw [if_neg (show ¬ (false = true) by decide)] at H; exact H
      clear H
      have H := H1
      clear H1
      have H' := Aside0.mk H
      clear H
      have hnb16 := NB162_163.out
      have hnc16 := NB163_162.out
      have hcz17_0 : w6.cell? ⟨gb162, 0, none⟩ = some (.int .i64 a0_0) := (blk_cell BK162.out 0).trans rfl
      have hcz17_1 : w6.cell? ⟨gb162, 1, none⟩ = some (.int .i64 a0_1) := (blk_cell BK162.out 1).trans rfl
      have hcz17_2 : w6.cell? ⟨gb162, 2, none⟩ = some (.int .i64 a0_2) := (blk_cell BK162.out 2).trans rfl
      have hcz17_3 : w6.cell? ⟨gb162, 3, none⟩ = some (.int .i64 a0_3) := (blk_cell BK162.out 3).trans rfl
      have hcz17_4 : w6.cell? ⟨gb162, 4, none⟩ = some (.int .i64 a0_4) := (blk_cell BK162.out 4).trans rfl
      have hcz17_5 : w6.cell? ⟨gb162, 5, none⟩ = some (.int .i64 a0_5) := (blk_cell BK162.out 5).trans rfl
      have hcz17_6 : w6.cell? ⟨gb162, 6, none⟩ = some (.int .i64 a0_6) := (blk_cell BK162.out 6).trans rfl
      have hfz17_0 := blk_frozen BK162.out 0
      have hfz17_1 := blk_frozen BK162.out 1
      have hfz17_2 := blk_frozen BK162.out 2
      have hfz17_3 := blk_frozen BK162.out 3
      have hfz17_4 := blk_frozen BK162.out 4
      have hfz17_5 := blk_frozen BK162.out 5
      have hfz17_6 := blk_frozen BK162.out 6
      go_wp2_with (first | ((with_reducible refine gate_callee (f := 19) rfl ?_); refine goesL_ (some 11) rfl rfl Try.func19 (by kernel_rfl) rfl #[.agg #[.int .i64 a0_0, .int .i64 a0_1, .int .i64 a0_2, .int .i64 a0_3, .int .i64 a0_4, .int .i64 a0_5, .int .i64 a0_6]] rfl (by (try simp only [List.map_toArray, List.map_cons, List.map_nil]); first | done | rfl | (simp only [List.length_drop, List.length_take]; rfl)) ?_; (with_reducible refine (impl_ControlValid.calls a0_0 a0_1 a0_2 a0_3 a0_4 a0_5 a0_6 false _ A7.out).mono ?_); rintro e w18 ⟨rfl, hb⟩; refine ⟨_, rfl, ?_⟩; have n0_ := Aside0.mk (blk_below (g := gb162) (o := .cells #[.int .i64 a0_0, .int .i64 a0_1, .int .i64 a0_2, .int .i64 a0_3, .int .i64 a0_4, .int .i64 a0_5, .int .i64 a0_6] 27 (0, 0)) (by (with_reducible repeat (first | refine blk_drewN ?_ _ | refine blk_drew ?_ | refine blk_alloc ?_ _)); exact BK162.out) hb); have n1_ := Aside0.mk (blk_below (g := gb163) (o := .cells #[.int .i64 0, .int .i64 0, .int .i64 0, .int .i64 0, .int .i64 0, .int .i64 0, .int .i64 0] 27 (0, 0)) (by (with_reducible repeat (first | refine blk_drewN ?_ _ | refine blk_drew ?_ | refine blk_alloc ?_ _)); exact BK163.out) hb); have n2_ := Aside0.mk (below_step (by repeat (first | (with_reducible first | exact HB.out | apply below_alloc | apply pw_below_drewN | apply below_drew1 | refine below_set ?_ GE162.out | refine below_set ?_ GE163.out) | exact HB.out)) hb); clear BK162; clear BK163; clear HB; have BK162 := n0_; have BK163 := n1_; have HB := n2_; clear n0_ n1_ n2_; (try clear hb); (try clear hb2); (try clear hk); (try clear hi)))
      go_meet
      case rel => exact ⟨_, (true), (by first | rfl | (simp; done) | (simp [*]; done)), H', ⟨by first | omega | exact Nat.le_refl _⟩, ⟨by (with_reducible repeat (first | refine blk_drewN ?_ _ | refine blk_drew ?_ | refine blk_alloc ?_ _)); exact BK162.out⟩, ⟨by (with_reducible repeat (first | refine blk_drewN ?_ _ | refine blk_drew ?_ | refine blk_alloc ?_ _)); exact BK163.out⟩, ⟨by repeat (first | (with_reducible first | exact HB.out | apply below_alloc | apply pw_below_drewN | apply below_drew1 | refine below_set ?_ GE162.out | refine below_set ?_ GE163.out) | exact HB.out)⟩⟩
  case rest =>
    clear HC4
    try clear c1
    try clear p2
    try clear c3
    try clear c8
    try clear c10
    try clear c16
    try clear hcz11_0
    try clear hcz11_1
    try clear hcz11_2
    try clear hcz11_3
    try clear hcz11_4
    try clear hcz11_5
    try clear hcz11_6
    try clear hcz17_0
    try clear hcz17_1
    try clear hcz17_2
    try clear hcz17_3
    try clear hcz17_4
    try clear hcz17_5
    try clear hcz17_6
    try clear hfz11_0
    try clear hfz11_1
    try clear hfz11_2
    try clear hfz11_3
    try clear hfz11_4
    try clear hfz11_5
    try clear hfz11_6
    try clear hfz17_0
    try clear hfz17_1
    try clear hfz17_2
    try clear hfz17_3
    try clear hfz17_4
    try clear hfz17_5
    try clear hfz17_6
    obtain ⟨kq, x19_3, rfl, HA, HJ3, BK162, BK163, HB⟩ := hcut
    cases kq with
    | zero => exact absurd HA.out (by simp [impl_ControlStep.j0])
    | succ kj3 =>
      have H := HA.out
      clear HA
      simp only [impl_ControlStep.j0] at H
      by_cases c19 : x19_3 = true
      · subst c19
        have H1 : (some (0, 0, 0, 0, 0, 0, 0, 0)) = some (r1, r2, r3, r4, r5, r6, r7, r8) := by rw [if_pos rfl] at H; exact H
        clear H
        have H := H1
        clear H1
        simp only [Option.some.injEq, Prod.mk.injEq] at H
        obtain ⟨rfl, rfl, rfl, rfl, rfl, rfl, rfl, rfl⟩ := H
        have hnb20 := NB163_162.out
        have hnc20 := NB162_163.out
        have hcz21_0 : wc.cell? ⟨gb163, 0, none⟩ = some (.int .i64 0) := (blk_cell BK163.out 0).trans rfl
        have hcz21_1 : wc.cell? ⟨gb163, 1, none⟩ = some (.int .i64 0) := (blk_cell BK163.out 1).trans rfl
        have hcz21_2 : wc.cell? ⟨gb163, 2, none⟩ = some (.int .i64 0) := (blk_cell BK163.out 2).trans rfl
        have hcz21_3 : wc.cell? ⟨gb163, 3, none⟩ = some (.int .i64 0) := (blk_cell BK163.out 3).trans rfl
        have hcz21_4 : wc.cell? ⟨gb163, 4, none⟩ = some (.int .i64 0) := (blk_cell BK163.out 4).trans rfl
        have hcz21_5 : wc.cell? ⟨gb163, 5, none⟩ = some (.int .i64 0) := (blk_cell BK163.out 5).trans rfl
        have hcz21_6 : wc.cell? ⟨gb163, 6, none⟩ = some (.int .i64 0) := (blk_cell BK163.out 6).trans rfl
        have hfz21_0 := blk_frozen BK163.out 0
        have hfz21_1 := blk_frozen BK163.out 1
        have hfz21_2 := blk_frozen BK163.out 2
        have hfz21_3 := blk_frozen BK163.out 3
        have hfz21_4 := blk_frozen BK163.out 4
        have hfz21_5 := blk_frozen BK163.out 5
        have hfz21_6 := blk_frozen BK163.out 6
        go_wp2
        refine bodyPost_ret (results_ct rfl _ _ gb163 27 #[.int .i64 0, .int .i64 0, .int .i64 0, .int .i64 0, .int .i64 0, .int .i64 0, .int .i64 0] (0, 0) _ rfl (by (with_reducible repeat (first | refine blk_drewN ?_ _ | refine blk_drew ?_ | refine blk_alloc ?_ _)); refine blk_put (cs := #[.int .i64 0, .int .i64 0, .int .i64 0, .int .i64 0, .int .i64 0, .int .i64 0, .int .i64 0]) ?_ 6 _ rfl; (with_reducible repeat (first | refine blk_drewN ?_ _ | refine blk_drew ?_ | refine blk_alloc ?_ _)); refine blk_put (cs := #[.int .i64 0, .int .i64 0, .int .i64 0, .int .i64 0, .int .i64 0, .int .i64 0, .int .i64 0]) ?_ 5 _ rfl; (with_reducible repeat (first | refine blk_drewN ?_ _ | refine blk_drew ?_ | refine blk_alloc ?_ _)); refine blk_put (cs := #[.int .i64 0, .int .i64 0, .int .i64 0, .int .i64 0, .int .i64 0, .int .i64 0, .int .i64 0]) ?_ 4 _ rfl; (with_reducible repeat (first | refine blk_drewN ?_ _ | refine blk_drew ?_ | refine blk_alloc ?_ _)); refine blk_put (cs := #[.int .i64 0, .int .i64 0, .int .i64 0, .int .i64 0, .int .i64 0, .int .i64 0, .int .i64 0]) ?_ 3 _ rfl; (with_reducible repeat (first | refine blk_drewN ?_ _ | refine blk_drew ?_ | refine blk_alloc ?_ _)); refine blk_put (cs := #[.int .i64 0, .int .i64 0, .int .i64 0, .int .i64 0, .int .i64 0, .int .i64 0, .int .i64 0]) ?_ 2 _ rfl; (with_reducible repeat (first | refine blk_drewN ?_ _ | refine blk_drew ?_ | refine blk_alloc ?_ _)); refine blk_put (cs := #[.int .i64 0, .int .i64 0, .int .i64 0, .int .i64 0, .int .i64 0, .int .i64 0, .int .i64 0]) ?_ 1 _ rfl; (with_reducible repeat (first | refine blk_drewN ?_ _ | refine blk_drew ?_ | refine blk_alloc ?_ _)); refine blk_put (cs := #[.int .i64 0, .int .i64 0, .int .i64 0, .int .i64 0, .int .i64 0, .int .i64 0, .int .i64 0]) ?_ 0 _ rfl; (with_reducible repeat (first | refine blk_drewN ?_ _ | refine blk_drew ?_ | refine blk_alloc ?_ _)); exact BK163.out) Try.underlying27 rfl (by kernel_rfl)) rfl ?_
        exact ⟨by first | rfl | (simp [errW_none, errW_some] <;> rfl) | (simp [*, errW_none, errW_some] <;> rfl), by repeat (first | (with_reducible first | exact HB.out | apply below_alloc | apply pw_below_drewN | apply below_drew1 | refine below_set ?_ GE162.out | refine below_set ?_ GE163.out) | exact HB.out)⟩
      · replace c19 := Bool.eq_false_iff.mpr c19
        subst c19
        have H1 : ((impl_Control_bound.f a0_0 a0_1 a0_2 a0_3 a0_4 a0_5 a0_6 (wrap64 (a0_5 + (wrap64 (a0_1 * (wrap64 (a1 - a2)))))) 256).bind fun t169 => ((impl_floor.f (wrap64 ((wrap64 ((wrap64 (a0_0 * (wrap64 (a1 - a2)))) + t169)) - (wrap64 (a0_2 * (wrap64 (a2 - a0_6)))))) 256).bind fun t170 => ((impl_Control_bound.f a0_0 a0_1 a0_2 a0_3 a0_4 t169 a0_6 t170 1).bind fun t171 => (some (a0_0, a0_1, a0_2, a0_3, a0_4, t169, a2, t171))))) = some (r1, r2, r3, r4, r5, r6, r7, r8) := by rw [if_neg (show ¬ (false = true) by decide)] at H; exact H
        clear H
        have H := H1
        clear H1
        replace H := Option.bind_eq_some_iff.mp H
        obtain ⟨t169, A220, H⟩ := H
        replace H : ((impl_floor.f (wrap64 ((wrap64 ((wrap64 (a0_0 * (wrap64 (a1 - a2)))) + t169)) - (wrap64 (a0_2 * (wrap64 (a2 - a0_6)))))) 256).bind fun t170 => ((impl_Control_bound.f a0_0 a0_1 a0_2 a0_3 a0_4 t169 a0_6 t170 1).bind fun t171 => (some (a0_0, a0_1, a0_2, a0_3, a0_4, t169, a2, t171)))) = some (r1, r2, r3, r4, r5, r6, r7, r8) := H
        have A22 := Aside0.mk A220
        clear A220
        replace H := Option.bind_eq_some_iff.mp H
        obtain ⟨t170, A230, H⟩ := H
        replace H : ((impl_Control_bound.f a0_0 a0_1 a0_2 a0_3 a0_4 t169 a0_6 t170 1).bind fun t171 => (some (a0_0, a0_1, a0_2, a0_3, a0_4, t169, a2, t171))) = some (r1, r2, r3, r4, r5, r6, r7, r8) := H
        have A23 := Aside0.mk A230
        clear A230
        replace H := Option.bind_eq_some_iff.mp H
        obtain ⟨t171, A240, H⟩ := H
        replace H : (some (a0_0, a0_1, a0_2, a0_3, a0_4, t169, a2, t171)) = some (r1, r2, r3, r4, r5, r6, r7, r8) := H
        have A24 := Aside0.mk A240
        clear A240
        simp only [Option.some.injEq, Prod.mk.injEq] at H
        obtain ⟨rfl, rfl, rfl, rfl, rfl, rfl, rfl, rfl⟩ := H
        have hnb25 := NB162_163.out
        have hnc25 := NB163_162.out
        have hcz26_0 : wc.cell? ⟨gb162, 0, none⟩ = some (.int .i64 a0_0) := (blk_cell BK162.out 0).trans rfl
        have hcz26_1 : wc.cell? ⟨gb162, 1, none⟩ = some (.int .i64 a0_1) := (blk_cell BK162.out 1).trans rfl
        have hcz26_2 : wc.cell? ⟨gb162, 2, none⟩ = some (.int .i64 a0_2) := (blk_cell BK162.out 2).trans rfl
        have hcz26_3 : wc.cell? ⟨gb162, 3, none⟩ = some (.int .i64 a0_3) := (blk_cell BK162.out 3).trans rfl
        have hcz26_4 : wc.cell? ⟨gb162, 4, none⟩ = some (.int .i64 a0_4) := (blk_cell BK162.out 4).trans rfl
        have hcz26_5 : wc.cell? ⟨gb162, 5, none⟩ = some (.int .i64 a0_5) := (blk_cell BK162.out 5).trans rfl
        have hcz26_6 : wc.cell? ⟨gb162, 6, none⟩ = some (.int .i64 a0_6) := (blk_cell BK162.out 6).trans rfl
        have hfz26_0 := blk_frozen BK162.out 0
        have hfz26_1 := blk_frozen BK162.out 1
        have hfz26_2 := blk_frozen BK162.out 2
        have hfz26_3 := blk_frozen BK162.out 3
        have hfz26_4 := blk_frozen BK162.out 4
        have hfz26_5 := blk_frozen BK162.out 5
        have hfz26_6 := blk_frozen BK162.out 6
        try go_wp2_with (first | ((with_reducible refine gate_callee (f := 63) rfl ?_); refine goesL_ (some 32) rfl rfl Try.func63 (by kernel_rfl) rfl #[.agg #[.int .i64 a0_0, .int .i64 a0_1, .int .i64 a0_2, .int .i64 a0_3, .int .i64 a0_4, .int .i64 a0_5, .int .i64 a0_6], .int .i64 (wrap64 (a0_5 + (wrap64 (a0_1 * (wrap64 (a1 - a2)))))), .int .i64 256] rfl (by (try simp only [List.map_toArray, List.map_cons, List.map_nil]); first | done | rfl | (simp only [List.length_drop, List.length_take]; rfl)) ?_; (with_reducible refine (impl_Control_bound.calls a0_0 a0_1 a0_2 a0_3 a0_4 a0_5 a0_6 (wrap64 (a0_5 + (wrap64 (a0_1 * (wrap64 (a1 - a2)))))) 256 t169 _ A22.out).mono ?_); rintro e w27 ⟨rfl, hb⟩; refine ⟨_, rfl, ?_⟩; have n0_ := Aside0.mk (blk_below (g := gb162) (o := .cells #[.int .i64 a0_0, .int .i64 a0_1, .int .i64 a0_2, .int .i64 a0_3, .int .i64 a0_4, .int .i64 a0_5, .int .i64 a0_6] 27 (0, 0)) (by (with_reducible repeat (first | refine blk_drewN ?_ _ | refine blk_drew ?_ | refine blk_alloc ?_ _)); exact BK162.out) hb); have n1_ := Aside0.mk (blk_below (g := gb163) (o := .cells #[.int .i64 0, .int .i64 0, .int .i64 0, .int .i64 0, .int .i64 0, .int .i64 0, .int .i64 0] 27 (0, 0)) (by (with_reducible repeat (first | refine blk_drewN ?_ _ | refine blk_drew ?_ | refine blk_alloc ?_ _)); exact BK163.out) hb); have n2_ := Aside0.mk (below_step (by repeat (first | (with_reducible first | exact HB.out | apply below_alloc | apply pw_below_drewN | apply below_drew1 | refine below_set ?_ GE162.out | refine below_set ?_ GE163.out) | exact HB.out)) hb); clear BK162; clear BK163; clear HB; have BK162 := n0_; have BK163 := n1_; have HB := n2_; clear n0_ n1_ n2_; (try clear hb); (try clear hb2); (try clear hk); (try clear hi); have hcz28_0 : w27.cell? ⟨gb162, 0, none⟩ = some (.int .i64 a0_0) := (blk_cell BK162.out 0).trans rfl; have hcz28_1 : w27.cell? ⟨gb162, 1, none⟩ = some (.int .i64 a0_1) := (blk_cell BK162.out 1).trans rfl; have hcz28_2 : w27.cell? ⟨gb162, 2, none⟩ = some (.int .i64 a0_2) := (blk_cell BK162.out 2).trans rfl; have hcz28_3 : w27.cell? ⟨gb162, 3, none⟩ = some (.int .i64 a0_3) := (blk_cell BK162.out 3).trans rfl; have hcz28_4 : w27.cell? ⟨gb162, 4, none⟩ = some (.int .i64 a0_4) := (blk_cell BK162.out 4).trans rfl; have hcz28_5 : w27.cell? ⟨gb162, 5, none⟩ = some (.int .i64 a0_5) := (blk_cell BK162.out 5).trans rfl; have hcz28_6 : w27.cell? ⟨gb162, 6, none⟩ = some (.int .i64 a0_6) := (blk_cell BK162.out 6).trans rfl; have hfz28_0 := blk_frozen BK162.out 0; have hfz28_1 := blk_frozen BK162.out 1; have hfz28_2 := blk_frozen BK162.out 2; have hfz28_3 := blk_frozen BK162.out 3; have hfz28_4 := blk_frozen BK162.out 4; have hfz28_5 := blk_frozen BK162.out 5; have hfz28_6 := blk_frozen BK162.out 6))
        have n0_ : Aside0 ((w27.setCell ⟨gb162, 5, none⟩ (.int .i64 t169)).heap[gb162]? = some (.cells #[.int .i64 a0_0, .int .i64 a0_1, .int .i64 a0_2, .int .i64 a0_3, .int .i64 a0_4, .int .i64 t169, .int .i64 a0_6] 27 (0, 0))) := ⟨by (with_reducible repeat (first | refine blk_drewN ?_ _ | refine blk_drew ?_ | refine blk_alloc ?_ _)); refine blk_put (cs := #[.int .i64 a0_0, .int .i64 a0_1, .int .i64 a0_2, .int .i64 a0_3, .int .i64 a0_4, .int .i64 a0_5, .int .i64 a0_6]) ?_ 5 _ rfl; (with_reducible repeat (first | refine blk_drewN ?_ _ | refine blk_drew ?_ | refine blk_alloc ?_ _)); exact BK162.out⟩
        have n1_ : Aside0 ((w27.setCell ⟨gb162, 5, none⟩ (.int .i64 t169)).heap[gb163]? = some (.cells #[.int .i64 0, .int .i64 0, .int .i64 0, .int .i64 0, .int .i64 0, .int .i64 0, .int .i64 0] 27 (0, 0))) := ⟨by (with_reducible repeat (first | refine blk_drewN ?_ _ | refine blk_drew ?_ | refine blk_alloc ?_ _)); refine blk_far ?_ NB163_162.out _; (with_reducible repeat (first | refine blk_drewN ?_ _ | refine blk_drew ?_ | refine blk_alloc ?_ _)); exact BK163.out⟩
        have n2_ : Aside0 (Below w.heap.size w (w27.setCell ⟨gb162, 5, none⟩ (.int .i64 t169))) := ⟨by repeat (first | (with_reducible first | exact HB.out | apply below_alloc | apply pw_below_drewN | apply below_drew1 | refine below_set ?_ GE162.out | refine below_set ?_ GE163.out) | exact HB.out)⟩
        (try clear BK162)
        (try clear BK163)
        (try clear HB)
        generalize (w27.setCell ⟨gb162, 5, none⟩ (.int .i64 t169)) = w29 at n0_ n1_ n2_ ⊢
        have BK162 := n0_
        have BK163 := n1_
        have HB := n2_
        clear n0_ n1_ n2_
        have n0_ := Aside0.mk (blk_drew BK162.out)
        have n1_ := Aside0.mk (blk_drew BK163.out)
        have n2_ := Aside0.mk (below_drew1 HB.out)
        clear BK162
        clear BK163
        clear HB
        have BK162 := n0_
        have BK163 := n1_
        have HB := n2_
        clear n0_ n1_ n2_
        refine start_ (n := 19) (S := fun w' => w'.cell? ⟨gb162, 0, none⟩ = some (.int .i64 a0_0) ∧ w'.cell? ⟨gb162, 1, none⟩ = some (.int .i64 a0_1) ∧ w'.cell? ⟨gb162, 2, none⟩ = some (.int .i64 a0_2) ∧ w'.cell? ⟨gb162, 3, none⟩ = some (.int .i64 a0_3) ∧ w'.cell? ⟨gb162, 4, none⟩ = some (.int .i64 a0_4) ∧ w'.cell? ⟨gb162, 5, none⟩ = some (.int .i64 t169) ∧ w'.cell? ⟨gb162, 6, none⟩ = some (.int .i64 a0_6)) (ds := []) #[false, false, false, false, false, false, false, false, false, false, false, false, false, false, false, false, false, false, false] (by kernel_rfl) rfl rfl ⟨(blk_cell BK162.out 0).trans rfl, (blk_cell BK162.out 1).trans rfl, (blk_cell BK162.out 2).trans rfl, (blk_cell BK162.out 3).trans rfl, (blk_cell BK162.out 4).trans rfl, (blk_cell BK162.out 5).trans rfl, (blk_cell BK162.out 6).trans rfl⟩ (fun hHeld => ?_); refine with_tabW impl_ControlStep.tab5 impl_ControlStep.bits5 (fun HT_ HW_ => ?_)
        generalize w29.drew = w30 at BK162 BK163 HB hHeld ⊢
        refine pure_ (i := 1) (N := some 35) (v := ?_) (a' := ?_) #[false, true, false, false, false, false, false, false, false, false, false, false, false, false, false, false, false, false, false] rfl rfl (any_of HT_.out (by kernel_rfl)) (fun _ _ _ h => h) (Or.inl ⟨by rfl, ?_⟩) ?_ ?_
        rotate_left
        · intro w'
          go_simp
          with_reducible rfl
        rotate_left
        · simp only [Act.put, List.setIfInBounds_toArray, List.set_cons_zero, List.set_cons_succ, i64_w, i32_w]
          rfl
        refine pure_ (i := 3) (N := some 37) (v := ?_) (a' := ?_) #[false, true, false, true, false, false, false, false, false, false, false, false, false, false, false, false, false, false, false] rfl rfl (any_of HT_.out (by kernel_rfl)) (fun _ _ _ h => h) (Or.inl ⟨by rfl, ?_⟩) ?_ ?_
        rotate_left
        · intro w'
          go_simp
          with_reducible rfl
        rotate_left
        · simp only [Act.put, List.setIfInBounds_toArray, List.set_cons_zero, List.set_cons_succ, i64_w, i32_w]
          rfl
        refine pure_ (i := 5) (N := some 39) (v := ?_) (a' := ?_) #[false, true, false, true, false, true, false, false, false, false, false, false, false, false, false, false, false, false, false] rfl rfl (any_of HT_.out (by kernel_rfl)) (fun _ _ _ h => h) (Or.inl ⟨by rfl, ?_⟩) ?_ ?_
        rotate_left
        · intro w'
          go_simp
          with_reducible rfl
        rotate_left
        · simp only [Act.put, List.setIfInBounds_toArray, List.set_cons_zero, List.set_cons_succ, i64_w, i32_w]
          rfl
        refine pure_ (i := 8) (N := some 42) (v := ?_) (a' := ?_) #[false, true, false, true, false, true, false, false, true, false, false, false, false, false, false, false, false, false, false] rfl rfl (any_of HT_.out (by kernel_rfl)) (fun _ _ _ h => h) (Or.inl ⟨by rfl, ?_⟩) ?_ ?_
        rotate_left
        · intro w'
          go_simp
          with_reducible rfl
        rotate_left
        · simp only [Act.put, List.setIfInBounds_toArray, List.set_cons_zero, List.set_cons_succ, i64_w, i32_w]
          rfl
        refine pure_ (i := 10) (N := some 44) (v := ?_) (a' := ?_) #[false, true, false, true, false, true, false, false, true, false, true, false, false, false, false, false, false, false, false] rfl rfl (any_of HT_.out (by kernel_rfl)) (fun _ _ _ h => h) (Or.inl ⟨by rfl, ?_⟩) ?_ ?_
        rotate_left
        · intro w'
          go_simp
          with_reducible rfl
        rotate_left
        · simp only [Act.put, List.setIfInBounds_toArray, List.set_cons_zero, List.set_cons_succ, i64_w, i32_w]
          rfl
        refine pure_ (i := 11) (N := some 45) (v := ?_) (a' := ?_) #[false, true, false, true, false, true, false, false, true, false, true, true, false, false, false, false, false, false, false] rfl rfl (any_of HT_.out (by kernel_rfl)) (fun _ _ _ h => h) (Or.inl ⟨by rfl, ?_⟩) ?_ ?_
        rotate_left
        · intro w'
          go_simp
          with_reducible rfl
        rotate_left
        · simp only [Act.put, List.setIfInBounds_toArray, List.set_cons_zero, List.set_cons_succ, i64_w, i32_w]
          rfl
        refine take_ (i := 0) (N := some 34) (v := ?_) (a' := ?_) #[true, true, false, true, false, true, false, false, true, false, true, true, false, false, false, false, false, false, false] rfl rfl (take_ofW HT_.out HW_.out (by kernel_rfl)) (fun _ _ _ h => h) (Or.inl ⟨by rfl, ?_⟩) hHeld ?_ ?_
        rotate_left
        · rintro w' ⟨s0, s1, s2, s3, s4, s5, s6⟩
          go_simp
          with_reducible rfl
        rotate_left
        · simp only [Act.put, List.setIfInBounds_toArray, List.set_cons_zero, List.set_cons_succ, i64_w, i32_w]
          rfl
        refine take_ (i := 2) (N := some 36) (v := ?_) (a' := ?_) #[true, true, true, true, false, true, false, false, true, false, true, true, false, false, false, false, false, false, false] rfl rfl (take_ofW HT_.out HW_.out (by kernel_rfl)) (fun _ _ _ h => h) (Or.inl ⟨by rfl, ?_⟩) hHeld ?_ ?_
        rotate_left
        · rintro w' ⟨s0, s1, s2, s3, s4, s5, s6⟩
          go_simp
          with_reducible rfl
        rotate_left
        · simp only [Act.put, List.setIfInBounds_toArray, List.set_cons_zero, List.set_cons_succ, i64_w, i32_w]
          rfl
        refine pure_ (i := 4) (N := some 38) (v := ?_) (a' := ?_) #[true, true, true, true, true, true, false, false, true, false, true, true, false, false, false, false, false, false, false] rfl rfl (any_of HT_.out (by kernel_rfl)) (fun _ _ _ h => h) (Or.inl ⟨by rfl, ?_⟩) ?_ ?_
        rotate_left
        · intro w'
          go_simp
          with_reducible rfl
        rotate_left
        · simp only [Act.put, List.setIfInBounds_toArray, List.set_cons_zero, List.set_cons_succ, i64_w, i32_w]
          rfl
        refine take_ (i := 6) (N := some 40) (v := ?_) (a' := ?_) #[true, true, true, true, true, true, true, false, true, false, true, true, false, false, false, false, false, false, false] rfl rfl (take_ofW HT_.out HW_.out (by kernel_rfl)) (fun _ _ _ h => h) (Or.inl ⟨by rfl, ?_⟩) hHeld ?_ ?_
        rotate_left
        · rintro w' ⟨s0, s1, s2, s3, s4, s5, s6⟩
          go_simp
          with_reducible rfl
        rotate_left
        · simp only [Act.put, List.setIfInBounds_toArray, List.set_cons_zero, List.set_cons_succ, i64_w, i32_w]
          rfl
        refine pure_ (i := 7) (N := some 41) (v := ?_) (a' := ?_) #[true, true, true, true, true, true, true, true, true, false, true, true, false, false, false, false, false, false, false] rfl rfl (any_of HT_.out (by kernel_rfl)) (fun _ _ _ h => h) (Or.inl ⟨by rfl, ?_⟩) ?_ ?_
        rotate_left
        · intro w'
          go_simp
          with_reducible rfl
        rotate_left
        · simp only [Act.put, List.setIfInBounds_toArray, List.set_cons_zero, List.set_cons_succ, i64_w, i32_w]
          rfl
        refine take_ (i := 9) (N := some 43) (v := ?_) (a' := ?_) #[true, true, true, true, true, true, true, true, true, true, true, true, false, false, false, false, false, false, false] rfl rfl (take_ofW HT_.out HW_.out (by kernel_rfl)) (fun _ _ _ h => h) (Or.inl ⟨by rfl, ?_⟩) hHeld ?_ ?_
        rotate_left
        · rintro w' ⟨s0, s1, s2, s3, s4, s5, s6⟩
          go_simp
          with_reducible rfl
        rotate_left
        · simp only [Act.put, List.setIfInBounds_toArray, List.set_cons_zero, List.set_cons_succ, i64_w, i32_w]
          rfl
        refine take_ (i := 12) (N := some 46) (v := ?_) (a' := ?_) #[true, true, true, true, true, true, true, true, true, true, true, true, true, false, false, false, false, false, false] rfl rfl (take_ofW HT_.out HW_.out (by kernel_rfl)) (fun _ _ _ h => h) (Or.inl ⟨by rfl, ?_⟩) hHeld ?_ ?_
        rotate_left
        · rintro w' ⟨s0, s1, s2, s3, s4, s5, s6⟩
          go_simp
          with_reducible rfl
        rotate_left
        · simp only [Act.put, List.setIfInBounds_toArray, List.set_cons_zero, List.set_cons_succ, i64_w, i32_w]
          rfl
        refine pure_ (i := 13) (N := some 47) (v := ?_) (a' := ?_) #[true, true, true, true, true, true, true, true, true, true, true, true, true, true, false, false, false, false, false] rfl rfl (any_of HT_.out (by kernel_rfl)) (fun _ _ _ h => h) (Or.inl ⟨by rfl, ?_⟩) ?_ ?_
        rotate_left
        · intro w'
          go_simp
          with_reducible rfl
        rotate_left
        · simp only [Act.put, List.setIfInBounds_toArray, List.set_cons_zero, List.set_cons_succ, i64_w, i32_w]
          rfl
        refine pure_ (i := 14) (N := some 48) (v := ?_) (a' := ?_) #[true, true, true, true, true, true, true, true, true, true, true, true, true, true, true, false, false, false, false] rfl rfl (any_of HT_.out (by kernel_rfl)) (fun _ _ _ h => h) (Or.inl ⟨by rfl, ?_⟩) ?_ ?_
        rotate_left
        · intro w'
          go_simp
          with_reducible rfl
        rotate_left
        · simp only [Act.put, List.setIfInBounds_toArray, List.set_cons_zero, List.set_cons_succ, i64_w, i32_w]
          rfl
        refine pure_ (i := 15) (N := some 49) (v := ?_) (a' := ?_) #[true, true, true, true, true, true, true, true, true, true, true, true, true, true, true, true, false, false, false] rfl rfl (any_of HT_.out (by kernel_rfl)) (fun _ _ _ h => h) (Or.inl ⟨by rfl, ?_⟩) ?_ ?_
        rotate_left
        · intro w'
          go_simp
          with_reducible rfl
        rotate_left
        · simp only [Act.put, List.setIfInBounds_toArray, List.set_cons_zero, List.set_cons_succ, i64_w, i32_w]
          rfl
        refine one_ (i := 16) (N := some 50) #[true, true, true, true, true, true, true, true, true, true, true, true, true, true, true, true, true, false, false] rfl rfl (one_of HT_.out (by kernel_rfl)) (by decide) (fun K hK => ?_)
        refine goes_ Try.func62 (by kernel_rfl) rfl #[.int .i64 (wrap64 ((wrap64 ((wrap64 (a0_0 * (wrap64 (a1 - a2)))) + t169)) - (wrap64 (a0_2 * (wrap64 (a2 - a0_6)))))), .int .i64 256] (by rfl) rfl rfl (by (try simp only [List.map_toArray, List.map_cons, List.map_nil]); first | done | rfl | (simp only [List.length_drop, List.length_take]; rfl)) ?_
        with_reducible refine (impl_floor.calls (wrap64 ((wrap64 ((wrap64 (a0_0 * (wrap64 (a1 - a2)))) + t169)) - (wrap64 (a0_2 * (wrap64 (a2 - a0_6)))))) 256 t170 _ A23.out).mono ?_
        rintro e w' ⟨rfl, ⟨nd, rfl⟩⟩
        refine ⟨_, rfl, ?_⟩
        refine hK.out _ _ ⟨(blk_cell BK162.out 0).trans rfl, (blk_cell BK162.out 1).trans rfl, (blk_cell BK162.out 2).trans rfl, (blk_cell BK162.out 3).trans rfl, (blk_cell BK162.out 4).trans rfl, (blk_cell BK162.out 5).trans rfl, (blk_cell BK162.out 6).trans rfl⟩ (fun hHeld => ?_)
        clear hK K
        refine norm_ (a' := ?_) ?_ ?_
        rotate_left
        · show Act.put _ (some 50) _ = _
          simp only [Act.put, List.setIfInBounds_toArray, List.set_cons_zero, List.set_cons_succ, i64_w, i32_w]
          rfl
        refine one_ (i := 17) (N := some 51) #[true, true, true, true, true, true, true, true, true, true, true, true, true, true, true, true, true, true, false] rfl rfl (one_of HT_.out (by kernel_rfl)) (by decide) (fun K hK => ?_)
        refine goes_ Try.func63 (by kernel_rfl) rfl #[.agg #[.int .i64 a0_0, .int .i64 a0_1, .int .i64 a0_2, .int .i64 a0_3, .int .i64 a0_4, .int .i64 t169, .int .i64 a0_6], .int .i64 t170, .int .i64 1] (by rfl) rfl rfl (by (try simp only [List.map_toArray, List.map_cons, List.map_nil]); first | done | rfl | (simp only [List.length_drop, List.length_take]; rfl)) ?_
        with_reducible refine (impl_Control_bound.calls a0_0 a0_1 a0_2 a0_3 a0_4 t169 a0_6 t170 1 t171 _ A24.out).mono ?_
        rintro e w31 ⟨rfl, hb⟩
        refine ⟨_, rfl, ?_⟩
        have n0_ := Aside0.mk (blk_below (g := gb162) (o := .cells #[.int .i64 a0_0, .int .i64 a0_1, .int .i64 a0_2, .int .i64 a0_3, .int .i64 a0_4, .int .i64 t169, .int .i64 a0_6] 27 (0, 0)) (by (with_reducible repeat (first | refine blk_drewN ?_ _ | refine blk_drew ?_ | refine blk_alloc ?_ _)); exact BK162.out) hb)
        have n1_ := Aside0.mk (blk_below (g := gb163) (o := .cells #[.int .i64 0, .int .i64 0, .int .i64 0, .int .i64 0, .int .i64 0, .int .i64 0, .int .i64 0] 27 (0, 0)) (by (with_reducible repeat (first | refine blk_drewN ?_ _ | refine blk_drew ?_ | refine blk_alloc ?_ _)); exact BK163.out) hb)
        have n2_ := Aside0.mk (below_step (by repeat (first | (with_reducible first | exact HB.out | apply below_alloc | apply pw_below_drewN | apply below_drew1 | refine below_set ?_ GE162.out | refine below_set ?_ GE163.out) | exact HB.out)) hb)
        clear BK162
        clear BK163
        clear HB
        have BK162 := n0_
        have BK163 := n1_
        have HB := n2_
        clear n0_ n1_ n2_
        (try clear hb)
        (try clear hb2)
        (try clear hk)
        (try clear hi)
        refine hK.out _ _ ⟨(blk_cell BK162.out 0).trans rfl, (blk_cell BK162.out 1).trans rfl, (blk_cell BK162.out 2).trans rfl, (blk_cell BK162.out 3).trans rfl, (blk_cell BK162.out 4).trans rfl, (blk_cell BK162.out 5).trans rfl, (blk_cell BK162.out 6).trans rfl⟩ (fun hHeld => ?_)
        clear hK K
        refine norm_ (a' := ?_) ?_ ?_
        rotate_left
        · show Act.put _ (some 51) _ = _
          simp only [Act.put, List.setIfInBounds_toArray, List.set_cons_zero, List.set_cons_succ, i64_w, i32_w]
          rfl
        refine pure_ (i := 18) (N := some 9) (v := ?_) (a' := ?_) #[true, true, true, true, true, true, true, true, true, true, true, true, true, true, true, true, true, true, true] rfl rfl (any_of HT_.out (by kernel_rfl)) (fun _ _ _ h => h) (Or.inl ⟨by rfl, ?_⟩) ?_ ?_
        rotate_left
        · intro w'
          go_simp
          with_reducible rfl
        rotate_left
        · simp only [Act.put, List.setIfInBounds_toArray, List.set_cons_zero, List.set_cons_succ, i64_w, i32_w]
          rfl
        refine done_ (done_of HT_.out (by kernel_rfl)) ?_
        have hcz32_0 : w31.cell? ⟨gb162, 0, none⟩ = some (.int .i64 a0_0) := (blk_cell BK162.out 0).trans rfl
        have hcz32_1 : w31.cell? ⟨gb162, 1, none⟩ = some (.int .i64 a0_1) := (blk_cell BK162.out 1).trans rfl
        have hcz32_2 : w31.cell? ⟨gb162, 2, none⟩ = some (.int .i64 a0_2) := (blk_cell BK162.out 2).trans rfl
        have hcz32_3 : w31.cell? ⟨gb162, 3, none⟩ = some (.int .i64 a0_3) := (blk_cell BK162.out 3).trans rfl
        have hcz32_4 : w31.cell? ⟨gb162, 4, none⟩ = some (.int .i64 a0_4) := (blk_cell BK162.out 4).trans rfl
        have hcz32_5 : w31.cell? ⟨gb162, 5, none⟩ = some (.int .i64 t169) := (blk_cell BK162.out 5).trans rfl
        have hcz32_6 : w31.cell? ⟨gb162, 6, none⟩ = some (.int .i64 a0_6) := (blk_cell BK162.out 6).trans rfl
        have hfz32_0 := blk_frozen BK162.out 0
        have hfz32_1 := blk_frozen BK162.out 1
        have hfz32_2 := blk_frozen BK162.out 2
        have hfz32_3 := blk_frozen BK162.out 3
        have hfz32_4 := blk_frozen BK162.out 4
        have hfz32_5 := blk_frozen BK162.out 5
        have hfz32_6 := blk_frozen BK162.out 6
        have hcz33_0 : w31.cell? ⟨gb163, 0, none⟩ = some (.int .i64 0) := (blk_cell BK163.out 0).trans rfl
        have hcz33_1 : w31.cell? ⟨gb163, 1, none⟩ = some (.int .i64 0) := (blk_cell BK163.out 1).trans rfl
        have hcz33_2 : w31.cell? ⟨gb163, 2, none⟩ = some (.int .i64 0) := (blk_cell BK163.out 2).trans rfl
        have hcz33_3 : w31.cell? ⟨gb163, 3, none⟩ = some (.int .i64 0) := (blk_cell BK163.out 3).trans rfl
        have hcz33_4 : w31.cell? ⟨gb163, 4, none⟩ = some (.int .i64 0) := (blk_cell BK163.out 4).trans rfl
        have hcz33_5 : w31.cell? ⟨gb163, 5, none⟩ = some (.int .i64 0) := (blk_cell BK163.out 5).trans rfl
        have hcz33_6 : w31.cell? ⟨gb163, 6, none⟩ = some (.int .i64 0) := (blk_cell BK163.out 6).trans rfl
        have hfz33_0 := blk_frozen BK163.out 0
        have hfz33_1 := blk_frozen BK163.out 1
        have hfz33_2 := blk_frozen BK163.out 2
        have hfz33_3 := blk_frozen BK163.out 3
        have hfz33_4 := blk_frozen BK163.out 4
        have hfz33_5 := blk_frozen BK163.out 5
        have hfz33_6 := blk_frozen BK163.out 6
        try go_wp2
        refine bodyPost_ret (results_ct rfl _ _ gb163 27 #[.int .i64 a0_0, .int .i64 a0_1, .int .i64 a0_2, .int .i64 a0_3, .int .i64 a0_4, .int .i64 t169, .int .i64 a2] (0, 0) _ rfl (by (with_reducible repeat (first | refine blk_drewN ?_ _ | refine blk_drew ?_ | refine blk_alloc ?_ _)); refine blk_put (cs := #[.int .i64 a0_0, .int .i64 a0_1, .int .i64 a0_2, .int .i64 a0_3, .int .i64 a0_4, .int .i64 t169, .int .i64 0]) ?_ 6 _ rfl; (with_reducible repeat (first | refine blk_drewN ?_ _ | refine blk_drew ?_ | refine blk_alloc ?_ _)); refine blk_put (cs := #[.int .i64 a0_0, .int .i64 a0_1, .int .i64 a0_2, .int .i64 a0_3, .int .i64 a0_4, .int .i64 0, .int .i64 0]) ?_ 5 _ rfl; (with_reducible repeat (first | refine blk_drewN ?_ _ | refine blk_drew ?_ | refine blk_alloc ?_ _)); refine blk_put (cs := #[.int .i64 a0_0, .int .i64 a0_1, .int .i64 a0_2, .int .i64 a0_3, .int .i64 0, .int .i64 0, .int .i64 0]) ?_ 4 _ rfl; (with_reducible repeat (first | refine blk_drewN ?_ _ | refine blk_drew ?_ | refine blk_alloc ?_ _)); refine blk_put (cs := #[.int .i64 a0_0, .int .i64 a0_1, .int .i64 a0_2, .int .i64 0, .int .i64 0, .int .i64 0, .int .i64 0]) ?_ 3 _ rfl; (with_reducible repeat (first | refine blk_drewN ?_ _ | refine blk_drew ?_ | refine blk_alloc ?_ _)); refine blk_put (cs := #[.int .i64 a0_0, .int .i64 a0_1, .int .i64 0, .int .i64 0, .int .i64 0, .int .i64 0, .int .i64 0]) ?_ 2 _ rfl; (with_reducible repeat (first | refine blk_drewN ?_ _ | refine blk_drew ?_ | refine blk_alloc ?_ _)); refine blk_put (cs := #[.int .i64 a0_0, .int .i64 0, .int .i64 0, .int .i64 0, .int .i64 0, .int .i64 0, .int .i64 0]) ?_ 1 _ rfl; (with_reducible repeat (first | refine blk_drewN ?_ _ | refine blk_drew ?_ | refine blk_alloc ?_ _)); refine blk_put (cs := #[.int .i64 0, .int .i64 0, .int .i64 0, .int .i64 0, .int .i64 0, .int .i64 0, .int .i64 0]) ?_ 0 _ rfl; (with_reducible repeat (first | refine blk_drewN ?_ _ | refine blk_drew ?_ | refine blk_alloc ?_ _)); refine blk_far ?_ NB163_162.out _; (with_reducible repeat (first | refine blk_drewN ?_ _ | refine blk_drew ?_ | refine blk_alloc ?_ _)); exact BK163.out) Try.underlying27 rfl (by kernel_rfl)) rfl ?_
        exact ⟨by first | rfl | (simp [errW_none, errW_some] <;> rfl) | (simp [*, errW_none, errW_some] <;> rfl), by repeat (first | (with_reducible first | exact HB.out | apply below_alloc | apply pw_below_drewN | apply below_drew1 | refine below_set ?_ GE162.out | refine below_set ?_ GE163.out) | exact HB.out)⟩

end Go.Proofs.Ytimmlippglpmnaa.GFnExactControlTrace

/- Functions of the program as Lean functions, with proofs that the machine comes to their answers; written by this session's program mkprint.py; no condition beyond each theorem's own. -/
import Derived.Test.YtmlhkalgaeemaaaGFnExactNegateLogicx0
import Derived.Test.YtmlhkalgaeemaaaGFnExactNegateLogicx1
import Derived.Test.YtmlhkalgaeemaaaGFnExactNegateLogicx2
import Derived.Test.YtmlhkalgaeemaaaGFnExactNegateLogicx3
namespace Go.Proofs.Ytmlhkalgaeemaaa.GFnExactNegateLogic
open Go.RowKit Go.Proofs.YtmlhkalgaeemaaaV.PrintWords Go.Proofs.YtmlhkalgaeemaaaV.PrintLast Go.Proofs.YtmlhkalgaeemaaaV.PrintMore
attribute [local go_sem] max2_int min2_int max_two min_two max_three min_three max_four min_four   -- for this text's walks alone
set_option linter.unusedVariables false
set_option linter.unusedSimpArgs false

/-! ### impl_Node_71: function 71 -/
mutual
def impl_Node_71.l0 : Nat → List (List (S75)) → Int → List (List (S75)) → Int → Int → Option ((List (S75)))
  | 0, _, _, _, _, _ => none
  | k + 1, x0, x3, x9, x10, x11 => if x11 < x10 then (if 0 ≤ x11 then (if x11 < (x9.length : Int) then (if (wrap64 (x3 + ((rd_L3 x9 x11).length : Int))) < 0 then (none) else (impl_Node_71.l0 k x0 (wrap64 (x3 + ((rd_L3 x9 x11).length : Int))) x9 x10 (wrap64 (x11 + 1)))) else (none)) else (none)) else ((impl_Node_96.f ([] : List (S75)) x3).bind fun t171 => (impl_Node_71.l1 k t171 x0 (x0.length : Int) 0))
def impl_Node_71.l1 : Nat → List (S75) → List (List (S75)) → Int → Int → Option ((List (S75)))
  | 0, _, _, _, _ => none
  | k + 1, x6, x25, x26, x27 => if x27 < x26 then (if 0 ≤ x27 then (if x27 < (x25.length : Int) then (if x6.length + (rd_L3 x25 x27).length < 8796093022208 then (impl_Node_71.l1 k (x6 ++ (rd_L3 x25 x27)) x25 x26 (wrap64 (x27 + 1))) else (none)) else (none)) else (none)) else (some x6)
end
def impl_Node_71.f (k : Nat) (l0 : List (List (S75))) : Option ((List (S75))) := impl_Node_71.l0 k l0 0 l0 (l0.length : Int) 0
theorem impl_Node_71.mono_l : ∀ k, (∀ y0 y1 y2 y3 y4, LeO (impl_Node_71.l0 k y0 y1 y2 y3 y4) (impl_Node_71.l0 (k + 1) y0 y1 y2 y3 y4)) ∧ (∀ y0 y1 y2 y3, LeO (impl_Node_71.l1 k y0 y1 y2 y3) (impl_Node_71.l1 (k + 1) y0 y1 y2 y3))
  | 0 => ⟨fun _ _ _ _ _ r h => by simp [impl_Node_71.l0] at h, fun _ _ _ _ r h => by simp [impl_Node_71.l1] at h⟩
  | k + 1 => by
    obtain ⟨ih0, ih1⟩ := impl_Node_71.mono_l k
    refine ⟨?_, ?_⟩
    · intro y0 y1 y2 y3 y4
      unfold impl_Node_71.l0
      repeat' first
      | (with_reducible exact ih0 _ _ _ _ _)
      | (with_reducible exact ih1 _ _ _ _)
      | (with_reducible exact LeO.refl _)
      | (with_reducible exact LeO.none _)
      | (with_reducible refine LeO.ite ?_ ?_)
      | (with_reducible refine LeO.bind ?_ (fun _ => ?_))
      | exact ih0 _ _ _ _ _
      | exact ih1 _ _ _ _
      | exact LeO.none _
      | refine LeO.ite ?_ ?_
      | refine LeO.bind ?_ (fun _ => ?_)
    · intro y0 y1 y2 y3
      unfold impl_Node_71.l1
      repeat' first
      | (with_reducible exact ih0 _ _ _ _ _)
      | (with_reducible exact ih1 _ _ _ _)
      | (with_reducible exact LeO.refl _)
      | (with_reducible exact LeO.none _)
      | (with_reducible refine LeO.ite ?_ ?_)
      | (with_reducible refine LeO.bind ?_ (fun _ => ?_))
      | exact ih0 _ _ _ _ _
      | exact ih1 _ _ _ _
      | exact LeO.none _
      | refine LeO.ite ?_ ?_
      | refine LeO.bind ?_ (fun _ => ?_)
theorem impl_Node_71.mono : ∀ a0 k, LeO (impl_Node_71.f k a0) (impl_Node_71.f (k + 1) a0) := by
  intro a0 k
  obtain ⟨ih0, ih1⟩ := impl_Node_71.mono_l k
  unfold impl_Node_71.f
  repeat' first
      | (with_reducible exact ih0 _ _ _ _ _)
      | (with_reducible exact ih1 _ _ _ _)
      | (with_reducible exact LeO.refl _)
      | (with_reducible exact LeO.none _)
      | (with_reducible refine LeO.ite ?_ ?_)
      | (with_reducible refine LeO.bind ?_ (fun _ => ?_))
      | exact ih0 _ _ _ _ _
      | exact ih1 _ _ _ _
      | exact LeO.none _
      | refine LeO.ite ?_ ?_
      | refine LeO.bind ?_ (fun _ => ?_)
set_option maxHeartbeats 8000000 in
set_option maxRecDepth 100000 in
theorem impl_Node_71.calls (k : Nat) (A0 : Option Addr) (c0 : Nat) (l0 : List (List (S75))) (r : List (S75)) (w : World) (hr0 : Kd.C (Kd.slice 75 k75) w A0 l0.length l0) (hc0 : l0.length ≤ c0) (h : impl_Node_71.f k l0 = some r) :
    Calls Try.prog 71 #[.slice A0 l0.length c0] w fun e w' => ∃ v0_ : Value, e = .returned (v0_) ∧ Kd.R k75 75 w' w.heap.size (fun _ => True) v0_ r ∧ Below w.heap.size w w' := by
  have HR0 := Aside0.mk hr0
  have HC0 := Aside0.mk hc0
  clear hr0 hc0
  have HB := Aside0.mk (Below.refl w.heap.size w)
  have H : (impl_Node_71.l0 k l0 0 l0 (l0.length : Int) 0) = some r := h
  clear h
  have H' := Aside0.mk H
  clear H
  go_enter Try.func71, Try.ntmps71
  go_wp2
  go_loopg [3, 11] k (fun kq v3 v11 w' => ∃ (x3_1 : Int) (x11_1 : Int), v3 = .int .i64 x3_1 ∧ v11 = .int .i64 x11_1 ∧ Aside0 (impl_Node_71.l0 kq l0 x3_1 l0 (l0.length : Int) x11_1 = some r) ∧ Aside0 (kq ≤ k) ∧ Aside0 (Below w.heap.size w w'))
  case atStart => exact ⟨(0), (0), (by first | rfl | (simp; done) | (simp [*]; done)), (by first | rfl | (simp; done) | (simp [*]; done)), H', ⟨Nat.le_refl _⟩, ⟨by repeat (first | (with_reducible first | exact HB.out | apply below_alloc | apply pw_below_drewN | apply below_drew1) | exact HB.out)⟩⟩
  case round =>
    clear H'
    obtain ⟨x3_1, x11_1, rfl, rfl, HA, HK1, HB⟩ := hrel
    cases gk with
    | zero => exact absurd HA.out (by simp [impl_Node_71.l0])
    | succ k1 =>
      have H := HA.out
      clear HA
      simp only [impl_Node_71.l0] at H
      by_cases c2 : x11_1 < (l0.length : Int)
      · rw [if_pos c2] at H
        have c2b0 : decide (x11_1 < (l0.length : Int)) = true := decide_eq_true c2
        clear c2
        by_cases c3 : 0 ≤ x11_1
        · rw [if_pos c3] at H
          have c3b0 : decide (0 ≤ x11_1) = true := decide_eq_true c3
          clear c3
          by_cases c4 : x11_1 < (l0.length : Int)
          · rw [if_pos c4] at H
            have c4b0 : decide (x11_1 < (l0.length : Int)) = true := decide_eq_true c4
            clear c4
            by_cases c5 : (wrap64 (x3_1 + ((rd_L3 l0 x11_1).length : Int))) < 0
            · rw [if_pos c5] at H
              exact absurd H (by simp)
            · rw [if_neg c5] at H
              have c5b0 : decide ((wrap64 (x3_1 + ((rd_L3 l0 x11_1).length : Int))) < 0) = false := decide_eq_false c5
              clear c5
              have H' := Aside0.mk H
              clear H
              have p170 : 0 ≤ (x11_1 : Int) := of_decide_eq_true (by first | (with_reducible assumption) | assumption)
              have q170 : x11_1 < (l0.length : Int) := of_decide_eq_true (by first | (with_reducible assumption) | assumption)
              obtain ⟨ad170, A170_0, c170_0, e170, hx170_0, hl170_0, hi170_0⟩ := at_L3 HR0.out x11_1 p170 q170
              cases e170
              replace hx170_0 := (HB.out.cell (World.block_lt_of_cell? w _ hx170_0)).trans hx170_0
              have HR170_0 := Aside0.mk hi170_0
              have HC170_0 := Aside0.mk hl170_0
              clear hi170_0 hl170_0
              replace p170 := eq_true p170
              replace q170 := eq_true q170
              go_wp2
              go_roundg k1
              case measure => have := HK1.out; omega
              case rel => exact ⟨(wrap64 (x3_1 + ((rd_L3 l0 x11_1).length : Int))), (wrap64 (x11_1 + 1)), (by first | rfl | (simp; done) | (simp [*]; done)), (by first | rfl | (simp; done) | (simp [*]; done)), H', ⟨by have := HK1.out; omega⟩, ⟨by repeat (first | (with_reducible first | exact HB.out | apply below_alloc | apply pw_below_drewN | apply below_drew1) | exact HB.out)⟩⟩
          · rw [if_neg c4] at H
            exact absurd H (by simp)
        · rw [if_neg c3] at H
          exact absurd H (by simp)
      · rw [if_neg c2] at H
        have c2b0 : decide (x11_1 < (l0.length : Int)) = false := decide_eq_false c2
        clear c2
        replace H := Option.bind_eq_some_iff.mp H
        obtain ⟨t171, A60, H⟩ := H
        replace H : (impl_Node_71.l1 k1 t171 l0 (l0.length : Int) 0) = some r := H
        have A6 := Aside0.mk A60
        clear A60
        have H' := Aside0.mk H
        clear H
        go_wp2_with (first | ((with_reducible refine gate_callee (f := 96) rfl ?_); refine goesL_ (some 24) rfl rfl Try.func96 (by kernel_rfl) rfl #[.slice none 0 0, .int .i64 x3_1] rfl (by (try simp only [List.map_toArray, List.map_cons, List.map_nil]); first | done | rfl | (simp only [List.length_drop, List.length_take]; rfl)) ?_; (refine (impl_Node_96.calls _ _ ([] : List (S75)) x3_1 t171 _ ?side1 ?side2 A6.out).mono ?_); (case side1 => exact Kd.C_nil _ _); (case side2 => exact Nat.le_refl _); rintro e w7 ⟨v172, rfl, ho0, hb⟩; refine ⟨_, rfl, ?_⟩; have n0_ := Aside0.mk (Kd.R_lower ho0 (below_size (by repeat (first | (with_reducible first | exact HB.out | apply below_alloc | apply pw_below_drewN | apply below_drew1) | exact HB.out)))); have n1_ := Aside0.mk (below_step (by repeat (first | (with_reducible first | exact HB.out | apply below_alloc | apply pw_below_drewN | apply below_drew1) | exact HB.out)) hb); clear HB; have HO173 := n0_; have HB := n1_; clear n0_ n1_; (try clear hb); (try clear hb2); (try clear hk); (try clear hi); (try clear ho0)))
        go_loopg [6, 27] k1 (fun kq v6 v27 w' => ∃ (x6_2 : List (S75)) (x27_2 : Int), v27 = .int .i64 x27_2 ∧ Aside0 (impl_Node_71.l1 kq x6_2 l0 (l0.length : Int) x27_2 = some r) ∧ Aside0 (kq ≤ k1) ∧ Aside0 (Kd.R k75 75 w' w.heap.size (fun _ => True) v6 x6_2) ∧ Aside0 (Below w.heap.size w w'))
        case atStart => exact ⟨(t171), (0), (by first | rfl | (simp; done) | (simp [*]; done)), H', ⟨Nat.le_refl _⟩, ⟨by (with_reducible repeat (first | apply Kd.R_alloc | apply Kd.R_drewN | apply Kd.R_drew)); exact HO173.out⟩, ⟨by repeat (first | (with_reducible first | exact HB.out | apply below_alloc | apply pw_below_drewN | apply below_drew1) | exact HB.out)⟩⟩
        case round =>
          clear H'
          try clear c1
          try clear p1
          try clear q1
          try clear hx1
          try clear c2
          try clear c2b0
          try clear p2
          try clear c3
          try clear c3b0
          try clear c4
          try clear c4b0
          try clear c5
          try clear c5b0
          try clear p6
          try clear c7
          try clear hx170_0
          try clear p170
          try clear q170
          obtain ⟨x6_2, x27_2, rfl, HA, HK2, HO_6, HB⟩ := hrel
          cases gk with
          | zero => exact absurd HA.out (by simp [impl_Node_71.l1])
          | succ k2 =>
            have H := HA.out
            clear HA
            simp only [impl_Node_71.l1] at H
            by_cases c8 : x27_2 < (l0.length : Int)
            · rw [if_pos c8] at H
              have c8b0 : decide (x27_2 < (l0.length : Int)) = true := decide_eq_true c8
              clear c8
              by_cases c9 : 0 ≤ x27_2
              · rw [if_pos c9] at H
                have c9b0 : decide (0 ≤ x27_2) = true := decide_eq_true c9
                clear c9
                by_cases c10 : x27_2 < (l0.length : Int)
                · rw [if_pos c10] at H
                  have c10b0 : decide (x27_2 < (l0.length : Int)) = true := decide_eq_true c10
                  clear c10
                  by_cases c11 : x6_2.length + (rd_L3 l0 x27_2).length < 8796093022208
                  · rw [if_pos c11] at H
                    have LMc11 := Aside0.mk c11
                    clear c11
                    obtain ⟨y175, hy175⟩ : ∃ y_ : List (S75), y_ = (x6_2 ++ (rd_L3 l0 x27_2)) := ⟨_, rfl⟩
                    replace H : (impl_Node_71.l1 k2 y175 l0 (l0.length : Int) (wrap64 (x27_2 + 1))) = some r := by first | (rw [hy175]; with_reducible exact H) | (have H2_ := (Option.bind_some _ _).symm.trans H; rw [hy175]; with_reducible exact H2_) | (have H2_ := (Option.bind_some _ _).symm.trans H; with_reducible exact H2_) | with_reducible exact H | (rw [hy175]; exact H) | exact H
                    have Ny175 := Aside0.mk hy175
                    clear hy175
                    have H' := Aside0.mk H
                    clear H
                    have p174 : 0 ≤ (x27_2 : Int) := of_decide_eq_true (by first | (with_reducible assumption) | assumption)
                    have q174 : x27_2 < (l0.length : Int) := of_decide_eq_true (by first | (with_reducible assumption) | assumption)
                    obtain ⟨ad174, A174_0, c174_0, e174, hx174_0, hl174_0, hi174_0⟩ := at_L3 HR0.out x27_2 p174 q174
                    cases e174
                    replace hx174_0 := (HB.out.cell (World.block_lt_of_cell? w _ hx174_0)).trans hx174_0
                    have HR174_0 := Aside0.mk hi174_0
                    have HC174_0 := Aside0.mk hl174_0
                    clear hi174_0 hl174_0
                    replace p174 := eq_true p174
                    replace q174 := eq_true q174
                    go_wp2_with (first | ((with_reducible refine gate_builtin (b := .append) (xs := #[.tmp 31, .tmp 32]) rfl ?_); at_builtin; refine Kd.R_append_rows k75 (w0 := w) w.heap.size rfl (.tmp 31) (.tmp 32) 26 75 (.agg #[(.int .i64 0), (.int .i64 0)]) 16 rfl Try.underlying26 info75 rfl (by decide) (by omega) u6 x6_2 (rd_L3 l0 x27_2) _ _ _ (fun _ => True) (fun _ => False) rfl rfl ?aO ?aR (fun _ _ h => h) (fun _ h => h.elim) ?aF ?aB ?aS ?aL ?_; (case aR => repeat (first | exact (Kd.C_below HR174_0.out HB.out) | (with_reducible refine Kd.C_alloc ?_ _) | (with_reducible refine Kd.C_drewN ?_ _) | (with_reducible refine Kd.C_drew ?_))); (case aB => exact (by repeat (first | (with_reducible first | exact HB.out | apply below_alloc | apply pw_below_drewN | apply below_drew1) | exact HB.out))); (case aF => exact (fun _ _ => trivial)); (case aO => exact (by (with_reducible repeat (first | apply Kd.R_alloc | apply Kd.R_drewN | apply Kd.R_drew)); exact HO_6.out)); (case aS => exact (below_size (by repeat (first | (with_reducible first | exact HB.out | apply below_alloc | apply pw_below_drewN | apply below_drew1) | exact HB.out)))); (case aL => have := LMc11.out; omega); intro v176 w12 ho hb hg hat; rw [← Ny175.out] at ho; have n0_ := Aside0.mk (hb); have n1_ := Aside0.mk (ho); clear HB; clear HO_6; have HB := n0_; have HO177 := n1_; clear n0_ n1_; clear ho hb hg hat))
                    go_roundg k2
                    case measure => have := HK1.out; have := HK2.out; omega
                    case rel => exact ⟨(y175), (wrap64 (x27_2 + 1)), (by first | rfl | (simp; done) | (simp [*]; done)), H', ⟨by have := HK1.out; have := HK2.out; omega⟩, ⟨by (with_reducible repeat (first | apply Kd.R_alloc | apply Kd.R_drewN | apply Kd.R_drew)); exact HO177.out⟩, ⟨by repeat (first | (with_reducible first | exact HB.out | apply below_alloc | apply pw_below_drewN | apply below_drew1) | exact HB.out)⟩⟩
                  · rw [if_neg c11] at H
                    exact absurd H (by simp)
                · rw [if_neg c10] at H
                  exact absurd H (by simp)
              · rw [if_neg c9] at H
                exact absurd H (by simp)
            · rw [if_neg c8] at H
              have c8b0 : decide (x27_2 < (l0.length : Int)) = false := decide_eq_false c8
              clear c8
              obtain rfl := Option.some.inj H
              go_wp2
              go_ret
              exact ⟨_, by first | rfl | (simp [errW_none, errW_some] <;> rfl) | (simp [*, errW_none, errW_some] <;> rfl), by (with_reducible repeat (first | apply Kd.R_alloc | apply Kd.R_drewN | apply Kd.R_drew)); exact HO_6.out, by repeat (first | (with_reducible first | exact HB.out | apply below_alloc | apply pw_below_drewN | apply below_drew1) | exact HB.out)⟩

/-! ### impl_NegateLogic: function 30 -/
def impl_NegateLogic.f (k : Nat) (l0 : List (S75)) : Option ((List (S75))) := (impl_LogicValid.f k l0 16).bind fun t178 => (if t178 = true then (if 0 ≤ (wrap64 ((l0.length : Int) - 1)) then (if (wrap64 ((l0.length : Int) - 1)) < (l0.length : Int) then (if ((rd_T75 l0 (wrap64 ((l0.length : Int) - 1))).f0) = 2 then (if (wrap64 ((l0.length : Int) - 1)) ≤ (l0.length : Int) then ((impl_Node_70.f (l0.take ((wrap64 ((l0.length : Int) - 1)) : Int).toNat)).bind fun t185 => (some t185)) else (none)) else (if (l0.length : Int) = 24 then (some ([] : List (S75))) else ((impl_Node_71.f k (([l0, (([(⟨2, 0⟩ : S75)] : List (S75)))] : List (List (S75))))).bind fun t194 => (some t194)))) else (none)) else (none)) else (some ([] : List (S75))))
theorem impl_NegateLogic.mono : ∀ a0 k, LeO (impl_NegateLogic.f k a0) (impl_NegateLogic.f (k + 1) a0) := by
  intro a0 k
  unfold impl_NegateLogic.f
  repeat' first
      | (with_reducible exact impl_LogicValid.mono _ _ _)
      | (with_reducible exact impl_Node_71.mono _ _)
      | (with_reducible exact LeO.refl _)
      | (with_reducible exact LeO.none _)
      | (with_reducible refine LeO.ite ?_ ?_)
      | (with_reducible refine LeO.bind ?_ (fun _ => ?_))
      | exact impl_LogicValid.mono _ _ _
      | exact impl_Node_71.mono _ _
      | exact LeO.none _
      | refine LeO.ite ?_ ?_
      | refine LeO.bind ?_ (fun _ => ?_)
set_option maxHeartbeats 8000000 in
set_option maxRecDepth 100000 in
theorem impl_NegateLogic.calls (k : Nat) (P0_ : Nat → Prop) (A0 : Option Addr) (c0 : Nat) (l0 : List (S75)) (r : List (S75)) (w : World) (hs0 : Kd.V k75 75 w w.heap.size (fun k_ => P0_ k_) (.slice A0 l0.length c0) l0) (h : impl_NegateLogic.f k l0 = some r) :
    Calls Try.prog 30 #[.slice A0 l0.length c0] w fun e w' => ∃ v0_ : Value, e = .returned (v0_) ∧ Kd.Q k75 75 w' w.heap.size (fun k_ => (w.heap.size ≤ k_)) v0_ r ∧ Below w.heap.size w w' := by
  have hu75 := Try.underlying75
  have HO0 := Aside0.mk (show Kd.V k75 75 w w.heap.size (fun k_ => (P0_ k_ ∨ w.heap.size ≤ k_)) (.slice A0 l0.length c0) l0 from Kd.V_mono hs0 (fun k_ hk => .inl hk))
  have HB := Aside0.mk (Below.refl w.heap.size w)
  have H : ((impl_LogicValid.f k l0 16).bind fun t178 => (if t178 = true then (if 0 ≤ (wrap64 ((l0.length : Int) - 1)) then (if (wrap64 ((l0.length : Int) - 1)) < (l0.length : Int) then (if ((rd_T75 l0 (wrap64 ((l0.length : Int) - 1))).f0) = 2 then (if (wrap64 ((l0.length : Int) - 1)) ≤ (l0.length : Int) then ((impl_Node_70.f (l0.take ((wrap64 ((l0.length : Int) - 1)) : Int).toNat)).bind fun t185 => (some t185)) else (none)) else (if (l0.length : Int) = 24 then (some ([] : List (S75))) else ((impl_Node_71.f k (([l0, (([(⟨2, 0⟩ : S75)] : List (S75)))] : List (List (S75))))).bind fun t194 => (some t194)))) else (none)) else (none)) else (some ([] : List (S75))))) = some r := h
  clear h
  replace H := Option.bind_eq_some_iff.mp H
  obtain ⟨t178, A20, H⟩ := H
  replace H : (if t178 = true then (if 0 ≤ (wrap64 ((l0.length : Int) - 1)) then (if (wrap64 ((l0.length : Int) - 1)) < (l0.length : Int) then (if ((rd_T75 l0 (wrap64 ((l0.length : Int) - 1))).f0) = 2 then (if (wrap64 ((l0.length : Int) - 1)) ≤ (l0.length : Int) then ((impl_Node_70.f (l0.take ((wrap64 ((l0.length : Int) - 1)) : Int).toNat)).bind fun t185 => (some t185)) else (none)) else (if (l0.length : Int) = 24 then (some ([] : List (S75))) else ((impl_Node_71.f k (([l0, (([(⟨2, 0⟩ : S75)] : List (S75)))] : List (List (S75))))).bind fun t194 => (some t194)))) else (none)) else (none)) else (some ([] : List (S75)))) = some r := H
  have A2 := Aside0.mk A20
  clear A20
  by_cases c3 : t178 = true
  · subst c3
    have H1 : (if 0 ≤ (wrap64 ((l0.length : Int) - 1)) then (if (wrap64 ((l0.length : Int) - 1)) < (l0.length : Int) then (if ((rd_T75 l0 (wrap64 ((l0.length : Int) - 1))).f0) = 2 then (if (wrap64 ((l0.length : Int) - 1)) ≤ (l0.length : Int) then ((impl_Node_70.f (l0.take ((wrap64 ((l0.length : Int) - 1)) : Int).toNat)).bind fun t185 => (some t185)) else (none)) else (if (l0.length : Int) = 24 then (some ([] : List (S75))) else ((impl_Node_71.f k (([l0, (([(⟨2, 0⟩ : S75)] : List (S75)))] : List (List (S75))))).bind fun t194 => (some t194)))) else (none)) else (none)) = some r := by rw [if_pos rfl] at H; exact H
    clear H
    have H := H1
    clear H1
    obtain ⟨ji4, hji4⟩ : ∃ j_ : Int, (wrap64 ((l0.length : Int) - 1)) = j_ := ⟨_, rfl⟩
    replace H : (if 0 ≤ (ji4) then (if (ji4) < (l0.length : Int) then (if ((rd_T75 l0 (ji4)).f0) = 2 then (if (ji4) ≤ (l0.length : Int) then ((impl_Node_70.f (l0.take ((ji4) : Int).toNat)).bind fun t185 => (some t185)) else (none)) else (if (l0.length : Int) = 24 then (some ([] : List (S75))) else ((impl_Node_71.f k (([l0, (([(⟨2, 0⟩ : S75)] : List (S75)))] : List (List (S75))))).bind fun t194 => (some t194)))) else (none)) else (none)) = some r := by first | (rw [hji4] at H; exact H) | (simp only [hji4] at H ⊢; exact H)
    (try rw [hji4] at A2)
    have hji4w : (IntKind.i64.wrap ((l0.length : Int) - 1)) = ji4 := (i64_w _).trans hji4
    by_cases c5 : 0 ≤ (ji4)
    · rw [if_pos c5] at H
      have c5b0 : decide (0 ≤ (ji4)) = true := decide_eq_true c5
      clear c5
      by_cases c6 : (ji4) < (l0.length : Int)
      · rw [if_pos c6] at H
        have c6b0 : decide ((ji4) < (l0.length : Int)) = true := decide_eq_true c6
        clear c6
        by_cases c7 : ((rd_T75 l0 (ji4)).f0) = 2
        · rw [if_pos c7] at H
          have c7b0 : (((rd_T75 l0 (ji4)).f0) == 2) = true := beq_iff_eq.mpr c7
          have c7b1 : (((rd_T75 l0 (ji4)).f0) != 2) = false := bne_eq_false_iff_eq.mpr c7
          clear c7
          have c8b0 := eq_true (of_decide_eq_true (by first | (with_reducible assumption) | assumption) : 0 ≤ (ji4))
          by_cases c9 : (ji4) ≤ (l0.length : Int)
          · rw [if_pos c9] at H
            have c9b0 := eq_true c9
            have c9b1 : decide ((ji4) ≤ (l0.length : Int)) = true := decide_eq_true c9
            clear c9
            obtain ⟨y180, hy180⟩ : ∃ y_ : List (S75), y_ = (l0.take ((ji4) : Int).toNat) := ⟨_, rfl⟩
            replace H : ((impl_Node_70.f y180).bind fun t185 => (some t185)) = some r := by first | (rw [hy180]; with_reducible exact H) | (have H2_ := (Option.bind_some _ _).symm.trans H; rw [hy180]; with_reducible exact H2_) | (have H2_ := (Option.bind_some _ _).symm.trans H; with_reducible exact H2_) | with_reducible exact H | (rw [hy180]; exact H) | exact H
            have Ny180 := Aside0.mk hy180
            clear hy180
            replace H := Option.bind_eq_some_iff.mp H
            obtain ⟨t185, A100, H⟩ := H
            replace H : (some t185) = some r := H
            have A10 := Aside0.mk A100
            clear A100
            obtain rfl := Option.some.inj H
            go_enter Try.func30, Try.ntmps30
            go_wp2_with (first | ((with_reducible refine gate_callee (f := 68) rfl ?_); refine goesL_ (some 5) rfl rfl Try.func68 (by kernel_rfl) rfl #[.slice A0 l0.length c0, .int .i64 16] rfl (by (try simp only [List.map_toArray, List.map_cons, List.map_nil]); first | done | rfl | (simp only [List.length_drop, List.length_take]; rfl)) ?_; (with_reducible refine (impl_LogicValid.calls k _ _ l0 16 true _ ?side1 ?side2 A2.out).mono ?_); (case side1 => repeat (first | exact (Kd.V_reads' HO0.out).2.2 | (with_reducible refine Kd.C_alloc ?_ _) | (with_reducible refine Kd.C_drewN ?_ _) | (with_reducible refine Kd.C_drew ?_))); (case side2 => exact (Kd.V_reads' HO0.out).2.1); rintro e w11 ⟨rfl, hb⟩; refine ⟨_, rfl, ?_⟩; have n0_ := Aside0.mk (Kd.V_below (by (with_reducible repeat (first | apply Kd.V_alloc | apply Kd.V_drewN | apply Kd.V_drew)); exact HO0.out) hb); have n1_ := Aside0.mk (below_step (by repeat (first | (with_reducible first | exact HB.out | apply below_alloc | apply pw_below_drewN | apply below_drew1) | exact HB.out)) hb); clear HO0; clear HB; have HO0 := n0_; have HB := n1_; clear n0_ n1_; (try clear hb); (try clear hb2); (try clear hk); (try clear hi); have p179 : 0 ≤ ((ji4) : Int) := of_decide_eq_true (by first | (with_reducible assumption) | assumption); have q179 : (ji4) < (l0.length : Int) := of_decide_eq_true (by first | (with_reducible assumption) | assumption); obtain ⟨ad179, e179, hx179_0, hx179_1⟩ := at_T75 (Kd.V_reads' HO0.out).2.2 (ji4) p179 q179; cases e179; replace p179 := eq_true p179; replace q179 := eq_true q179; have q12 : ((ji4) : Int) ≤ ((l0.length : Int) : Int) := of_decide_eq_true (by first | (with_reducible assumption) | assumption); obtain ⟨i012, hi012, _, hsz12, _⟩ := info_parts info75; have hroom12 : l0.length ≤ c0 := (Kd.V_reads' HO0.out).2.1; have hC12 : Kd.F k75 _ _ (some ad179) l0.length l0 := (Kd.V_at (base := w.heap.size) HO0.out).2.2; have hcut12 := cut_to (P := Try.prog) 26 75 .i64 Try.underlying26 hi012 (some ad179) l0.length c0 (ji4) (of_decide_eq_true (by first | (with_reducible assumption) | assumption)) q12 hroom12; have hr12 := Kd.F_take (m := ((ji4) : Int).toNat) hC12 (by omega); have hy12 : y180.length = ((ji4) : Int).toNat := (by rw [Ny180.out, List.length_take]; omega); rw [← Ny180.out] at hr12; rw [← hy12] at hcut12; have HO184 := Aside0.mk (show Kd.V k75 75 _ w.heap.size _ (.slice (some ad179) y180.length c0) y180 from Kd.V_mk (by omega) hr12); have HC184 := Aside0.mk (show y180.length ≤ c0 from by omega); clear hr12 hC12 hroom12 hi012 hsz12; have KY12 := Aside0.mk hy12; clear hy12; replace q12 := eq_true q12) | ((with_reducible refine gate_callee (f := 70) rfl ?_); refine goesL_ (some 19) rfl rfl Try.func70 (by kernel_rfl) rfl #[.slice (some ad179) y180.length c0] rfl (by (try simp only [List.map_toArray, List.map_cons, List.map_nil]); first | done | rfl | (simp only [List.length_drop, List.length_take]; rfl)) ?_; (with_reducible refine (impl_Node_70.calls _ _ y180 t185 _ ?side1 ?side2 A10.out).mono ?_); (case side1 => repeat (first | exact (Kd.V_reads' HO184.out).2.2 | (with_reducible refine Kd.C_alloc ?_ _) | (with_reducible refine Kd.C_drewN ?_ _) | (with_reducible refine Kd.C_drew ?_))); (case side2 => exact (Kd.V_reads' HO184.out).2.1); rintro e w13 ⟨v186, rfl, ho0, hb⟩; refine ⟨_, rfl, ?_⟩; have n0_ := Aside0.mk (Kd.V_elder' (by (with_reducible repeat (first | apply Kd.V_alloc | apply Kd.V_drewN | apply Kd.V_drew)); exact HO0.out) (Kd.Q_base ho0) hb); have n1_ := Aside0.mk (Kd.V_elder' (by (with_reducible repeat (first | apply Kd.V_alloc | apply Kd.V_drewN | apply Kd.V_drew)); exact HO184.out) (Kd.Q_base ho0) hb); have n2_ := Aside0.mk (Kd.Q_lower (Kd.Q_newM (M := fun k_ => (w.heap.size ≤ k_)) ho0 (below_size (by repeat (first | (with_reducible first | exact HB.out | apply below_alloc | apply pw_below_drewN | apply below_drew1) | exact HB.out))) (fun k_ h_ => h_)) (below_size (by repeat (first | (with_reducible first | exact HB.out | apply below_alloc | apply pw_below_drewN | apply below_drew1) | exact HB.out)))); have n3_ := Aside0.mk (below_step (by repeat (first | (with_reducible first | exact HB.out | apply below_alloc | apply pw_below_drewN | apply below_drew1) | exact HB.out)) hb); clear HO0; clear HO184; clear HB; have HO0 := n0_; have HO184 := n1_; have HO187 := n2_; have HB := n3_; clear n0_ n1_ n2_ n3_; (try clear hb); (try clear hb2); (try clear hk); (try clear hi); (try clear ho0)))
            go_ret
            exact ⟨_, by first | rfl | (simp [errW_none, errW_some] <;> rfl) | (simp only [← hji4]; first | rfl | (simp [errW_none, errW_some] <;> rfl)) | (simp [*, errW_none, errW_some] <;> rfl), by (with_reducible repeat (first | apply Kd.Q_alloc | apply Kd.Q_drewN | apply Kd.Q_drew)); exact Kd.Q_mono HO187.out (fun _ hk => hk.1), by repeat (first | (with_reducible first | exact HB.out | apply below_alloc | apply pw_below_drewN | apply below_drew1) | exact HB.out)⟩
          · rw [if_neg c9] at H
            exact absurd H (by simp)
        · rw [if_neg c7] at H
          have c7b0 : (((rd_T75 l0 (ji4)).f0) == 2) = false := beq_eq_false_iff_ne.mpr c7
          have c7b1 : (((rd_T75 l0 (ji4)).f0) != 2) = true := bne_iff_ne.mpr c7
          by_cases c14 : (l0.length : Int) = 24
          · rw [if_pos c14] at H
            have c14b0 : ((l0.length : Int) == 24) = true := beq_iff_eq.mpr c14
            have c14b1 : ((l0.length : Int) != 24) = false := bne_eq_false_iff_eq.mpr c14
            clear c14
            obtain rfl := Option.some.inj H
            go_enter Try.func30, Try.ntmps30
            go_wp2_with (first | ((with_reducible refine gate_callee (f := 68) rfl ?_); refine goesL_ (some 5) rfl rfl Try.func68 (by kernel_rfl) rfl #[.slice A0 l0.length c0, .int .i64 16] rfl (by (try simp only [List.map_toArray, List.map_cons, List.map_nil]); first | done | rfl | (simp only [List.length_drop, List.length_take]; rfl)) ?_; (with_reducible refine (impl_LogicValid.calls k _ _ l0 16 true _ ?side1 ?side2 A2.out).mono ?_); (case side1 => repeat (first | exact (Kd.V_reads' HO0.out).2.2 | (with_reducible refine Kd.C_alloc ?_ _) | (with_reducible refine Kd.C_drewN ?_ _) | (with_reducible refine Kd.C_drew ?_))); (case side2 => exact (Kd.V_reads' HO0.out).2.1); rintro e w15 ⟨rfl, hb⟩; refine ⟨_, rfl, ?_⟩; have n0_ := Aside0.mk (Kd.V_below (by (with_reducible repeat (first | apply Kd.V_alloc | apply Kd.V_drewN | apply Kd.V_drew)); exact HO0.out) hb); have n1_ := Aside0.mk (below_step (by repeat (first | (with_reducible first | exact HB.out | apply below_alloc | apply pw_below_drewN | apply below_drew1) | exact HB.out)) hb); clear HO0; clear HB; have HO0 := n0_; have HB := n1_; clear n0_ n1_; (try clear hb); (try clear hb2); (try clear hk); (try clear hi); have p179 : 0 ≤ ((ji4) : Int) := of_decide_eq_true (by first | (with_reducible assumption) | assumption); have q179 : (ji4) < (l0.length : Int) := of_decide_eq_true (by first | (with_reducible assumption) | assumption); obtain ⟨ad179, e179, hx179_0, hx179_1⟩ := at_T75 (Kd.V_reads' HO0.out).2.2 (ji4) p179 q179; cases e179; replace p179 := eq_true p179; replace q179 := eq_true q179))
            go_ret
            exact ⟨_, by first | rfl | (simp [errW_none, errW_some] <;> rfl) | (simp only [← hji4]; first | rfl | (simp [errW_none, errW_some] <;> rfl)) | (simp [*, errW_none, errW_some] <;> rfl), Kd.Q_of_R (by first | exact Kd.R_nil _ _ _ _ _ | exact Kd.N_nil _ _ _ _ _ | exact Kd.V_nil _ _ _ _ _ | exact Kd.Q_nil _ _ _ _ _ | exact Kd.S_nil _ _ _ _ _), by repeat (first | (with_reducible first | exact HB.out | apply below_alloc | apply pw_below_drewN | apply below_drew1) | exact HB.out)⟩
          · rw [if_neg c14] at H
            have c14b0 : ((l0.length : Int) == 24) = false := beq_eq_false_iff_ne.mpr c14
            have c14b1 : ((l0.length : Int) != 24) = true := bne_iff_ne.mpr c14
            obtain ⟨y188, hy188⟩ : ∃ y_ : List (S75), y_ = (([(⟨2, 0⟩ : S75)] : List (S75))) := ⟨_, rfl⟩
            replace H : ((impl_Node_71.f k (([l0, y188] : List (List (S75))))).bind fun t194 => (some t194)) = some r := by first | (rw [hy188]; with_reducible exact H) | (have H2_ := (Option.bind_some _ _).symm.trans H; rw [hy188]; with_reducible exact H2_) | (have H2_ := (Option.bind_some _ _).symm.trans H; with_reducible exact H2_) | with_reducible exact H | (rw [hy188]; exact H) | exact H
            have Ny188 := Aside0.mk hy188
            clear hy188
            obtain ⟨y191, hy191⟩ : ∃ y_ : List (List (S75)), y_ = (([l0, y188] : List (List (S75)))) := ⟨_, rfl⟩
            replace H : ((impl_Node_71.f k y191).bind fun t194 => (some t194)) = some r := by first | (rw [hy191]; with_reducible exact H) | (have H2_ := (Option.bind_some _ _).symm.trans H; rw [hy191]; with_reducible exact H2_) | (have H2_ := (Option.bind_some _ _).symm.trans H; with_reducible exact H2_) | with_reducible exact H | (rw [hy191]; exact H) | exact H
            have Ny191 := Aside0.mk hy191
            clear hy191
            replace H := Option.bind_eq_some_iff.mp H
            obtain ⟨t194, A160, H⟩ := H
            replace H : (some t194) = some r := H
            have A16 := Aside0.mk A160
            clear A160
            obtain rfl := Option.some.inj H
            go_enter Try.func30, Try.ntmps30
            go_wp2_with (first | ((with_reducible refine gate_callee (f := 68) rfl ?_); refine goesL_ (some 5) rfl rfl Try.func68 (by kernel_rfl) rfl #[.slice A0 l0.length c0, .int .i64 16] rfl (by (try simp only [List.map_toArray, List.map_cons, List.map_nil]); first | done | rfl | (simp only [List.length_drop, List.length_take]; rfl)) ?_; (with_reducible refine (impl_LogicValid.calls k _ _ l0 16 true _ ?side1 ?side2 A2.out).mono ?_); (case side1 => repeat (first | exact (Kd.V_reads' HO0.out).2.2 | (with_reducible refine Kd.C_alloc ?_ _) | (with_reducible refine Kd.C_drewN ?_ _) | (with_reducible refine Kd.C_drew ?_))); (case side2 => exact (Kd.V_reads' HO0.out).2.1); rintro e w17 ⟨rfl, hb⟩; refine ⟨_, rfl, ?_⟩; have n0_ := Aside0.mk (Kd.V_below (by (with_reducible repeat (first | apply Kd.V_alloc | apply Kd.V_drewN | apply Kd.V_drew)); exact HO0.out) hb); have n1_ := Aside0.mk (below_step (by repeat (first | (with_reducible first | exact HB.out | apply below_alloc | apply pw_below_drewN | apply below_drew1) | exact HB.out)) hb); clear HO0; clear HB; have HO0 := n0_; have HB := n1_; clear n0_ n1_; (try clear hb); (try clear hb2); (try clear hk); (try clear hi); have p179 : 0 ≤ ((ji4) : Int) := of_decide_eq_true (by first | (with_reducible assumption) | assumption); have q179 : (ji4) < (l0.length : Int) := of_decide_eq_true (by first | (with_reducible assumption) | assumption); obtain ⟨ad179, e179, hx179_0, hx179_1⟩ := at_T75 (Kd.V_reads' HO0.out).2.2 (ji4) p179 q179; cases e179; replace p179 := eq_true p179; replace q179 := eq_true q179) | ((with_reducible refine gate_dst (N := 25) rfl ?_); refine Kd.R_lit k75 _ 75 ?hg (N := 25) ?hd (xs := ([(⟨2, 0⟩ : S75)] : List (S75))) (inner := [.int .i64 2, .int .i64 0]) (ok := fun _ => True) (okp := fun _ => True) ?hr ?hp (fun _ hk => hk) trivial (Below.refl _ _) (Nat.le_refl _) (by simp) ?_; (case hd => rfl); (case hg => rfl); (case hr => first | (go_simp; done) | (go_simp; rfl)); (case hp => exact (Reps.c2 (show Kd.M k75 _ _ _ (⟨2, 0⟩ : S75) [.int .i64 2, .int .i64 0] from (k75_mkM _ _ _ (⟨2, 0⟩ : S75) )) (Reps.none _ _))); intro v189 w18 ho19 hb hg_ hnew_; clear hg_ hnew_; (first | rw [← Ny188.out] at ho19 | (simp only [Int.reduceToNat] at ho19; rw [← Ny188.out] at ho19)); have n0_ := Aside0.mk (Kd.V_elder' (by (with_reducible repeat (first | apply Kd.V_alloc | apply Kd.V_drewN | apply Kd.V_drew)); exact HO0.out) (Kd.R_base ho19) hb); have n1_ := Aside0.mk (Kd.R_lower (Kd.R_newM (M := fun k_ => (w.heap.size ≤ k_)) ho19 (below_size (by repeat (first | (with_reducible first | exact HB.out | apply below_alloc | apply pw_below_drewN | apply below_drew1) | exact HB.out))) (fun k_ h_ => h_)) (below_size (by repeat (first | (with_reducible first | exact HB.out | apply below_alloc | apply pw_below_drewN | apply below_drew1) | exact HB.out)))); have n2_ := Aside0.mk (below_step (by repeat (first | (with_reducible first | exact HB.out | apply below_alloc | apply pw_below_drewN | apply below_drew1) | exact HB.out)) hb); clear HO0; clear HB; have HO0 := n0_; have HO190 := n1_; have HB := n2_; clear n0_ n1_ n2_; clear hb ho19; obtain ⟨Ao20, co20, eo20⟩ := Kd.R_slice HO190.out; subst eo20) | ((with_reducible refine gate_dst (N := 26) rfl ?_); refine Kd.N_lit (Kd.slice 75 k75) _ 26 ?hg (N' := 26) ?hd (xs := ([l0, y188] : List (List (S75)))) (inner := [.slice (some ad179) l0.length c0, .slice Ao20 y188.length co20]) (ok := (fun k_ => (P0_ k_ ∨ w.heap.size ≤ k_))) (okp := (fun k_ => (P0_ k_ ∨ w.heap.size ≤ k_))) ?hr ?hp (fun _ hk => hk) ((show ∀ k_, w18.heap.size ≤ k_ → (fun k_ => (P0_ k_ ∨ w.heap.size ≤ k_)) k_ from fun k_ hk => (.inr (Nat.le_trans (below_size (by repeat (first | (with_reducible first | exact HB.out | apply below_alloc | apply pw_below_drewN | apply below_drew1) | exact HB.out))) hk))) _ (Nat.le_refl _)) (Below.refl _ _) (Nat.le_refl _) (by simp) ?_; (case hd => rfl); (case hg => rfl); (case hr => first | (go_simp; done) | (go_simp; rfl)); (case hp => exact (Reps.one (show Kd.FK (Kd.slice 75 k75) _ _ l0 [.slice (some ad179) l0.length c0] from (Kd.FK_slice_mk (Kd.V_reads' (Kd.V_mono (ok' := (fun k_ => (P0_ k_ ∨ w.heap.size ≤ k_))) (HO0.out) (fun k_ hk => hk.1))).2.1 (Kd.V_F (Kd.V_mono (ok' := (fun k_ => (P0_ k_ ∨ w.heap.size ≤ k_))) (HO0.out) (fun k_ hk => hk.1))))) (Reps.one (show Kd.FK (Kd.slice 75 k75) _ _ y188 [.slice Ao20 y188.length co20] from (Kd.FK_slice_mk (Kd.R_reads' (Kd.R_mono (ok' := (fun k_ => (P0_ k_ ∨ w.heap.size ≤ k_))) (HO190.out) (fun k_ hk => (.inr (hk.1))))).2.1 (Kd.R_F (Kd.R_mono (ok' := (fun k_ => (P0_ k_ ∨ w.heap.size ≤ k_))) (HO190.out) (fun k_ hk => (.inr (hk.1))))))) (Reps.none _ _)))); intro v192 w21 ho22 hb hg_ hnew_; clear hg_ hnew_; (first | rw [← Ny191.out] at ho22 | (simp only [Int.reduceToNat] at ho22; rw [← Ny191.out] at ho22)); have n0_ := Aside0.mk (Kd.V_elder' (by (with_reducible repeat (first | apply Kd.V_alloc | apply Kd.V_drewN | apply Kd.V_drew)); exact HO0.out) (Kd.N_base ho22) hb); have n1_ := Aside0.mk (Kd.N_lower ho22 (below_size (by repeat (first | (with_reducible first | exact HB.out | apply below_alloc | apply pw_below_drewN | apply below_drew1) | exact HB.out)))); have n2_ := Aside0.mk (below_step (by repeat (first | (with_reducible first | exact HB.out | apply below_alloc | apply pw_below_drewN | apply below_drew1) | exact HB.out)) hb); clear HO0; clear HB; clear HO190; have HO0 := n0_; have HO193 := n1_; have HB := n2_; clear n0_ n1_ n2_; clear hb ho22; obtain ⟨Ao23, co23, eo23⟩ := Kd.N_slice HO193.out; subst eo23) | ((with_reducible refine gate_callee (f := 71) rfl ?_); refine goesL_ (some 27) rfl rfl Try.func71 (by kernel_rfl) rfl #[.slice Ao23 y191.length co23] rfl (by (try simp only [List.map_toArray, List.map_cons, List.map_nil]); first | done | rfl | (simp only [List.length_drop, List.length_take]; rfl)) ?_; (with_reducible refine (impl_Node_71.calls k _ _ y191 t194 _ ?side1 ?side2 A16.out).mono ?_); (case side1 => repeat (first | exact (Kd.N_reads' HO193.out).2.2 | (with_reducible refine Kd.C_alloc ?_ _) | (with_reducible refine Kd.C_drewN ?_ _) | (with_reducible refine Kd.C_drew ?_))); (case side2 => exact (Kd.N_reads' HO193.out).2.1); rintro e w24 ⟨v195, rfl, ho0, hb⟩; refine ⟨_, rfl, ?_⟩; have n0_ := Aside0.mk (Kd.V_elder' (by (with_reducible repeat (first | apply Kd.V_alloc | apply Kd.V_drewN | apply Kd.V_drew)); exact HO0.out) (Kd.R_base ho0) hb); have n1_ := Aside0.mk (Kd.N_elder' (by (with_reducible repeat (first | apply Kd.N_alloc | apply Kd.N_drewN | apply Kd.N_drew)); exact HO193.out) (Kd.R_base ho0) hb); have n2_ := Aside0.mk (Kd.R_lower (Kd.R_newM (M := fun k_ => (w.heap.size ≤ k_)) ho0 (below_size (by repeat (first | (with_reducible first | exact HB.out | apply below_alloc | apply pw_below_drewN | apply below_drew1) | exact HB.out))) (fun k_ h_ => h_)) (below_size (by repeat (first | (with_reducible first | exact HB.out | apply below_alloc | apply pw_below_drewN | apply below_drew1) | exact HB.out)))); have n3_ := Aside0.mk (below_step (by repeat (first | (with_reducible first | exact HB.out | apply below_alloc | apply pw_below_drewN | apply below_drew1) | exact HB.out)) hb); clear HO0; clear HO193; clear HB; have HO0 := n0_; have HO193 := n1_; have HO196 := n2_; have HB := n3_; clear n0_ n1_ n2_ n3_; (try clear hb); (try clear hb2); (try clear hk); (try clear hi); (try clear ho0)))
            go_ret
            exact ⟨_, by first | rfl | (simp [errW_none, errW_some] <;> rfl) | (simp only [← hji4]; first | rfl | (simp [errW_none, errW_some] <;> rfl)) | (simp [*, errW_none, errW_some] <;> rfl), Kd.Q_of_R (by (with_reducible repeat (first | apply Kd.R_alloc | apply Kd.R_drewN | apply Kd.R_drew)); exact Kd.R_mono HO196.out (fun _ hk => hk.1)), by repeat (first | (with_reducible first | exact HB.out | apply below_alloc | apply pw_below_drewN | apply below_drew1) | exact HB.out)⟩
      · rw [if_neg c6] at H
        exact absurd H (by simp)
    · rw [if_neg c5] at H
      exact absurd H (by simp)
  · replace c3 := Bool.eq_false_iff.mpr c3
    subst c3
    have H1 : (some ([] : List (S75))) = some r := by rw [if_neg (show ¬ (false = true) by decide)] at H; exact H
    clear H
    have H := H1
    clear H1
    obtain rfl := Option.some.inj H
    go_enter Try.func30, Try.ntmps30
    go_wp2_with (first | ((with_reducible refine gate_callee (f := 68) rfl ?_); refine goesL_ (some 5) rfl rfl Try.func68 (by kernel_rfl) rfl #[.slice A0 l0.length c0, .int .i64 16] rfl (by (try simp only [List.map_toArray, List.map_cons, List.map_nil]); first | done | rfl | (simp only [List.length_drop, List.length_take]; rfl)) ?_; (with_reducible refine (impl_LogicValid.calls k _ _ l0 16 false _ ?side1 ?side2 A2.out).mono ?_); (case side1 => repeat (first | exact (Kd.V_reads' HO0.out).2.2 | (with_reducible refine Kd.C_alloc ?_ _) | (with_reducible refine Kd.C_drewN ?_ _) | (with_reducible refine Kd.C_drew ?_))); (case side2 => exact (Kd.V_reads' HO0.out).2.1); rintro e w25 ⟨rfl, hb⟩; refine ⟨_, rfl, ?_⟩; have n0_ := Aside0.mk (Kd.V_below (by (with_reducible repeat (first | apply Kd.V_alloc | apply Kd.V_drewN | apply Kd.V_drew)); exact HO0.out) hb); have n1_ := Aside0.mk (below_step (by repeat (first | (with_reducible first | exact HB.out | apply below_alloc | apply pw_below_drewN | apply below_drew1) | exact HB.out)) hb); clear HO0; clear HB; have HO0 := n0_; have HB := n1_; clear n0_ n1_; (try clear hb); (try clear hb2); (try clear hk); (try clear hi)))
    go_ret
    exact ⟨_, by first | rfl | (simp [errW_none, errW_some] <;> rfl) | (simp [*, errW_none, errW_some] <;> rfl), Kd.Q_of_R (by first | exact Kd.R_nil _ _ _ _ _ | exact Kd.N_nil _ _ _ _ _ | exact Kd.V_nil _ _ _ _ _ | exact Kd.Q_nil _ _ _ _ _ | exact Kd.S_nil _ _ _ _ _), by repeat (first | (with_reducible first | exact HB.out | apply below_alloc | apply pw_below_drewN | apply below_drew1) | exact HB.out)⟩

/-! ### laws_heldNodeS: function 31 -/
def laws_heldNodeS.l0 : Nat → List (S75) → Int → Int → Option (Int)
  | 0, _, _, _ => none
  | k + 1, x0, x1, x5 => if x5 < (x0.length : Int) then (if 0 ≤ x5 then (if ((rd_T75 x0 x5).f0) = x1 then (if ((rd_T75 x0 x5).f1) = (wrap64 (x1 + 1)) then (laws_heldNodeS.l0 k x0 (wrap64 ((wrap64 (x1 + 1)) + 1)) (wrap64 (x5 + 1))) else (some (-1))) else (some (-1))) else (none)) else (some x1)
def laws_heldNodeS.f (k : Nat) (l0 : List (S75)) (a1 : Int) : Option (Int) := laws_heldNodeS.l0 k l0 a1 0
theorem laws_heldNodeS.mono_l : ∀ k, (∀ y0 y1 y2, LeO (laws_heldNodeS.l0 k y0 y1 y2) (laws_heldNodeS.l0 (k + 1) y0 y1 y2))
  | 0 => fun _ _ _ r h => by simp [laws_heldNodeS.l0] at h
  | k + 1 => by
    have ih0 := laws_heldNodeS.mono_l k
    · intro y0 y1 y2
      unfold laws_heldNodeS.l0
      repeat' first
      | (with_reducible exact ih0 _ _ _)
      | (with_reducible exact LeO.refl _)
      | (with_reducible exact LeO.none _)
      | (with_reducible refine LeO.ite ?_ ?_)
      | (with_reducible refine LeO.bind ?_ (fun _ => ?_))
      | exact ih0 _ _ _
      | exact LeO.none _
      | refine LeO.ite ?_ ?_
      | refine LeO.bind ?_ (fun _ => ?_)
theorem laws_heldNodeS.mono : ∀ a0 a1 k, LeO (laws_heldNodeS.f k a0 a1) (laws_heldNodeS.f (k + 1) a0 a1) := by
  intro a0 a1 k
  have ih0 := laws_heldNodeS.mono_l k
  unfold laws_heldNodeS.f
  repeat' first
      | (with_reducible exact ih0 _ _ _)
      | (with_reducible exact LeO.refl _)
      | (with_reducible exact LeO.none _)
      | (with_reducible refine LeO.ite ?_ ?_)
      | (with_reducible refine LeO.bind ?_ (fun _ => ?_))
      | exact ih0 _ _ _
      | exact LeO.none _
      | refine LeO.ite ?_ ?_
      | refine LeO.bind ?_ (fun _ => ?_)
set_option maxHeartbeats 8000000 in
set_option maxRecDepth 100000 in
theorem laws_heldNodeS.calls (k : Nat) (A0 : Option Addr) (c0 : Nat) (l0 : List (S75)) (a1 : Int) (r : Int) (w : World) (hr0 : Kd.C k75 w A0 l0.length l0) (hc0 : l0.length ≤ c0) (h : laws_heldNodeS.f k l0 a1 = some r) :
    Calls Try.prog 31 #[.slice A0 l0.length c0, .int .i64 a1] w fun e w' => e = .returned (.int .i64 r) ∧ Drawn0 w w' := by
  have HR0 := Aside0.mk hr0
  have HC0 := Aside0.mk hc0
  clear hr0 hc0
  have H : (laws_heldNodeS.l0 k l0 a1 0) = some r := h
  clear h
  have H' := Aside0.mk H
  clear H
  go_enter Try.func31, Try.ntmps31
  go_wp2
  go_loopg [1, 5] k (fun kq v1 v5 w' => ∃ (x1_1 : Int) (x5_1 : Int), v1 = .int .i64 x1_1 ∧ v5 = .int .i64 x5_1 ∧ Aside0 (laws_heldNodeS.l0 kq l0 x1_1 x5_1 = some r) ∧ Aside0 (kq ≤ k) ∧ Drawn0 w w')
  case atStart => exact ⟨(a1), (0), (by first | rfl | (simp; done) | (simp [*]; done)), (by first | rfl | (simp; done) | (simp [*]; done)), H', ⟨Nat.le_refl _⟩, by repeat (first | exact Drawn0.refl _ | apply Drawn0.step)⟩
  case round =>
    clear H'
    try clear p2
    obtain ⟨x1_1, x5_1, rfl, rfl, HA, HK1, ⟨m1, rfl⟩⟩ := hrel
    cases gk with
    | zero => exact absurd HA.out (by simp [laws_heldNodeS.l0])
    | succ k1 =>
      have H := HA.out
      clear HA
      simp only [laws_heldNodeS.l0] at H
      by_cases c3 : x5_1 < (l0.length : Int)
      · rw [if_pos c3] at H
        have c3b0 : decide (x5_1 < (l0.length : Int)) = true := decide_eq_true c3
        clear c3
        by_cases c4 : 0 ≤ x5_1
        · rw [if_pos c4] at H
          have c4b0 : decide (0 ≤ x5_1) = true := decide_eq_true c4
          clear c4
          by_cases c5 : ((rd_T75 l0 x5_1).f0) = x1_1
          · rw [if_pos c5] at H
            have c5b0 : (((rd_T75 l0 x5_1).f0) == x1_1) = true := beq_iff_eq.mpr c5
            have c5b1 : (((rd_T75 l0 x5_1).f0) != x1_1) = false := bne_eq_false_iff_eq.mpr c5
            clear c5
            by_cases c6 : ((rd_T75 l0 x5_1).f1) = (wrap64 (x1_1 + 1))
            · rw [if_pos c6] at H
              have c6b0 : (((rd_T75 l0 x5_1).f1) == (wrap64 (x1_1 + 1))) = true := beq_iff_eq.mpr c6
              have c6b1 : (((rd_T75 l0 x5_1).f1) != (wrap64 (x1_1 + 1))) = false := bne_eq_false_iff_eq.mpr c6
              clear c6
              have H' := Aside0.mk H
              clear H
              have p197 : 0 ≤ (x5_1 : Int) := of_decide_eq_true (by first | (with_reducible assumption) | assumption)
              have q197 : x5_1 < (l0.length : Int) := of_decide_eq_true (by first | (with_reducible assumption) | assumption)
              obtain ⟨ad197, e197, hx197_0, hx197_1⟩ := at_T75 HR0.out x5_1 p197 q197
              cases e197
              replace p197 := eq_true p197
              replace q197 := eq_true q197
              have p198 : 0 ≤ (x5_1 : Int) := of_decide_eq_true (by first | (with_reducible assumption) | assumption)
              have q198 : x5_1 < (l0.length : Int) := of_decide_eq_true (by first | (with_reducible assumption) | assumption)
              obtain ⟨ad198, e198, hx198_0, hx198_1⟩ := at_T75 HR0.out x5_1 p198 q198
              obtain rfl : ad197 = ad198 := (by injection e198)
              replace p198 := eq_true p198
              replace q198 := eq_true q198
              go_wp2
              go_roundg k1
              case measure => have := HK1.out; omega
              case rel => exact ⟨(wrap64 ((wrap64 (x1_1 + 1)) + 1)), (wrap64 (x5_1 + 1)), (by first | rfl | (simp; done) | (simp [*]; done)), (by first | rfl | (simp; done) | (simp [*]; done)), H', ⟨by have := HK1.out; omega⟩, by repeat (first | exact Drawn0.refl _ | apply Drawn0.step)⟩
            · rw [if_neg c6] at H
              have c6b0 : (((rd_T75 l0 x5_1).f1) == (wrap64 (x1_1 + 1))) = false := beq_eq_false_iff_ne.mpr c6
              have c6b1 : (((rd_T75 l0 x5_1).f1) != (wrap64 (x1_1 + 1))) = true := bne_iff_ne.mpr c6
              obtain rfl := Option.some.inj H
              have p197 : 0 ≤ (x5_1 : Int) := of_decide_eq_true (by first | (with_reducible assumption) | assumption)
              have q197 : x5_1 < (l0.length : Int) := of_decide_eq_true (by first | (with_reducible assumption) | assumption)
              obtain ⟨ad197, e197, hx197_0, hx197_1⟩ := at_T75 HR0.out x5_1 p197 q197
              cases e197
              replace p197 := eq_true p197
              replace q197 := eq_true q197
              have p198 : 0 ≤ (x5_1 : Int) := of_decide_eq_true (by first | (with_reducible assumption) | assumption)
              have q198 : x5_1 < (l0.length : Int) := of_decide_eq_true (by first | (with_reducible assumption) | assumption)
              obtain ⟨ad198, e198, hx198_0, hx198_1⟩ := at_T75 HR0.out x5_1 p198 q198
              obtain rfl : ad197 = ad198 := (by injection e198)
              replace p198 := eq_true p198
              replace q198 := eq_true q198
              go_wp2
              go_ret
              exact ⟨by first | rfl | (simp; done) | (simp [*]; done), by repeat (first | exact Drawn0.refl _ | apply Drawn0.step)⟩
          · rw [if_neg c5] at H
            have c5b0 : (((rd_T75 l0 x5_1).f0) == x1_1) = false := beq_eq_false_iff_ne.mpr c5
            have c5b1 : (((rd_T75 l0 x5_1).f0) != x1_1) = true := bne_iff_ne.mpr c5
            obtain rfl := Option.some.inj H
            have p197 : 0 ≤ (x5_1 : Int) := of_decide_eq_true (by first | (with_reducible assumption) | assumption)
            have q197 : x5_1 < (l0.length : Int) := of_decide_eq_true (by first | (with_reducible assumption) | assumption)
            obtain ⟨ad197, e197, hx197_0, hx197_1⟩ := at_T75 HR0.out x5_1 p197 q197
            cases e197
            replace p197 := eq_true p197
            replace q197 := eq_true q197
            go_wp2
            go_ret
            exact ⟨by first | rfl | (simp; done) | (simp [*]; done), by repeat (first | exact Drawn0.refl _ | apply Drawn0.step)⟩
        · rw [if_neg c4] at H
          exact absurd H (by simp)
      · rw [if_neg c3] at H
        have c3b0 : decide (x5_1 < (l0.length : Int)) = false := decide_eq_false c3
        clear c3
        obtain rfl := Option.some.inj H
        go_wp2
        go_ret
        exact ⟨by first | rfl | (simp; done) | (simp [*]; done), by repeat (first | exact Drawn0.refl _ | apply Drawn0.step)⟩

/-! ### laws_FnExactNegateLogic: function 5 -/
def laws_FnExactNegateLogic.j0 : Nat → List (S77) → List (S75) → List (S75) → Bool → Option (Bool)
  | 0, _, _, _, _ => none
  | k + 1, x0, x4, x6, x42 => if x42 = true then (none) else ((laws_markNodeS.f k x6 1).bind fun bt220 => ((laws_heldNodeS.f k bt220.2 1).bind fun t222 => (if t222 < 0 then (none) else (if t222 = bt220.1 then ((laws_toNodeS.f k x0).bind fun t223 => ((impl_NegateLogic.f k t223).bind fun t226 => ((laws_eqNodeS.f k t226 x4).bind fun t229 => (if t229 = true then ((laws_heldNodeS.f k bt220.2 1).bind fun t230 => (if t230 < 0 then (none) else (if t230 = bt220.1 then (some true) else (none)))) else (none))))) else (none)))))
def laws_FnExactNegateLogic.f (k : Nat) (l0 : List (S77)) : Option (Bool) := (laws_szNodeS.f l0 1048576).bind fun t199 => (if t199 < 0 then (some true) else ((laws_toNodeS.f k l0).bind fun t200 => ((spec_NegateLogic.f k t200).bind fun t203 => ((laws_toNodeS.f k l0).bind fun t206 => ((impl_NegateLogic.f k t206).bind fun t209 => ((laws_eqNodeS.f k t209 t203).bind fun t212 => (if t212 = true then ((laws_toNodeS.f k l0).bind fun t213 => ((laws_eqNodeS.f k t206 t213).bind fun t216 => (if t216 = true then ((laws_markNodeS.f k t206 1).bind fun bt217 => (if bt217.1 < 0 then (laws_FnExactNegateLogic.j0 k l0 t203 t209 true) else ((laws_eqNodeS.f k t209 t203).bind fun t219 => (laws_FnExactNegateLogic.j0 k l0 t203 t209 (!t219))))) else (none)))) else (none))))))))
theorem laws_FnExactNegateLogic.mono_l : ∀ k, (∀ y0 y1 y2 y3, LeO (laws_FnExactNegateLogic.j0 k y0 y1 y2 y3) (laws_FnExactNegateLogic.j0 (k + 1) y0 y1 y2 y3))
  | 0 => fun _ _ _ _ r h => by simp [laws_FnExactNegateLogic.j0] at h
  | k + 1 => by
    have ih0 := laws_FnExactNegateLogic.mono_l k
    · intro y0 y1 y2 y3
      unfold laws_FnExactNegateLogic.j0
      repeat' first
      | (with_reducible exact ih0 _ _ _ _)
      | (with_reducible exact impl_NegateLogic.mono _ _)
      | (with_reducible exact laws_eqNodeS.mono _ _ _)
      | (with_reducible exact laws_heldNodeS.mono _ _ _)
      | (with_reducible exact laws_markNodeS.mono _ _ _)
      | (with_reducible exact laws_toNodeS.mono _ _)
      | (with_reducible exact spec_NegateLogic.mono _ _)
      | (with_reducible exact LeO.refl _)
      | (with_reducible exact LeO.none _)
      | (with_reducible refine LeO.ite ?_ ?_)
      | (with_reducible refine LeO.bind ?_ (fun _ => ?_))
      | exact ih0 _ _ _ _
      | exact impl_NegateLogic.mono _ _
      | exact laws_eqNodeS.mono _ _ _
      | exact laws_heldNodeS.mono _ _ _
      | exact laws_markNodeS.mono _ _ _
      | exact laws_toNodeS.mono _ _
      | exact spec_NegateLogic.mono _ _
      | exact LeO.none _
      | refine LeO.ite ?_ ?_
      | refine LeO.bind ?_ (fun _ => ?_)
theorem laws_FnExactNegateLogic.mono : ∀ a0 k, LeO (laws_FnExactNegateLogic.f k a0) (laws_FnExactNegateLogic.f (k + 1) a0) := by
  intro a0 k
  have ih0 := laws_FnExactNegateLogic.mono_l k
  unfold laws_FnExactNegateLogic.f
  repeat' first
      | (with_reducible exact ih0 _ _ _ _)
      | (with_reducible exact impl_NegateLogic.mono _ _)
      | (with_reducible exact laws_eqNodeS.mono _ _ _)
      | (with_reducible exact laws_heldNodeS.mono _ _ _)
      | (with_reducible exact laws_markNodeS.mono _ _ _)
      | (with_reducible exact laws_toNodeS.mono _ _)
      | (with_reducible exact spec_NegateLogic.mono _ _)
      | (with_reducible exact LeO.refl _)
      | (with_reducible exact LeO.none _)
      | (with_reducible refine LeO.ite ?_ ?_)
      | (with_reducible refine LeO.bind ?_ (fun _ => ?_))
      | exact ih0 _ _ _ _
      | exact impl_NegateLogic.mono _ _
      | exact laws_eqNodeS.mono _ _ _
      | exact laws_heldNodeS.mono _ _ _
      | exact laws_markNodeS.mono _ _ _
      | exact laws_toNodeS.mono _ _
      | exact spec_NegateLogic.mono _ _
      | exact LeO.none _
      | refine LeO.ite ?_ ?_
      | refine LeO.bind ?_ (fun _ => ?_)
set_option maxHeartbeats 8000000 in
set_option maxRecDepth 100000 in
theorem laws_FnExactNegateLogic.calls (k : Nat) (A0 : Option Addr) (c0 : Nat) (l0 : List (S77)) (r : Bool) (w : World) (hr0 : Kd.C k77 w A0 l0.length l0) (hc0 : l0.length ≤ c0) (h : laws_FnExactNegateLogic.f k l0 = some r) :
    Calls Try.prog 5 #[.slice A0 l0.length c0] w fun e w' => e = .returned (.bool r) ∧ Below w.heap.size w w' := by
  have HR0 := Aside0.mk hr0
  have HC0 := Aside0.mk hc0
  clear hr0 hc0
  have HB := Aside0.mk (Below.refl w.heap.size w)
  have H : ((laws_szNodeS.f l0 1048576).bind fun t199 => (if t199 < 0 then (some true) else ((laws_toNodeS.f k l0).bind fun t200 => ((spec_NegateLogic.f k t200).bind fun t203 => ((laws_toNodeS.f k l0).bind fun t206 => ((impl_NegateLogic.f k t206).bind fun t209 => ((laws_eqNodeS.f k t209 t203).bind fun t212 => (if t212 = true then ((laws_toNodeS.f k l0).bind fun t213 => ((laws_eqNodeS.f k t206 t213).bind fun t216 => (if t216 = true then ((laws_markNodeS.f k t206 1).bind fun bt217 => (if bt217.1 < 0 then (laws_FnExactNegateLogic.j0 k l0 t203 t209 true) else ((laws_eqNodeS.f k t209 t203).bind fun t219 => (laws_FnExactNegateLogic.j0 k l0 t203 t209 (!t219))))) else (none)))) else (none))))))))) = some r := h
  clear h
  replace H := Option.bind_eq_some_iff.mp H
  obtain ⟨t199, A20, H⟩ := H
  replace H : (if t199 < 0 then (some true) else ((laws_toNodeS.f k l0).bind fun t200 => ((spec_NegateLogic.f k t200).bind fun t203 => ((laws_toNodeS.f k l0).bind fun t206 => ((impl_NegateLogic.f k t206).bind fun t209 => ((laws_eqNodeS.f k t209 t203).bind fun t212 => (if t212 = true then ((laws_toNodeS.f k l0).bind fun t213 => ((laws_eqNodeS.f k t206 t213).bind fun t216 => (if t216 = true then ((laws_markNodeS.f k t206 1).bind fun bt217 => (if bt217.1 < 0 then (laws_FnExactNegateLogic.j0 k l0 t203 t209 true) else ((laws_eqNodeS.f k t209 t203).bind fun t219 => (laws_FnExactNegateLogic.j0 k l0 t203 t209 (!t219))))) else (none)))) else (none)))))))) = some r := H
  have A2 := Aside0.mk A20
  clear A20
  by_cases c3 : t199 < 0
  · rw [if_pos c3] at H
    have c3b0 : decide (t199 < 0) = true := decide_eq_true c3
    clear c3
    obtain rfl := Option.some.inj H
    go_enter Try.func5, Try.ntmps5
    go_wp2_with (first | ((with_reducible refine gate_callee (f := 15) rfl ?_); refine goesL_ (some 13) rfl rfl Try.func15 (by kernel_rfl) rfl #[.slice A0 l0.length c0, .int .i64 1048576] rfl (by (try simp only [List.map_toArray, List.map_cons, List.map_nil]); first | done | rfl | (simp only [List.length_drop, List.length_take]; rfl)) ?_; (with_reducible refine (laws_szNodeS.calls _ _ l0 1048576 t199 _ ?side1 ?side2 A2.out).mono ?_); (case side1 => repeat (first | exact HR0.out | (with_reducible refine Kd.C_alloc ?_ _) | (with_reducible refine Kd.C_drewN ?_ _) | (with_reducible refine Kd.C_drew ?_))); (case side2 => exact HC0.out); rintro e w' ⟨rfl, ⟨nd, rfl⟩⟩; refine ⟨_, rfl, ?_⟩))
    go_ret
    exact ⟨by first | rfl | (simp [errW_none, errW_some] <;> rfl) | (simp [*, errW_none, errW_some] <;> rfl), by repeat (first | (with_reducible first | exact HB.out | apply below_alloc | apply pw_below_drewN | apply below_drew1) | exact HB.out)⟩
  · rw [if_neg c3] at H
    have c3b0 : decide (t199 < 0) = false := decide_eq_false c3
    clear c3
    replace H := Option.bind_eq_some_iff.mp H
    obtain ⟨t200, A40, H⟩ := H
    replace H : ((spec_NegateLogic.f k t200).bind fun t203 => ((laws_toNodeS.f k l0).bind fun t206 => ((impl_NegateLogic.f k t206).bind fun t209 => ((laws_eqNodeS.f k t209 t203).bind fun t212 => (if t212 = true then ((laws_toNodeS.f k l0).bind fun t213 => ((laws_eqNodeS.f k t206 t213).bind fun t216 => (if t216 = true then ((laws_markNodeS.f k t206 1).bind fun bt217 => (if bt217.1 < 0 then (laws_FnExactNegateLogic.j0 k l0 t203 t209 true) else ((laws_eqNodeS.f k t209 t203).bind fun t219 => (laws_FnExactNegateLogic.j0 k l0 t203 t209 (!t219))))) else (none)))) else (none)))))) = some r := H
    have A4 := Aside0.mk A40
    clear A40
    replace H := Option.bind_eq_some_iff.mp H
    obtain ⟨t203, A50, H⟩ := H
    replace H : ((laws_toNodeS.f k l0).bind fun t206 => ((impl_NegateLogic.f k t206).bind fun t209 => ((laws_eqNodeS.f k t209 t203).bind fun t212 => (if t212 = true then ((laws_toNodeS.f k l0).bind fun t213 => ((laws_eqNodeS.f k t206 t213).bind fun t216 => (if t216 = true then ((laws_markNodeS.f k t206 1).bind fun bt217 => (if bt217.1 < 0 then (laws_FnExactNegateLogic.j0 k l0 t203 t209 true) else ((laws_eqNodeS.f k t209 t203).bind fun t219 => (laws_FnExactNegateLogic.j0 k l0 t203 t209 (!t219))))) else (none)))) else (none))))) = some r := H
    have A5 := Aside0.mk A50
    clear A50
    replace H := Option.bind_eq_some_iff.mp H
    obtain ⟨t206, A60, H⟩ := H
    replace H : ((impl_NegateLogic.f k t206).bind fun t209 => ((laws_eqNodeS.f k t209 t203).bind fun t212 => (if t212 = true then ((laws_toNodeS.f k l0).bind fun t213 => ((laws_eqNodeS.f k t206 t213).bind fun t216 => (if t216 = true then ((laws_markNodeS.f k t206 1).bind fun bt217 => (if bt217.1 < 0 then (laws_FnExactNegateLogic.j0 k l0 t203 t209 true) else ((laws_eqNodeS.f k t209 t203).bind fun t219 => (laws_FnExactNegateLogic.j0 k l0 t203 t209 (!t219))))) else (none)))) else (none)))) = some r := H
    have A6 := Aside0.mk A60
    clear A60
    replace H := Option.bind_eq_some_iff.mp H
    obtain ⟨t209, A70, H⟩ := H
    replace H : ((laws_eqNodeS.f k t209 t203).bind fun t212 => (if t212 = true then ((laws_toNodeS.f k l0).bind fun t213 => ((laws_eqNodeS.f k t206 t213).bind fun t216 => (if t216 = true then ((laws_markNodeS.f k t206 1).bind fun bt217 => (if bt217.1 < 0 then (laws_FnExactNegateLogic.j0 k l0 t203 t209 true) else ((laws_eqNodeS.f k t209 t203).bind fun t219 => (laws_FnExactNegateLogic.j0 k l0 t203 t209 (!t219))))) else (none)))) else (none))) = some r := H
    have A7 := Aside0.mk A70
    clear A70
    replace H := Option.bind_eq_some_iff.mp H
    obtain ⟨t212, A80, H⟩ := H
    replace H : (if t212 = true then ((laws_toNodeS.f k l0).bind fun t213 => ((laws_eqNodeS.f k t206 t213).bind fun t216 => (if t216 = true then ((laws_markNodeS.f k t206 1).bind fun bt217 => (if bt217.1 < 0 then (laws_FnExactNegateLogic.j0 k l0 t203 t209 true) else ((laws_eqNodeS.f k t209 t203).bind fun t219 => (laws_FnExactNegateLogic.j0 k l0 t203 t209 (!t219))))) else (none)))) else (none)) = some r := H
    have A8 := Aside0.mk A80
    clear A80
    by_cases c9 : t212 = true
    · subst c9
      have H1 : ((laws_toNodeS.f k l0).bind fun t213 => ((laws_eqNodeS.f k t206 t213).bind fun t216 => (if t216 = true then ((laws_markNodeS.f k t206 1).bind fun bt217 => (if bt217.1 < 0 then (laws_FnExactNegateLogic.j0 k l0 t203 t209 true) else ((laws_eqNodeS.f k t209 t203).bind fun t219 => (laws_FnExactNegateLogic.j0 k l0 t203 t209 (!t219))))) else (none)))) = some r := by rw [if_pos rfl] at H; exact H
      clear H
      have H := H1
      clear H1
      replace H := Option.bind_eq_some_iff.mp H
      obtain ⟨t213, A100, H⟩ := H
      replace H : ((laws_eqNodeS.f k t206 t213).bind fun t216 => (if t216 = true then ((laws_markNodeS.f k t206 1).bind fun bt217 => (if bt217.1 < 0 then (laws_FnExactNegateLogic.j0 k l0 t203 t209 true) else ((laws_eqNodeS.f k t209 t203).bind fun t219 => (laws_FnExactNegateLogic.j0 k l0 t203 t209 (!t219))))) else (none))) = some r := H
      have A10 := Aside0.mk A100
      clear A100
      replace H := Option.bind_eq_some_iff.mp H
      obtain ⟨t216, A110, H⟩ := H
      replace H : (if t216 = true then ((laws_markNodeS.f k t206 1).bind fun bt217 => (if bt217.1 < 0 then (laws_FnExactNegateLogic.j0 k l0 t203 t209 true) else ((laws_eqNodeS.f k t209 t203).bind fun t219 => (laws_FnExactNegateLogic.j0 k l0 t203 t209 (!t219))))) else (none)) = some r := H
      have A11 := Aside0.mk A110
      clear A110
      by_cases c12 : t216 = true
      · subst c12
        have H1 : ((laws_markNodeS.f k t206 1).bind fun bt217 => (if bt217.1 < 0 then (laws_FnExactNegateLogic.j0 k l0 t203 t209 true) else ((laws_eqNodeS.f k t209 t203).bind fun t219 => (laws_FnExactNegateLogic.j0 k l0 t203 t209 (!t219))))) = some r := by rw [if_pos rfl] at H; exact H
        clear H
        have H := H1
        clear H1
        replace H := Option.bind_eq_some_iff.mp H
        obtain ⟨⟨t217, t218⟩, A130, H⟩ := H
        replace H : (if t217 < 0 then (laws_FnExactNegateLogic.j0 k l0 t203 t209 true) else ((laws_eqNodeS.f k t209 t203).bind fun t219 => (laws_FnExactNegateLogic.j0 k l0 t203 t209 (!t219)))) = some r := H
        have A13 := Aside0.mk A130
        clear A130
        have HC14 := Aside0.mk H
        clear H
        go_enter Try.func5, Try.ntmps5
        go_upto_region 14 with (first | ((with_reducible refine gate_callee (f := 15) rfl ?_); refine goesL_ (some 13) rfl rfl Try.func15 (by kernel_rfl) rfl #[.slice A0 l0.length c0, .int .i64 1048576] rfl (by (try simp only [List.map_toArray, List.map_cons, List.map_nil]); first | done | rfl | (simp only [List.length_drop, List.length_take]; rfl)) ?_; (with_reducible refine (laws_szNodeS.calls _ _ l0 1048576 t199 _ ?side1 ?side2 A2.out).mono ?_); (case side1 => repeat (first | exact HR0.out | (with_reducible refine Kd.C_alloc ?_ _) | (with_reducible refine Kd.C_drewN ?_ _) | (with_reducible refine Kd.C_drew ?_))); (case side2 => exact HC0.out); rintro e w' ⟨rfl, ⟨nd, rfl⟩⟩; refine ⟨_, rfl, ?_⟩) | ((with_reducible refine gate_callee (f := 17) rfl ?_); refine goesL_ (some 17) rfl rfl Try.func17 (by kernel_rfl) rfl #[.slice A0 l0.length c0] rfl (by (try simp only [List.map_toArray, List.map_cons, List.map_nil]); first | done | rfl | (simp only [List.length_drop, List.length_take]; rfl)) ?_; (with_reducible refine (laws_toNodeS.calls k _ _ l0 t200 _ ?side1 ?side2 A4.out).mono ?_); (case side1 => repeat (first | exact HR0.out | (with_reducible refine Kd.C_alloc ?_ _) | (with_reducible refine Kd.C_drewN ?_ _) | (with_reducible refine Kd.C_drew ?_))); (case side2 => exact HC0.out); rintro e w15 ⟨v201, rfl, ho0, hb⟩; refine ⟨_, rfl, ?_⟩; have n0_ := Aside0.mk (Kd.R_lower ho0 (below_size (by repeat (first | (with_reducible first | exact HB.out | apply below_alloc | apply pw_below_drewN | apply below_drew1) | exact HB.out)))); have n1_ := Aside0.mk (below_step (by repeat (first | (with_reducible first | exact HB.out | apply below_alloc | apply pw_below_drewN | apply below_drew1) | exact HB.out)) hb); clear HB; have HO202 := n0_; have HB := n1_; clear n0_ n1_; (try clear hb); (try clear hb2); (try clear hk); (try clear hi); (try clear ho0); obtain ⟨Ao16, co16, eo16⟩ := Kd.R_slice HO202.out; subst eo16) | ((with_reducible refine gate_callee (f := 29) rfl ?_); refine goesL_ (some 18) rfl rfl Try.func29 (by kernel_rfl) rfl #[.slice Ao16 t200.length co16] rfl (by (try simp only [List.map_toArray, List.map_cons, List.map_nil]); first | done | rfl | (simp only [List.length_drop, List.length_take]; rfl)) ?_; (with_reducible refine (spec_NegateLogic.calls k _ _ t200 t203 _ ?side1 ?side2 A5.out).mono ?_); (case side1 => repeat (first | exact (Kd.R_reads' HO202.out).2.2 | (with_reducible refine Kd.C_alloc ?_ _) | (with_reducible refine Kd.C_drewN ?_ _) | (with_reducible refine Kd.C_drew ?_))); (case side2 => exact (Kd.R_reads' HO202.out).2.1); rintro e w17 ⟨v204, rfl, ho0, hb⟩; refine ⟨_, rfl, ?_⟩; have n0_ := Aside0.mk (Kd.R_elder' (by (with_reducible repeat (first | apply Kd.R_alloc | apply Kd.R_drewN | apply Kd.R_drew)); exact HO202.out) (Kd.R_base ho0) hb); have n1_ := Aside0.mk (Kd.R_lower (Kd.R_new' ho0 (Kd.R_lt (by (with_reducible repeat (first | apply Kd.R_alloc | apply Kd.R_drewN | apply Kd.R_drew)); exact HO202.out))) (below_size (by repeat (first | (with_reducible first | exact HB.out | apply below_alloc | apply pw_below_drewN | apply below_drew1) | exact HB.out)))); have n2_ := Aside0.mk (below_step (by repeat (first | (with_reducible first | exact HB.out | apply below_alloc | apply pw_below_drewN | apply below_drew1) | exact HB.out)) hb); clear HO202; clear HB; have HO202 := n0_; have HO205 := n1_; have HB := n2_; clear n0_ n1_ n2_; (try clear hb); (try clear hb2); (try clear hk); (try clear hi); (try clear ho0)) | ((with_reducible refine gate_callee (f := 17) rfl ?_); refine goesL_ (some 20) rfl rfl Try.func17 (by kernel_rfl) rfl #[.slice A0 l0.length c0] rfl (by (try simp only [List.map_toArray, List.map_cons, List.map_nil]); first | done | rfl | (simp only [List.length_drop, List.length_take]; rfl)) ?_; (with_reducible refine (laws_toNodeS.calls k _ _ l0 t206 _ ?side1 ?side2 A6.out).mono ?_); (case side1 => repeat (first | exact (Kd.C_below HR0.out HB.out) | (with_reducible refine Kd.C_alloc ?_ _) | (with_reducible refine Kd.C_drewN ?_ _) | (with_reducible refine Kd.C_drew ?_))); (case side2 => exact HC0.out); rintro e w18 ⟨v207, rfl, ho0, hb⟩; refine ⟨_, rfl, ?_⟩; have n0_ := Aside0.mk (Kd.R_elder' (by (with_reducible repeat (first | apply Kd.R_alloc | apply Kd.R_drewN | apply Kd.R_drew)); exact HO202.out) (Kd.R_base ho0) hb); have n1_ := Aside0.mk (Kd.R_elder' (by (with_reducible repeat (first | apply Kd.R_alloc | apply Kd.R_drewN | apply Kd.R_drew)); exact HO205.out) (Kd.R_base ho0) hb); have n2_ := Aside0.mk (Kd.R_lower (Kd.R_new' (Kd.R_new' ho0 (Kd.R_lt (by (with_reducible repeat (first | apply Kd.R_alloc | apply Kd.R_drewN | apply Kd.R_drew)); exact HO202.out))) (Kd.R_lt (by (with_reducible repeat (first | apply Kd.R_alloc | apply Kd.R_drewN | apply Kd.R_drew)); exact HO205.out))) (below_size (by repeat (first | (with_reducible first | exact HB.out | apply below_alloc | apply pw_below_drewN | apply below_drew1) | exact HB.out)))); have n3_ := Aside0.mk (below_step (by repeat (first | (with_reducible first | exact HB.out | apply below_alloc | apply pw_below_drewN | apply below_drew1) | exact HB.out)) hb); clear HO202; clear HO205; clear HB; have HO202 := n0_; have HO205 := n1_; have HO208 := n2_; have HB := n3_; clear n0_ n1_ n2_ n3_; (try clear hb); (try clear hb2); (try clear hk); (try clear hi); (try clear ho0); obtain ⟨Ao19, co19, eo19⟩ := Kd.R_slice HO208.out; subst eo19) | ((with_reducible refine gate_callee (f := 30) rfl ?_); refine goesL_ (some 22) rfl rfl Try.func30 (by kernel_rfl) rfl #[.slice Ao19 t206.length co19] rfl (by (try simp only [List.map_toArray, List.map_cons, List.map_nil]); first | done | rfl | (simp only [List.length_drop, List.length_take]; rfl)) ?_; (with_reducible refine (impl_NegateLogic.calls k (fun k_ => some k_ = (.slice Ao19 t206.length co19 : Value).ownBlock) _ _ t206 t209 _ ?side1 A7.out).mono ?_); (case side1 => exact Kd.R_V (Kd.R_tight rfl (HO208.out))); rintro e w20 ⟨v210, rfl, ho0, hb⟩; refine ⟨_, rfl, ?_⟩; have n0_ := Aside0.mk (Kd.R_elder' (by (with_reducible repeat (first | apply Kd.R_alloc | apply Kd.R_drewN | apply Kd.R_drew)); exact HO202.out) (Kd.Q_base ho0) hb); have n1_ := Aside0.mk (Kd.R_elder' (by (with_reducible repeat (first | apply Kd.R_alloc | apply Kd.R_drewN | apply Kd.R_drew)); exact HO205.out) (Kd.Q_base ho0) hb); have n2_ := Aside0.mk (Kd.R_elder' (by (with_reducible repeat (first | apply Kd.R_alloc | apply Kd.R_drewN | apply Kd.R_drew)); exact HO208.out) (Kd.Q_base ho0) hb); have n3_ := Aside0.mk (Kd.Q_lower (Kd.Q_new' (Kd.Q_new' (Kd.Q_new' (Kd.Q_mono (ok' := fun k_ => True) ho0 (fun _ hk_ => trivial)) (Kd.R_lt (by (with_reducible repeat (first | apply Kd.R_alloc | apply Kd.R_drewN | apply Kd.R_drew)); exact HO202.out))) (Kd.R_lt (by (with_reducible repeat (first | apply Kd.R_alloc | apply Kd.R_drewN | apply Kd.R_drew)); exact HO205.out))) (Kd.R_lt (by (with_reducible repeat (first | apply Kd.R_alloc | apply Kd.R_drewN | apply Kd.R_drew)); exact HO208.out))) (below_size (by repeat (first | (with_reducible first | exact HB.out | apply below_alloc | apply pw_below_drewN | apply below_drew1) | exact HB.out)))); have n4_ := Aside0.mk (below_step (by repeat (first | (with_reducible first | exact HB.out | apply below_alloc | apply pw_below_drewN | apply below_drew1) | exact HB.out)) hb); clear HO202; clear HO205; clear HO208; clear HB; have HO202 := n0_; have HO205 := n1_; have HO208 := n2_; have HO211 := n3_; have HB := n4_; clear n0_ n1_ n2_ n3_ n4_; (try clear hb); (try clear hb2); (try clear hk); (try clear hi); (try clear ho0); obtain ⟨Ao21, co21, eo21, _⟩ := Kd.Q_slice HO211.out; subst eo21; obtain ⟨Ao22, co22, eo22⟩ := Kd.R_slice HO205.out; subst eo22) | ((with_reducible refine gate_callee (f := 20) rfl ?_); refine goesL_ (some 25) rfl rfl Try.func20 (by kernel_rfl) rfl #[.slice Ao21 t209.length co21, .slice Ao22 t203.length co22] rfl (by (try simp only [List.map_toArray, List.map_cons, List.map_nil]); first | done | rfl | (simp only [List.length_drop, List.length_take]; rfl)) ?_; (with_reducible refine (laws_eqNodeS.calls k _ _ t209 _ _ t203 true _ ?side1 ?side2 ?side3 ?side4 A8.out).mono ?_); (case side1 => repeat (first | exact (Kd.Q_reads' HO211.out).2.2 | (with_reducible refine Kd.C_alloc ?_ _) | (with_reducible refine Kd.C_drewN ?_ _) | (with_reducible refine Kd.C_drew ?_))); (case side2 => exact (Kd.Q_reads' HO211.out).2.1); (case side3 => repeat (first | exact (Kd.R_reads' HO205.out).2.2 | (with_reducible refine Kd.C_alloc ?_ _) | (with_reducible refine Kd.C_drewN ?_ _) | (with_reducible refine Kd.C_drew ?_))); (case side4 => exact (Kd.R_reads' HO205.out).2.1); rintro e w23 ⟨rfl, hb⟩; refine ⟨_, rfl, ?_⟩; have n0_ := Aside0.mk (Kd.R_below (by (with_reducible repeat (first | apply Kd.R_alloc | apply Kd.R_drewN | apply Kd.R_drew)); exact HO202.out) hb); have n1_ := Aside0.mk (Kd.R_below (by (with_reducible repeat (first | apply Kd.R_alloc | apply Kd.R_drewN | apply Kd.R_drew)); exact HO205.out) hb); have n2_ := Aside0.mk (Kd.R_below (by (with_reducible repeat (first | apply Kd.R_alloc | apply Kd.R_drewN | apply Kd.R_drew)); exact HO208.out) hb); have n3_ := Aside0.mk (Kd.Q_below (by (with_reducible repeat (first | apply Kd.Q_alloc | apply Kd.Q_drewN | apply Kd.Q_drew)); exact HO211.out) hb); have n4_ := Aside0.mk (below_step (by repeat (first | (with_reducible first | exact HB.out | apply below_alloc | apply pw_below_drewN | apply below_drew1) | exact HB.out)) hb); clear HO202; clear HO205; clear HO208; clear HO211; clear HB; have HO202 := n0_; have HO205 := n1_; have HO208 := n2_; have HO211 := n3_; have HB := n4_; clear n0_ n1_ n2_ n3_ n4_; (try clear hb); (try clear hb2); (try clear hk); (try clear hi)) | ((with_reducible refine gate_callee (f := 17) rfl ?_); refine goesL_ (some 29) rfl rfl Try.func17 (by kernel_rfl) rfl #[.slice A0 l0.length c0] rfl (by (try simp only [List.map_toArray, List.map_cons, List.map_nil]); first | done | rfl | (simp only [List.length_drop, List.length_take]; rfl)) ?_; (with_reducible refine (laws_toNodeS.calls k _ _ l0 t213 _ ?side1 ?side2 A10.out).mono ?_); (case side1 => repeat (first | exact (Kd.C_below HR0.out HB.out) | (with_reducible refine Kd.C_alloc ?_ _) | (with_reducible refine Kd.C_drewN ?_ _) | (with_reducible refine Kd.C_drew ?_))); (case side2 => exact HC0.out); rintro e w24 ⟨v214, rfl, ho0, hb⟩; refine ⟨_, rfl, ?_⟩; have n0_ := Aside0.mk (Kd.R_elder' (by (with_reducible repeat (first | apply Kd.R_alloc | apply Kd.R_drewN | apply Kd.R_drew)); exact HO202.out) (Kd.R_base ho0) hb); have n1_ := Aside0.mk (Kd.R_elder' (by (with_reducible repeat (first | apply Kd.R_alloc | apply Kd.R_drewN | apply Kd.R_drew)); exact HO205.out) (Kd.R_base ho0) hb); have n2_ := Aside0.mk (Kd.R_elder' (by (with_reducible repeat (first | apply Kd.R_alloc | apply Kd.R_drewN | apply Kd.R_drew)); exact HO208.out) (Kd.R_base ho0) hb); have n3_ := Aside0.mk (Kd.Q_elder' (by (with_reducible repeat (first | apply Kd.Q_alloc | apply Kd.Q_drewN | apply Kd.Q_drew)); exact HO211.out) (Kd.R_base ho0) hb); have n4_ := Aside0.mk (Kd.R_lower (Kd.R_new' (Kd.R_new' (Kd.R_new' (Kd.R_new' ho0 (Kd.R_lt (by (with_reducible repeat (first | apply Kd.R_alloc | apply Kd.R_drewN | apply Kd.R_drew)); exact HO202.out))) (Kd.R_lt (by (with_reducible repeat (first | apply Kd.R_alloc | apply Kd.R_drewN | apply Kd.R_drew)); exact HO205.out))) (Kd.R_lt (by (with_reducible repeat (first | apply Kd.R_alloc | apply Kd.R_drewN | apply Kd.R_drew)); exact HO208.out))) (Kd.Q_lt (by (with_reducible repeat (first | apply Kd.Q_alloc | apply Kd.Q_drewN | apply Kd.Q_drew)); exact HO211.out))) (below_size (by repeat (first | (with_reducible first | exact HB.out | apply below_alloc | apply pw_below_drewN | apply below_drew1) | exact HB.out)))); have n5_ := Aside0.mk (below_step (by repeat (first | (with_reducible first | exact HB.out | apply below_alloc | apply pw_below_drewN | apply below_drew1) | exact HB.out)) hb); clear HO202; clear HO205; clear HO208; clear HO211; clear HB; have HO202 := n0_; have HO205 := n1_; have HO208 := n2_; have HO211 := n3_; have HO215 := n4_; have HB := n5_; clear n0_ n1_ n2_ n3_ n4_ n5_; (try clear hb); (try clear hb2); (try clear hk); (try clear hi); (try clear ho0); obtain ⟨Ao25, co25, eo25⟩ := Kd.R_slice HO215.out; subst eo25) | ((with_reducible refine gate_callee (f := 20) rfl ?_); refine goesL_ (some 30) rfl rfl Try.func20 (by kernel_rfl) rfl #[.slice Ao19 t206.length co19, .slice Ao25 t213.length co25] rfl (by (try simp only [List.map_toArray, List.map_cons, List.map_nil]); first | done | rfl | (simp only [List.length_drop, List.length_take]; rfl)) ?_; (with_reducible refine (laws_eqNodeS.calls k _ _ t206 _ _ t213 true _ ?side1 ?side2 ?side3 ?side4 A11.out).mono ?_); (case side1 => repeat (first | exact (Kd.R_reads' HO208.out).2.2 | (with_reducible refine Kd.C_alloc ?_ _) | (with_reducible refine Kd.C_drewN ?_ _) | (with_reducible refine Kd.C_drew ?_))); (case side2 => exact (Kd.R_reads' HO208.out).2.1); (case side3 => repeat (first | exact (Kd.R_reads' HO215.out).2.2 | (with_reducible refine Kd.C_alloc ?_ _) | (with_reducible refine Kd.C_drewN ?_ _) | (with_reducible refine Kd.C_drew ?_))); (case side4 => exact (Kd.R_reads' HO215.out).2.1); rintro e w26 ⟨rfl, hb⟩; refine ⟨_, rfl, ?_⟩; have n0_ := Aside0.mk (Kd.R_below (by (with_reducible repeat (first | apply Kd.R_alloc | apply Kd.R_drewN | apply Kd.R_drew)); exact HO202.out) hb); have n1_ := Aside0.mk (Kd.R_below (by (with_reducible repeat (first | apply Kd.R_alloc | apply Kd.R_drewN | apply Kd.R_drew)); exact HO205.out) hb); have n2_ := Aside0.mk (Kd.R_below (by (with_reducible repeat (first | apply Kd.R_alloc | apply Kd.R_drewN | apply Kd.R_drew)); exact HO208.out) hb); have n3_ := Aside0.mk (Kd.Q_below (by (with_reducible repeat (first | apply Kd.Q_alloc | apply Kd.Q_drewN | apply Kd.Q_drew)); exact HO211.out) hb); have n4_ := Aside0.mk (Kd.R_below (by (with_reducible repeat (first | apply Kd.R_alloc | apply Kd.R_drewN | apply Kd.R_drew)); exact HO215.out) hb); have n5_ := Aside0.mk (below_step (by repeat (first | (with_reducible first | exact HB.out | apply below_alloc | apply pw_below_drewN | apply below_drew1) | exact HB.out)) hb); clear HO202; clear HO205; clear HO208; clear HO211; clear HO215; clear HB; have HO202 := n0_; have HO205 := n1_; have HO208 := n2_; have HO211 := n3_; have HO215 := n4_; have HB := n5_; clear n0_ n1_ n2_ n3_ n4_ n5_; (try clear hb); (try clear hb2); (try clear hk); (try clear hi)) | ((with_reducible refine gate_callee (f := 21) rfl ?_); refine goesL_ (some 34) rfl rfl Try.func21 (by kernel_rfl) rfl #[.slice Ao19 t206.length co19, .int .i64 1] rfl (by (try simp only [List.map_toArray, List.map_cons, List.map_nil]); first | done | rfl | (simp only [List.length_drop, List.length_take]; rfl)) ?_; (with_reducible refine (laws_markNodeS.calls k (fun k_ => some k_ = (.slice Ao19 t206.length co19 : Value).ownBlock) (.slice Ao19 t206.length co19) t206 1 t217 t218 w _ ?side1 ?side2 A13.out).mono ?_); (case side1 => repeat (first | (with_reducible first | exact HB.out | apply below_alloc | apply pw_below_drewN | apply below_drew1) | exact HB.out)); (case side2 => exact Kd.Q_tight rfl (Kd.Q_of_R (HO208.out))); rintro e w27 ⟨rfl, hy0, hb, hkp⟩; refine ⟨_, rfl, ?_⟩; have n0_ := Aside0.mk (Kd.R_mono (ok' := fun k_ => some k_ ≠ (.slice Ao22 t203.length co22 : Value).ownBlock ∧ some k_ ≠ (.slice Ao19 t206.length co19 : Value).ownBlock ∧ some k_ ≠ (.slice Ao21 t209.length co21 : Value).ownBlock ∧ some k_ ≠ (.slice Ao25 t213.length co25 : Value).ownBlock) (Kd.R_keptB (HO202.out) hkp (fun k_ hk_ hs_ => (hk_.1.1.2) hs_)) (fun k_ hk_ => ⟨hk_.1.1.1.1.2, hk_.1.1.1.2, hk_.1.1.2, hk_.1.2⟩)); have n1_ := Aside0.mk (Kd.R_mono (ok' := fun k_ => some k_ ≠ (.slice Ao16 t200.length co16 : Value).ownBlock ∧ some k_ ≠ (.slice Ao19 t206.length co19 : Value).ownBlock ∧ some k_ ≠ (.slice Ao21 t209.length co21 : Value).ownBlock ∧ some k_ ≠ (.slice Ao25 t213.length co25 : Value).ownBlock) (Kd.R_keptB (HO205.out) hkp (fun k_ hk_ hs_ => (hk_.1.1.2) hs_)) (fun k_ hk_ => ⟨hk_.1.1.1.1.2, hk_.1.1.1.2, hk_.1.1.2, hk_.1.2⟩)); have n2_ := Aside0.mk (Kd.Q_reok rfl hy0 (fun k_ e_ => HO208.out.1 k_ e_)); have n3_ := Aside0.mk (Kd.Q_mono (ok' := fun k_ => some k_ ≠ (.slice Ao16 t200.length co16 : Value).ownBlock ∧ some k_ ≠ (.slice Ao22 t203.length co22 : Value).ownBlock ∧ some k_ ≠ (.slice Ao19 t206.length co19 : Value).ownBlock ∧ some k_ ≠ (.slice Ao25 t213.length co25 : Value).ownBlock) (Kd.Q_keptB (HO211.out) hkp (fun k_ hk_ hs_ => (hk_.1.2) hs_)) (fun k_ hk_ => ⟨hk_.1.1.1.1.2, hk_.1.1.1.2, hk_.1.1.2, hk_.1.2⟩)); have n4_ := Aside0.mk (Kd.R_mono (ok' := fun k_ => some k_ ≠ (.slice Ao16 t200.length co16 : Value).ownBlock ∧ some k_ ≠ (.slice Ao22 t203.length co22 : Value).ownBlock ∧ some k_ ≠ (.slice Ao19 t206.length co19 : Value).ownBlock ∧ some k_ ≠ (.slice Ao21 t209.length co21 : Value).ownBlock) (Kd.R_keptB (HO215.out) hkp (fun k_ hk_ hs_ => (hk_.1.2) hs_)) (fun k_ hk_ => ⟨hk_.1.1.1.1.2, hk_.1.1.1.2, hk_.1.1.2, hk_.1.2⟩)); have n5_ := Aside0.mk (hb); clear HO202; clear HO205; clear HO208; clear HO211; clear HO215; clear HB; have HO202 := n0_; have HO205 := n1_; have HO208 := n2_; have HO211 := n3_; have HO215 := n4_; have HB := n5_; clear n0_ n1_ n2_ n3_ n4_ n5_; (try clear hb); (try clear hkp); (try clear hy0)))
        (try simp only [Act.put, List.setIfInBounds_toArray, List.set_cons_zero, List.set_cons_succ])
        go_cut [42] (fun v42 wc => ∃ (kq : Nat) (x42_13 : Bool), v42 = .bool x42_13 ∧ Aside0 (laws_FnExactNegateLogic.j0 kq l0 t203 t209 x42_13 = some r) ∧ Aside0 (kq ≤ k) ∧ Aside0 (Kd.R k75 75 wc w.heap.size (fun k_ => some k_ ≠ ((.slice Ao21 t209.length co21) : Value).ownBlock) (.slice Ao22 t203.length co22) t203) ∧ Aside0 (Kd.Q k75 75 wc w.heap.size (fun k_ => some k_ ≠ ((.slice Ao22 t203.length co22) : Value).ownBlock) (.slice Ao21 t209.length co21) t209) ∧ Aside0 (Below w.heap.size w wc))
        case first =>
          have H := HC14.out
          clear HC14
          by_cases c28 : t217 < 0
          · rw [if_pos c28] at H
            have c28b0 : decide (t217 < 0) = true := decide_eq_true c28
            clear c28
            (first | rw [c28b0] | (simp only [i64_w, i32_w]; rw [c28b0]) | skip)
            have H' := Aside0.mk H
            clear H
            go_wp2
            go_meet
            case rel => exact ⟨_, (true), (by first | rfl | (simp; done) | (simp [*]; done)), H', ⟨by first | omega | exact Nat.le_refl _⟩, ⟨by (with_reducible repeat (first | apply Kd.R_alloc | apply Kd.R_drewN | apply Kd.R_drew)); exact Kd.R_mono HO205.out (fun _ hk => hk.2.2.1)⟩, ⟨by (with_reducible repeat (first | apply Kd.Q_alloc | apply Kd.Q_drewN | apply Kd.Q_drew)); exact Kd.Q_mono HO211.out (fun _ hk => hk.2.1)⟩, ⟨by repeat (first | (with_reducible first | exact HB.out | apply below_alloc | apply pw_below_drewN | apply below_drew1) | exact HB.out)⟩⟩
          · rw [if_neg c28] at H
            have c28b0 : decide (t217 < 0) = false := decide_eq_false c28
            clear c28
            (first | rw [c28b0] | (simp only [i64_w, i32_w]; rw [c28b0]) | skip)
            replace H := Option.bind_eq_some_iff.mp H
            obtain ⟨t219, A290, H⟩ := H
            replace H : (laws_FnExactNegateLogic.j0 k l0 t203 t209 (!t219)) = some r := H
            have A29 := Aside0.mk A290
            clear A290
            have H' := Aside0.mk H
            clear H
            go_wp2_with (first | (go_at_call 20; (with_reducible refine (laws_eqNodeS.calls k _ _ t209 _ _ t203 t219 _ ?side1 ?side2 ?side3 ?side4 A29.out).mono ?_); (case side1 => repeat (first | exact (Kd.Q_reads' HO211.out).2.2 | (with_reducible refine Kd.C_alloc ?_ _) | (with_reducible refine Kd.C_drewN ?_ _) | (with_reducible refine Kd.C_drew ?_))); (case side2 => exact (Kd.Q_reads' HO211.out).2.1); (case side3 => repeat (first | exact (Kd.R_reads' HO205.out).2.2 | (with_reducible refine Kd.C_alloc ?_ _) | (with_reducible refine Kd.C_drewN ?_ _) | (with_reducible refine Kd.C_drew ?_))); (case side4 => exact (Kd.R_reads' HO205.out).2.1); rintro e w30 ⟨rfl, hb⟩; have n0_ := Aside0.mk (Kd.R_below (by (with_reducible repeat (first | apply Kd.R_alloc | apply Kd.R_drewN | apply Kd.R_drew)); exact HO202.out) hb); have n1_ := Aside0.mk (Kd.R_below (by (with_reducible repeat (first | apply Kd.R_alloc | apply Kd.R_drewN | apply Kd.R_drew)); exact HO205.out) hb); have n2_ := Aside0.mk (Kd.Q_below (by (with_reducible repeat (first | apply Kd.Q_alloc | apply Kd.Q_drewN | apply Kd.Q_drew)); exact HO208.out) hb); have n3_ := Aside0.mk (Kd.Q_below (by (with_reducible repeat (first | apply Kd.Q_alloc | apply Kd.Q_drewN | apply Kd.Q_drew)); exact HO211.out) hb); have n4_ := Aside0.mk (Kd.R_below (by (with_reducible repeat (first | apply Kd.R_alloc | apply Kd.R_drewN | apply Kd.R_drew)); exact HO215.out) hb); have n5_ := Aside0.mk (below_step (by repeat (first | (with_reducible first | exact HB.out | apply below_alloc | apply pw_below_drewN | apply below_drew1) | exact HB.out)) hb); clear HO202; clear HO205; clear HO208; clear HO211; clear HO215; clear HB; have HO202 := n0_; have HO205 := n1_; have HO208 := n2_; have HO211 := n3_; have HO215 := n4_; have HB := n5_; clear n0_ n1_ n2_ n3_ n4_ n5_; (try clear hb); (try clear hb2); (try clear hk); (try clear hi)))
            go_meet
            case rel => exact ⟨_, (!t219), (by first | rfl | (simp; done) | (simp [*]; done)), H', ⟨by first | omega | exact Nat.le_refl _⟩, ⟨by (with_reducible repeat (first | apply Kd.R_alloc | apply Kd.R_drewN | apply Kd.R_drew)); exact Kd.R_mono HO205.out (fun _ hk => hk.2.2.1)⟩, ⟨by (with_reducible repeat (first | apply Kd.Q_alloc | apply Kd.Q_drewN | apply Kd.Q_drew)); exact Kd.Q_mono HO211.out (fun _ hk => hk.2.1)⟩, ⟨by repeat (first | (with_reducible first | exact HB.out | apply below_alloc | apply pw_below_drewN | apply below_drew1) | exact HB.out)⟩⟩
        case rest =>
          clear HC14
          try clear c1
          try clear c2
          try clear p2
          try clear c3
          try clear c3b0
          try clear c5
          try clear c9
          try clear c12
          try clear c15
          try clear c17
          try clear c20
          try clear c21
          try clear c28
          try clear c28b0
          try clear c29
          try clear c30
          obtain ⟨kq, x42_13, rfl, HA, HJ13, HO_4, HO_6, HB⟩ := hcut
          cases kq with
          | zero => exact absurd HA.out (by simp [laws_FnExactNegateLogic.j0])
          | succ kj13 =>
            have H := HA.out
            clear HA
            simp only [laws_FnExactNegateLogic.j0] at H
            by_cases c31 : x42_13 = true
            · subst c31
              have H1 : (none) = some r := by rw [if_pos rfl] at H; exact H
              clear H
              have H := H1
              clear H1
              exact absurd H (by simp)
            · replace c31 := Bool.eq_false_iff.mpr c31
              subst c31
              have H1 : ((laws_markNodeS.f kj13 t209 1).bind fun bt220 => ((laws_heldNodeS.f kj13 bt220.2 1).bind fun t222 => (if t222 < 0 then (none) else (if t222 = bt220.1 then ((laws_toNodeS.f kj13 l0).bind fun t223 => ((impl_NegateLogic.f kj13 t223).bind fun t226 => ((laws_eqNodeS.f kj13 t226 t203).bind fun t229 => (if t229 = true then ((laws_heldNodeS.f kj13 bt220.2 1).bind fun t230 => (if t230 < 0 then (none) else (if t230 = bt220.1 then (some true) else (none)))) else (none))))) else (none))))) = some r := by rw [if_neg (show ¬ (false = true) by decide)] at H; exact H
              clear H
              have H := H1
              clear H1
              replace H := Option.bind_eq_some_iff.mp H
              obtain ⟨⟨t220, t221⟩, A320, H⟩ := H
              replace H : ((laws_heldNodeS.f kj13 t221 1).bind fun t222 => (if t222 < 0 then (none) else (if t222 = t220 then ((laws_toNodeS.f kj13 l0).bind fun t223 => ((impl_NegateLogic.f kj13 t223).bind fun t226 => ((laws_eqNodeS.f kj13 t226 t203).bind fun t229 => (if t229 = true then ((laws_heldNodeS.f kj13 t221 1).bind fun t230 => (if t230 < 0 then (none) else (if t230 = t220 then (some true) else (none)))) else (none))))) else (none)))) = some r := H
              have A32 := Aside0.mk A320
              clear A320
              replace H := Option.bind_eq_some_iff.mp H
              obtain ⟨t222, A330, H⟩ := H
              replace H : (if t222 < 0 then (none) else (if t222 = t220 then ((laws_toNodeS.f kj13 l0).bind fun t223 => ((impl_NegateLogic.f kj13 t223).bind fun t226 => ((laws_eqNodeS.f kj13 t226 t203).bind fun t229 => (if t229 = true then ((laws_heldNodeS.f kj13 t221 1).bind fun t230 => (if t230 < 0 then (none) else (if t230 = t220 then (some true) else (none)))) else (none))))) else (none))) = some r := H
              have A33 := Aside0.mk A330
              clear A330
              by_cases c34 : t222 < 0
              · rw [if_pos c34] at H
                exact absurd H (by simp)
              · rw [if_neg c34] at H
                have c34b0 : decide (t222 < 0) = false := decide_eq_false c34
                clear c34
                by_cases c35 : t222 = t220
                · rw [if_pos c35] at H
                  have c35b0 : (t222 == t220) = true := beq_iff_eq.mpr c35
                  have c35b1 : (t222 != t220) = false := bne_eq_false_iff_eq.mpr c35
                  clear c35
                  replace H := Option.bind_eq_some_iff.mp H
                  obtain ⟨t223, A360, H⟩ := H
                  replace H : ((impl_NegateLogic.f kj13 t223).bind fun t226 => ((laws_eqNodeS.f kj13 t226 t203).bind fun t229 => (if t229 = true then ((laws_heldNodeS.f kj13 t221 1).bind fun t230 => (if t230 < 0 then (none) else (if t230 = t220 then (some true) else (none)))) else (none)))) = some r := H
                  have A36 := Aside0.mk A360
                  clear A360
                  replace H := Option.bind_eq_some_iff.mp H
                  obtain ⟨t226, A370, H⟩ := H
                  replace H : ((laws_eqNodeS.f kj13 t226 t203).bind fun t229 => (if t229 = true then ((laws_heldNodeS.f kj13 t221 1).bind fun t230 => (if t230 < 0 then (none) else (if t230 = t220 then (some true) else (none)))) else (none))) = some r := H
                  have A37 := Aside0.mk A370
                  clear A370
                  replace H := Option.bind_eq_some_iff.mp H
                  obtain ⟨t229, A380, H⟩ := H
                  replace H : (if t229 = true then ((laws_heldNodeS.f kj13 t221 1).bind fun t230 => (if t230 < 0 then (none) else (if t230 = t220 then (some true) else (none)))) else (none)) = some r := H
                  have A38 := Aside0.mk A380
                  clear A380
                  by_cases c39 : t229 = true
                  · subst c39
                    have H1 : ((laws_heldNodeS.f kj13 t221 1).bind fun t230 => (if t230 < 0 then (none) else (if t230 = t220 then (some true) else (none)))) = some r := by rw [if_pos rfl] at H; exact H
                    clear H
                    have H := H1
                    clear H1
                    replace H := Option.bind_eq_some_iff.mp H
                    obtain ⟨t230, A400, H⟩ := H
                    replace H : (if t230 < 0 then (none) else (if t230 = t220 then (some true) else (none))) = some r := H
                    have A40 := Aside0.mk A400
                    clear A400
                    by_cases c41 : t230 < 0
                    · rw [if_pos c41] at H
                      exact absurd H (by simp)
                    · rw [if_neg c41] at H
                      have c41b0 : decide (t230 < 0) = false := decide_eq_false c41
                      clear c41
                      by_cases c42 : t230 = t220
                      · rw [if_pos c42] at H
                        have c42b0 : (t230 == t220) = true := beq_iff_eq.mpr c42
                        have c42b1 : (t230 != t220) = false := bne_eq_false_iff_eq.mpr c42
                        clear c42
                        obtain rfl := Option.some.inj H
                        go_wp2_with (first | ((with_reducible refine gate_callee (f := 21) rfl ?_); refine goesL_ (some 45) rfl rfl Try.func21 (by kernel_rfl) rfl #[.slice Ao21 t209.length co21, .int .i64 1] rfl (by (try simp only [List.map_toArray, List.map_cons, List.map_nil]); first | done | rfl | (simp only [List.length_drop, List.length_take]; rfl)) ?_; (with_reducible refine (laws_markNodeS.calls kj13 (fun k_ => some k_ = (.slice Ao21 t209.length co21 : Value).ownBlock) (.slice Ao21 t209.length co21) t209 1 t220 t221 w _ ?side1 ?side2 A32.out).mono ?_); (case side1 => repeat (first | (with_reducible first | exact HB.out | apply below_alloc | apply pw_below_drewN | apply below_drew1) | exact HB.out)); (case side2 => exact Kd.Q_tight rfl HO_6.out); rintro e w43 ⟨rfl, hy0, hb, hkp⟩; refine ⟨_, rfl, ?_⟩; have n0_ := Aside0.mk (Kd.R_mono (ok' := fun k_ => some k_ ≠ (.slice Ao21 t209.length co21 : Value).ownBlock) (Kd.R_keptB (HO_4.out) hkp (fun k_ hk_ hs_ => (hk_) hs_)) (fun k_ hk_ => hk_.1)); have n1_ := Aside0.mk (Kd.Q_reok rfl hy0 (fun k_ e_ => HO_6.out.1 k_ e_)); have n2_ := Aside0.mk (hb); clear HO_4; clear HO_6; clear HB; have HO_4 := n0_; have HO_6 := n1_; have HB := n2_; clear n0_ n1_ n2_; (try clear hb); (try clear hkp); (try clear hy0)) | ((with_reducible refine gate_callee (f := 31) rfl ?_); refine goesL_ (some 48) rfl rfl Try.func31 (by kernel_rfl) rfl #[.slice Ao21 t221.length co21, .int .i64 1] rfl (by (try simp only [List.map_toArray, List.map_cons, List.map_nil]); first | done | (rw [show t221.length = t209.length from (Kd.Q_reads' HO_6.out).1.symm] <;> rfl) | rfl | (simp only [List.length_drop, List.length_take]; rfl)) ?_; (with_reducible refine (laws_heldNodeS.calls kj13 _ _ t221 1 t222 _ ?side1 ?side2 A33.out).mono ?_); (case side1 => repeat (first | exact (Kd.Q_reads' HO_6.out).2.2 | (with_reducible refine Kd.C_alloc ?_ _) | (with_reducible refine Kd.C_drewN ?_ _) | (with_reducible refine Kd.C_drew ?_))); (case side2 => rw [show t221.length = t209.length from (Kd.Q_reads' HO_6.out).1.symm]; exact (Kd.Q_reads' HO_6.out).2.1); rintro e w' ⟨rfl, ⟨nd, rfl⟩⟩; refine ⟨_, rfl, ?_⟩) | ((with_reducible refine gate_callee (f := 17) rfl ?_); refine goesL_ (some 55) rfl rfl Try.func17 (by kernel_rfl) rfl #[.slice A0 l0.length c0] rfl (by (try simp only [List.map_toArray, List.map_cons, List.map_nil]); first | done | rfl | (simp only [List.length_drop, List.length_take]; rfl)) ?_; (with_reducible refine (laws_toNodeS.calls kj13 _ _ l0 t223 _ ?side1 ?side2 A36.out).mono ?_); (case side1 => repeat (first | exact (Kd.C_below HR0.out (by repeat (first | (with_reducible first | exact HB.out | apply below_alloc | apply pw_below_drewN | apply below_drew1) | exact HB.out))) | (with_reducible refine Kd.C_alloc ?_ _) | (with_reducible refine Kd.C_drewN ?_ _) | (with_reducible refine Kd.C_drew ?_))); (case side2 => exact HC0.out); rintro e w44 ⟨v224, rfl, ho0, hb⟩; refine ⟨_, rfl, ?_⟩; have n0_ := Aside0.mk (Kd.R_elder' (by (with_reducible repeat (first | apply Kd.R_alloc | apply Kd.R_drewN | apply Kd.R_drew)); exact HO_4.out) (Kd.R_base ho0) hb); have n1_ := Aside0.mk (Kd.Q_elder' (by (with_reducible repeat (first | apply Kd.Q_alloc | apply Kd.Q_drewN | apply Kd.Q_drew)); exact HO_6.out) (Kd.R_base ho0) hb); have n2_ := Aside0.mk (Kd.R_lower (Kd.R_new' (Kd.R_new' ho0 (Kd.R_lt (by (with_reducible repeat (first | apply Kd.R_alloc | apply Kd.R_drewN | apply Kd.R_drew)); exact HO_4.out))) (Kd.Q_lt (by (with_reducible repeat (first | apply Kd.Q_alloc | apply Kd.Q_drewN | apply Kd.Q_drew)); exact HO_6.out))) (below_size (by repeat (first | (with_reducible first | exact HB.out | apply below_alloc | apply pw_below_drewN | apply below_drew1) | exact HB.out)))); have n3_ := Aside0.mk (below_step (by repeat (first | (with_reducible first | exact HB.out | apply below_alloc | apply pw_below_drewN | apply below_drew1) | exact HB.out)) hb); clear HO_4; clear HO_6; clear HB; have HO_4 := n0_; have HO_6 := n1_; have HO225 := n2_; have HB := n3_; clear n0_ n1_ n2_ n3_; (try clear hb); (try clear hb2); (try clear hk); (try clear hi); (try clear ho0); obtain ⟨Ao45, co45, eo45⟩ := Kd.R_slice HO225.out; subst eo45) | ((with_reducible refine gate_callee (f := 30) rfl ?_); refine goesL_ (some 56) rfl rfl Try.func30 (by kernel_rfl) rfl #[.slice Ao45 t223.length co45] rfl (by (try simp only [List.map_toArray, List.map_cons, List.map_nil]); first | done | rfl | (simp only [List.length_drop, List.length_take]; rfl)) ?_; (with_reducible refine (impl_NegateLogic.calls kj13 (fun k_ => some k_ = (.slice Ao45 t223.length co45 : Value).ownBlock) _ _ t223 t226 _ ?side1 A37.out).mono ?_); (case side1 => exact Kd.R_V (Kd.R_tight rfl (HO225.out))); rintro e w46 ⟨v227, rfl, ho0, hb⟩; refine ⟨_, rfl, ?_⟩; have n0_ := Aside0.mk (Kd.R_elder' (by (with_reducible repeat (first | apply Kd.R_alloc | apply Kd.R_drewN | apply Kd.R_drew)); exact HO_4.out) (Kd.Q_base ho0) hb); have n1_ := Aside0.mk (Kd.Q_elder' (by (with_reducible repeat (first | apply Kd.Q_alloc | apply Kd.Q_drewN | apply Kd.Q_drew)); exact HO_6.out) (Kd.Q_base ho0) hb); have n2_ := Aside0.mk (Kd.R_elder' (by (with_reducible repeat (first | apply Kd.R_alloc | apply Kd.R_drewN | apply Kd.R_drew)); exact HO225.out) (Kd.Q_base ho0) hb); have n3_ := Aside0.mk (Kd.Q_lower (Kd.Q_new' (Kd.Q_new' (Kd.Q_new' (Kd.Q_mono (ok' := fun k_ => True) ho0 (fun _ hk_ => trivial)) (Kd.R_lt (by (with_reducible repeat (first | apply Kd.R_alloc | apply Kd.R_drewN | apply Kd.R_drew)); exact HO_4.out))) (Kd.Q_lt (by (with_reducible repeat (first | apply Kd.Q_alloc | apply Kd.Q_drewN | apply Kd.Q_drew)); exact HO_6.out))) (Kd.R_lt (by (with_reducible repeat (first | apply Kd.R_alloc | apply Kd.R_drewN | apply Kd.R_drew)); exact HO225.out))) (below_size (by repeat (first | (with_reducible first | exact HB.out | apply below_alloc | apply pw_below_drewN | apply below_drew1) | exact HB.out)))); have n4_ := Aside0.mk (below_step (by repeat (first | (with_reducible first | exact HB.out | apply below_alloc | apply pw_below_drewN | apply below_drew1) | exact HB.out)) hb); clear HO_4; clear HO_6; clear HO225; clear HB; have HO_4 := n0_; have HO_6 := n1_; have HO225 := n2_; have HO228 := n3_; have HB := n4_; clear n0_ n1_ n2_ n3_ n4_; (try clear hb); (try clear hb2); (try clear hk); (try clear hi); (try clear ho0); obtain ⟨Ao47, co47, eo47, _⟩ := Kd.Q_slice HO228.out; subst eo47) | ((with_reducible refine gate_callee (f := 20) rfl ?_); refine goesL_ (some 59) rfl rfl Try.func20 (by kernel_rfl) rfl #[.slice Ao47 t226.length co47, .slice Ao22 t203.length co22] rfl (by (try simp only [List.map_toArray, List.map_cons, List.map_nil]); first | done | rfl | (simp only [List.length_drop, List.length_take]; rfl)) ?_; (with_reducible refine (laws_eqNodeS.calls kj13 _ _ t226 _ _ t203 true _ ?side1 ?side2 ?side3 ?side4 A38.out).mono ?_); (case side1 => repeat (first | exact (Kd.Q_reads' HO228.out).2.2 | (with_reducible refine Kd.C_alloc ?_ _) | (with_reducible refine Kd.C_drewN ?_ _) | (with_reducible refine Kd.C_drew ?_))); (case side2 => exact (Kd.Q_reads' HO228.out).2.1); (case side3 => repeat (first | exact (Kd.R_reads' HO_4.out).2.2 | (with_reducible refine Kd.C_alloc ?_ _) | (with_reducible refine Kd.C_drewN ?_ _) | (with_reducible refine Kd.C_drew ?_))); (case side4 => exact (Kd.R_reads' HO_4.out).2.1); rintro e w48 ⟨rfl, hb⟩; refine ⟨_, rfl, ?_⟩; have n0_ := Aside0.mk (Kd.R_below (by (with_reducible repeat (first | apply Kd.R_alloc | apply Kd.R_drewN | apply Kd.R_drew)); exact HO_4.out) hb); have n1_ := Aside0.mk (Kd.Q_below (by (with_reducible repeat (first | apply Kd.Q_alloc | apply Kd.Q_drewN | apply Kd.Q_drew)); exact HO_6.out) hb); have n2_ := Aside0.mk (Kd.R_below (by (with_reducible repeat (first | apply Kd.R_alloc | apply Kd.R_drewN | apply Kd.R_drew)); exact HO225.out) hb); have n3_ := Aside0.mk (Kd.Q_below (by (with_reducible repeat (first | apply Kd.Q_alloc | apply Kd.Q_drewN | apply Kd.Q_drew)); exact HO228.out) hb); have n4_ := Aside0.mk (below_step (by repeat (first | (with_reducible first | exact HB.out | apply below_alloc | apply pw_below_drewN | apply below_drew1) | exact HB.out)) hb); clear HO_4; clear HO_6; clear HO225; clear HO228; clear HB; have HO_4 := n0_; have HO_6 := n1_; have HO225 := n2_; have HO228 := n3_; have HB := n4_; clear n0_ n1_ n2_ n3_ n4_; (try clear hb); (try clear hb2); (try clear hk); (try clear hi)) | ((with_reducible refine gate_callee (f := 31) rfl ?_); refine goesL_ (some 63) rfl rfl Try.func31 (by kernel_rfl) rfl #[.slice Ao21 t221.length co21, .int .i64 1] rfl (by (try simp only [List.map_toArray, List.map_cons, List.map_nil]); first | done | (rw [show t221.length = t209.length from (Kd.Q_reads' HO_6.out).1.symm] <;> rfl) | rfl | (simp only [List.length_drop, List.length_take]; rfl)) ?_; (with_reducible refine (laws_heldNodeS.calls kj13 _ _ t221 1 t230 _ ?side1 ?side2 A40.out).mono ?_); (case side1 => repeat (first | exact (Kd.Q_reads' HO_6.out).2.2 | (with_reducible refine Kd.C_alloc ?_ _) | (with_reducible refine Kd.C_drewN ?_ _) | (with_reducible refine Kd.C_drew ?_))); (case side2 => rw [show t221.length = t209.length from (Kd.Q_reads' HO_6.out).1.symm]; exact (Kd.Q_reads' HO_6.out).2.1); rintro e w' ⟨rfl, ⟨nd, rfl⟩⟩; refine ⟨_, rfl, ?_⟩))
                        go_ret
                        exact ⟨by first | rfl | (simp [errW_none, errW_some] <;> rfl) | (simp [*, errW_none, errW_some] <;> rfl), by repeat (first | (with_reducible first | exact HB.out | apply below_alloc | apply pw_below_drewN | apply below_drew1) | exact HB.out)⟩
                      · rw [if_neg c42] at H
                        exact absurd H (by simp)
                  · replace c39 := Bool.eq_false_iff.mpr c39
                    subst c39
                    have H1 : (none) = some r := by rw [if_neg (show ¬ (false = true) by decide)] at H; exact H
                    clear H
                    have H := H1
                    clear H1
                    exact absurd H (by simp)
                · rw [if_neg c35] at H
                  exact absurd H (by simp)
      · replace c12 := Bool.eq_false_iff.mpr c12
        subst c12
        have H1 : (none) = some r := by rw [if_neg (show ¬ (false = true) by decide)] at H; exact H
        clear H
        have H := H1
        clear H1
        exact absurd H (by simp)
    · replace c9 := Bool.eq_false_iff.mpr c9
      subst c9
      have H1 : (none) = some r := by rw [if_neg (show ¬ (false = true) by decide)] at H; exact H
      clear H
      have H := H1
      clear H1
      exact absurd H (by simp)

end Go.Proofs.Ytmlhkalgaeemaaa.GFnExactNegateLogic

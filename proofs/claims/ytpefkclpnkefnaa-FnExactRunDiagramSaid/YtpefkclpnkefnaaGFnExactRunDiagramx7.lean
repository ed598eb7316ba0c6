/- Functions of the program as Lean functions, with proofs that the machine comes to their answers; written by this session's program mkprint.py; no condition beyond each theorem's own. -/
import Derived.Test.YtpefkclpnkefnaaGFnExactRunDiagramx0
namespace Go.Proofs.Ytpefkclpnkefnaa.GFnExactRunDiagram
open Go.RowKit Go.Proofs.YtpefkclpnkefnaaV.PrintWords Go.Proofs.YtpefkclpnkefnaaV.PrintLast Go.Proofs.YtpefkclpnkefnaaV.PrintMore
attribute [local go_sem] max2_int min2_int max_two min_two max_three min_three max_four min_four   -- for this text's walks alone
set_option linter.unusedVariables false
set_option linter.unusedSimpArgs false

/-! ### laws_toIntS: function 8 -/
def laws_toIntS.l0 : Nat → List Int → List Int → Int → Option (List Int)
  | 0, _, _, _ => none
  | k + 1, x0, x3, x4 => if x4 < (x0.length : Int) then (if 0 ≤ x4 then (if x4 < (x3.length : Int) then (laws_toIntS.l0 k x0 (x3.set (x4 : Int).toNat (rd x0 x4)) (wrap64 (x4 + 1))) else (none)) else (none)) else (some x3)
def laws_toIntS.f (k : Nat) (l0 : List Int) : Option (List Int) := if 0 ≤ (l0.length : Int) then (if ((l0.length : Int) : Int).toNat ≤ 35184372088832 then (laws_toIntS.l0 k l0 (List.replicate ((l0.length : Int) : Int).toNat 0) 0) else (none)) else (none)
theorem laws_toIntS.mono_l : ∀ k, (∀ y0 y1 y2, LeO (laws_toIntS.l0 k y0 y1 y2) (laws_toIntS.l0 (k + 1) y0 y1 y2))
  | 0 => fun _ _ _ r h => by simp [laws_toIntS.l0] at h
  | k + 1 => by
    have ih0 := laws_toIntS.mono_l k
    · intro y0 y1 y2
      unfold laws_toIntS.l0
      repeat' first
      | (with_reducible exact ih0 _ _ _)
      | (with_reducible exact LeO.refl _)
      | (with_reducible exact LeO.none _)
      | (with_reducible refine LeO.ite ?_ ?_)
      | (with_reducible refine LeO.bind ?_ (fun _ => ?_))
      | exact ih0 _ _ _
      | exact LeO.none _
      | refine LeO.ite ?_ ?_
      | refine LeO.bind ?_ (fun _ => ?_)
theorem laws_toIntS.mono : ∀ a0 k, LeO (laws_toIntS.f k a0) (laws_toIntS.f (k + 1) a0) := by
  intro a0 k
  have ih0 := laws_toIntS.mono_l k
  unfold laws_toIntS.f
  repeat' first
      | (with_reducible exact ih0 _ _ _)
      | (with_reducible exact LeO.refl _)
      | (with_reducible exact LeO.none _)
      | (with_reducible refine LeO.ite ?_ ?_)
      | (with_reducible refine LeO.bind ?_ (fun _ => ?_))
      | exact ih0 _ _ _
      | exact LeO.none _
      | refine LeO.ite ?_ ?_
      | refine LeO.bind ?_ (fun _ => ?_)
set_option maxHeartbeats 8000000 in
set_option maxRecDepth 100000 in
theorem laws_toIntS.calls (k : Nat) (A0 : Option Addr) (c0 : Nat) (l0 : List Int) (r : List Int) (w : World) (hr0 : Kd.C (Kd.int .i64) w A0 l0.length l0) (hc0 : l0.length ≤ c0) (h : laws_toIntS.f k l0 = some r) :
    Calls Try.prog 8 #[.slice A0 l0.length c0] w fun e w' => ∃ v0_ : Value, e = .returned (v0_) ∧ Kd.R (Kd.int .i64) 3 w' w.heap.size (fun _ => True) v0_ r ∧ Below w.heap.size w w' := by
  have HR0 := Aside0.mk hr0
  have HC0 := Aside0.mk hc0
  clear hr0 hc0
  have HB := Aside0.mk (Below.refl w.heap.size w)
  have H : (if 0 ≤ (l0.length : Int) then (if ((l0.length : Int) : Int).toNat ≤ 35184372088832 then (laws_toIntS.l0 k l0 (List.replicate ((l0.length : Int) : Int).toNat 0) 0) else (none)) else (none)) = some r := h
  clear h
  by_cases c2 : 0 ≤ (l0.length : Int)
  · rw [if_pos c2] at H
    have c2b0 := eq_true c2
    have c2b1 : decide (0 ≤ (l0.length : Int)) = true := decide_eq_true c2
    clear c2
    by_cases c3 : ((l0.length : Int) : Int).toNat ≤ 35184372088832
    · rw [if_pos c3] at H
      have c3b0 := eq_true c3
      have c3b1 : decide (((l0.length : Int) : Int).toNat ≤ 35184372088832) = true := decide_eq_true c3
      clear c3
      obtain ⟨y258, hy258⟩ : ∃ y_ : List Int, y_ = (List.replicate ((l0.length : Int) : Int).toNat 0) := ⟨_, rfl⟩
      replace H : (laws_toIntS.l0 k l0 y258 0) = some r := by first | (rw [hy258]; with_reducible exact H) | (have H2_ := (Option.bind_some _ _).symm.trans H; rw [hy258]; with_reducible exact H2_) | (have H2_ := (Option.bind_some _ _).symm.trans H; with_reducible exact H2_) | with_reducible exact H | (rw [hy258]; exact H) | exact H
      have Ny258 := Aside0.mk hy258
      clear hy258
      have H' := Aside0.mk H
      clear H
      go_enter Try.func8, Try.ntmps8
      go_wp2_with (first | ((with_reducible refine gate_dst (N := 7) rfl ?_); refine Kd.R_make (Kd.int .i64) _ 3 rfl (N := 7) rfl 22 _ _ rfl (l0.length : Int) rfl rfl Try.underlying22 (.int .i64 0) 8 info3 rfl (by decide) (by omega) 0 (ok := fun _ => True) (okp := fun _ => True) rfl (fun _ hk => hk) trivial (of_decide_eq_true (by first | (with_reducible assumption) | assumption)) (Nat.le_trans (Nat.mul_le_mul_right _ (of_decide_eq_true (by first | (with_reducible assumption) | assumption) : (l0.length : Int).toNat ≤ 35184372088832)) (by omega)) (Below.refl _ _) (Nat.le_refl _) ?_; intro v259 w4 ho5 hb hg_ hnew_; clear hg_ hnew_; (first | rw [← Ny258.out] at ho5 | (simp only [Int.reduceToNat] at ho5; rw [← Ny258.out] at ho5)); have n0_ := Aside0.mk (Kd.R_lower ho5 (below_size (by repeat (first | (with_reducible first | exact HB.out | apply below_alloc | apply pw_below_drewN | apply below_drew1) | exact HB.out)))); have n1_ := Aside0.mk (below_step (by repeat (first | (with_reducible first | exact HB.out | apply below_alloc | apply pw_below_drewN | apply below_drew1) | exact HB.out)) hb); clear HB; have HO260 := n0_; have HB := n1_; clear n0_ n1_; clear hb ho5))
      go_loopg [4] k (fun kq v4 w' => ∃ (x3_1 : List Int) (x4_1 : Int), v4 = .int .i64 x4_1 ∧ Aside0 (laws_toIntS.l0 kq l0 x3_1 x4_1 = some r) ∧ Aside0 (kq ≤ k) ∧ Aside0 (Kd.R (Kd.int .i64) 3 w' w.heap.size (fun _ => True) v259 x3_1) ∧ Aside0 (Below w.heap.size w w'))
      case atStart => exact ⟨(y258), (0), (by first | rfl | (simp; done) | (simp [*]; done)), H', ⟨Nat.le_refl _⟩, ⟨by (with_reducible repeat (first | apply Kd.R_alloc | apply Kd.R_drewN | apply Kd.R_drew)); exact HO260.out⟩, ⟨by repeat (first | (with_reducible first | exact HB.out | apply below_alloc | apply pw_below_drewN | apply below_drew1) | exact HB.out)⟩⟩
      case round =>
        clear H'
        try clear c2
        try clear c2b0
        try clear c2b1
        try clear p2
        try clear c3
        try clear c3b0
        try clear c3b1
        obtain ⟨x3_1, x4_1, rfl, HA, HK1, HO_3, HB⟩ := hrel
        cases gk with
        | zero => exact absurd HA.out (by simp [laws_toIntS.l0])
        | succ k1 =>
          have H := HA.out
          clear HA
          simp only [laws_toIntS.l0] at H
          by_cases c6 : x4_1 < (l0.length : Int)
          · rw [if_pos c6] at H
            have c6b0 : decide (x4_1 < (l0.length : Int)) = true := decide_eq_true c6
            clear c6
            by_cases c7 : 0 ≤ x4_1
            · rw [if_pos c7] at H
              have c7b0 : decide (0 ≤ x4_1) = true := decide_eq_true c7
              clear c7
              by_cases c8 : x4_1 < (x3_1.length : Int)
              · rw [if_pos c8] at H
                have c8b0 : decide (x4_1 < (x3_1.length : Int)) = true := decide_eq_true c8
                clear c8
                obtain ⟨y262, hy262⟩ : ∃ y_ : List Int, y_ = (x3_1.set (x4_1 : Int).toNat (rd l0 x4_1)) := ⟨_, rfl⟩
                replace H : (laws_toIntS.l0 k1 l0 y262 (wrap64 (x4_1 + 1))) = some r := by first | (rw [hy262]; with_reducible exact H) | (have H2_ := (Option.bind_some _ _).symm.trans H; rw [hy262]; with_reducible exact H2_) | (have H2_ := (Option.bind_some _ _).symm.trans H; with_reducible exact H2_) | with_reducible exact H | (rw [hy262]; exact H) | exact H
                have Ny262 := Aside0.mk hy262
                clear hy262
                have H' := Aside0.mk H
                clear H
                have p261 : 0 ≤ (x4_1 : Int) := of_decide_eq_true (by first | (with_reducible assumption) | assumption)
                have q261 : x4_1 < (l0.length : Int) := of_decide_eq_true (by first | (with_reducible assumption) | assumption)
                obtain ⟨ad261, e261, hx261_0⟩ := Kd.at_int HR0.out x4_1 p261 q261
                cases e261
                replace hx261_0 := (HB.out.cell (World.block_lt_of_cell? w _ hx261_0)).trans hx261_0
                replace p261 := eq_true p261
                replace q261 := eq_true q261
                have p9 : 0 ≤ (x4_1 : Int) := of_decide_eq_true (by first | (with_reducible assumption) | assumption)
                have q9 : (x4_1 : Int) < ((x3_1.length : Int) : Int) := of_decide_eq_true (by first | (with_reducible assumption) | assumption)
                obtain ⟨go9, co9, eo9, gb9, gl9, cl9, HG9⟩ := Kd.R_form HO_3.out (by omega)
                (first | cases eo9 | (injection eo9 with ea_ en_ ec_; (first | subst ea_ | (injection ea_ with ea_; subst ea_)); subst ec_; clear en_))
                have GB9 := Aside0.mk gb9
                have GG9 := Aside0.mk HG9
                clear gb9 gl9 HG9
                obtain ⟨hx9_0, hf9_0⟩ := Kd.R_celln 0 HO_3.out (x4_1 : Int) p9 q9
                replace p9 := eq_true p9
                replace q9 := eq_true q9
                have HP10 := Kd.R_putg HO_3.out (x4_1 : Int) (rd l0 x4_1)
                go_wp2_with (first | ((with_reducible refine gate_store (t := 3) (p := 20) rfl ?_); refine store_event (t := 3) (p := 20) (v := ?vo_w11) (w1 := (wr.setCell ⟨go9, (x4_1 : Int).toNat, none⟩ (.int .i64 (rd l0 x4_1)))) ?hg ?ho ?hn ?hr ?_; (case ho => rfl); (case hg => rfl); (case hn => rfl); (case hr => first | (go_simp; done) | (go_simp; rfl)); intro w11 hw; have hg : wr.grownBy w11 (some go9) := (by rw [hw]; exact HP10.2); have hp_ : Kd.R (Kd.int .i64) 3 w11 w.heap.size (fun _ => True) (.slice (some ⟨go9, 0, none⟩) x3_1.length co9) y262 := (by rw [hw, Ny262.out]; exact HP10.1); clear HP10; have n0_ := Aside0.mk (hp_); have n1_ := Aside0.mk ((by rw [hw]; exact below_set (HB.out) GB9.out : Below w.heap.size w w11)); clear HO_3; clear HB; have HO_3 := n0_; have HB := n1_; clear n0_ n1_; clear hg hw hp_))
                go_roundg k1
                case measure => have := HK1.out; omega
                case rel => exact ⟨(y262), (wrap64 (x4_1 + 1)), (by first | rfl | (simp; done) | (simp [*]; done)), H', ⟨by have := HK1.out; omega⟩, ⟨by (with_reducible repeat (first | apply Kd.R_alloc | apply Kd.R_drewN | apply Kd.R_drew)); exact HO_3.out⟩, ⟨by repeat (first | (with_reducible first | exact HB.out | apply below_alloc | apply pw_below_drewN | apply below_drew1) | exact HB.out)⟩⟩
              · rw [if_neg c8] at H
                exact absurd H (by simp)
            · rw [if_neg c7] at H
              exact absurd H (by simp)
          · rw [if_neg c6] at H
            have c6b0 : decide (x4_1 < (l0.length : Int)) = false := decide_eq_false c6
            clear c6
            obtain rfl := Option.some.inj H
            go_wp2
            go_ret
            exact ⟨_, by first | rfl | (simp [errW_none, errW_some] <;> rfl) | (simp [*, errW_none, errW_some] <;> rfl), by (with_reducible repeat (first | apply Kd.R_alloc | apply Kd.R_drewN | apply Kd.R_drew)); exact HO_3.out, by repeat (first | (with_reducible first | exact HB.out | apply below_alloc | apply pw_below_drewN | apply below_drew1) | exact HB.out)⟩
    · rw [if_neg c3] at H
      exact absurd H (by simp)
  · rw [if_neg c2] at H
    exact absurd H (by simp)

/-! ### laws_toIntSS: function 21 -/
def laws_toIntSS.l0 : Nat → List (List Int) → List (List Int) → Int → Option ((List (List Int)))
  | 0, _, _, _ => none
  | k + 1, x0, x3, x4 => if x4 < (x0.length : Int) then (if 0 ≤ x4 then ((laws_toIntS.f k (rd_L3 x0 x4)).bind fun t267 => (if x4 < (x3.length : Int) then (laws_toIntSS.l0 k x0 (x3.set (x4 : Int).toNat t267) (wrap64 (x4 + 1))) else (none))) else (none)) else (some x3)
def laws_toIntSS.f (k : Nat) (l0 : List (List Int)) : Option ((List (List Int))) := if 0 ≤ (l0.length : Int) then (if ((l0.length : Int) : Int).toNat ≤ 11728124029610 then (laws_toIntSS.l0 k l0 (List.replicate ((l0.length : Int) : Int).toNat []) 0) else (none)) else (none)
theorem laws_toIntSS.mono_l : ∀ k, (∀ y0 y1 y2, LeO (laws_toIntSS.l0 k y0 y1 y2) (laws_toIntSS.l0 (k + 1) y0 y1 y2))
  | 0 => fun _ _ _ r h => by simp [laws_toIntSS.l0] at h
  | k + 1 => by
    have ih0 := laws_toIntSS.mono_l k
    · intro y0 y1 y2
      unfold laws_toIntSS.l0
      repeat' first
      | (with_reducible exact ih0 _ _ _)
      | (with_reducible exact laws_toIntS.mono _ _)
      | (with_reducible exact LeO.refl _)
      | (with_reducible exact LeO.none _)
      | (with_reducible refine LeO.ite ?_ ?_)
      | (with_reducible refine LeO.bind ?_ (fun _ => ?_))
      | exact ih0 _ _ _
      | exact laws_toIntS.mono _ _
      | exact LeO.none _
      | refine LeO.ite ?_ ?_
      | refine LeO.bind ?_ (fun _ => ?_)
theorem laws_toIntSS.mono : ∀ a0 k, LeO (laws_toIntSS.f k a0) (laws_toIntSS.f (k + 1) a0) := by
  intro a0 k
  have ih0 := laws_toIntSS.mono_l k
  unfold laws_toIntSS.f
  repeat' first
      | (with_reducible exact ih0 _ _ _)
      | (with_reducible exact laws_toIntS.mono _ _)
      | (with_reducible exact LeO.refl _)
      | (with_reducible exact LeO.none _)
      | (with_reducible refine LeO.ite ?_ ?_)
      | (with_reducible refine LeO.bind ?_ (fun _ => ?_))
      | exact ih0 _ _ _
      | exact laws_toIntS.mono _ _
      | exact LeO.none _
      | refine LeO.ite ?_ ?_
      | refine LeO.bind ?_ (fun _ => ?_)
set_option maxHeartbeats 8000000 in
set_option maxRecDepth 100000 in
theorem laws_toIntSS.calls (k : Nat) (A0 : Option Addr) (c0 : Nat) (l0 : List (List Int)) (r : List (List Int)) (w : World) (hr0 : Kd.C (Kd.slice 3 (Kd.int .i64)) w A0 l0.length l0) (hc0 : l0.length ≤ c0) (h : laws_toIntSS.f k l0 = some r) :
    Calls Try.prog 21 #[.slice A0 l0.length c0] w fun e w' => ∃ v0_ : Value, e = .returned (v0_) ∧ Kd.S (Kd.slice 3 (Kd.int .i64)) 22 w' w.heap.size (fun _ => True) v0_ r ∧ Below w.heap.size w w' := by
  have HR0 := Aside0.mk hr0
  have HC0 := Aside0.mk hc0
  clear hr0 hc0
  have HB := Aside0.mk (Below.refl w.heap.size w)
  have H : (if 0 ≤ (l0.length : Int) then (if ((l0.length : Int) : Int).toNat ≤ 11728124029610 then (laws_toIntSS.l0 k l0 (List.replicate ((l0.length : Int) : Int).toNat []) 0) else (none)) else (none)) = some r := h
  clear h
  by_cases c2 : 0 ≤ (l0.length : Int)
  · rw [if_pos c2] at H
    have c2b0 := eq_true c2
    have c2b1 : decide (0 ≤ (l0.length : Int)) = true := decide_eq_true c2
    clear c2
    by_cases c3 : ((l0.length : Int) : Int).toNat ≤ 11728124029610
    · rw [if_pos c3] at H
      have c3b0 := eq_true c3
      have c3b1 : decide (((l0.length : Int) : Int).toNat ≤ 11728124029610) = true := decide_eq_true c3
      clear c3
      obtain ⟨y263, hy263⟩ : ∃ y_ : List (List Int), y_ = (List.replicate ((l0.length : Int) : Int).toNat []) := ⟨_, rfl⟩
      replace H : (laws_toIntSS.l0 k l0 y263 0) = some r := by first | (rw [hy263]; with_reducible exact H) | (have H2_ := (Option.bind_some _ _).symm.trans H; rw [hy263]; with_reducible exact H2_) | (have H2_ := (Option.bind_some _ _).symm.trans H; with_reducible exact H2_) | with_reducible exact H | (rw [hy263]; exact H) | exact H
      have Ny263 := Aside0.mk hy263
      clear hy263
      have H' := Aside0.mk H
      clear H
      go_enter Try.func21, Try.ntmps21
      go_wp2_with (first | ((with_reducible refine gate_dst (N := 7) rfl ?_); refine Kd.S_make (Kd.slice 3 (Kd.int .i64)) _ 22 rfl (N := 7) rfl 37 _ _ rfl (l0.length : Int) rfl rfl Try.underlying37 (.slice none 0 0) 24 info22 rfl (by decide) (by omega) [] (ok := fun _ => True) (okp := fun _ => True) ⟨_, rfl, Kd.R_nil _ _ _ _ _⟩ (fun _ hk => hk) trivial (of_decide_eq_true (by first | (with_reducible assumption) | assumption)) (Nat.le_trans (Nat.mul_le_mul_right _ (of_decide_eq_true (by first | (with_reducible assumption) | assumption) : (l0.length : Int).toNat ≤ 11728124029610)) (by omega)) (Below.refl _ _) (Nat.le_refl _) ?_; intro v264 w4 ho5 hb hg_ hnew_; clear hg_ hnew_; (first | rw [← Ny263.out] at ho5 | (simp only [Int.reduceToNat] at ho5; rw [← Ny263.out] at ho5)); have n0_ := Aside0.mk (Kd.S_lower ho5 (below_size (by repeat (first | (with_reducible first | exact HB.out | apply below_alloc | apply pw_below_drewN | apply below_drew1) | exact HB.out)))); have n1_ := Aside0.mk (below_step (by repeat (first | (with_reducible first | exact HB.out | apply below_alloc | apply pw_below_drewN | apply below_drew1) | exact HB.out)) hb); clear HB; have HO265 := n0_; have HB := n1_; clear n0_ n1_; clear hb ho5))
      go_loopg [4] k (fun kq v4 w' => ∃ (x3_1 : List (List Int)) (x4_1 : Int), v4 = .int .i64 x4_1 ∧ Aside0 (laws_toIntSS.l0 kq l0 x3_1 x4_1 = some r) ∧ Aside0 (kq ≤ k) ∧ Aside0 (Kd.S (Kd.slice 3 (Kd.int .i64)) 22 w' w.heap.size (fun _ => True) v264 x3_1) ∧ Aside0 (Below w.heap.size w w'))
      case atStart => exact ⟨(y263), (0), (by first | rfl | (simp; done) | (simp [*]; done)), H', ⟨Nat.le_refl _⟩, ⟨by (with_reducible repeat (first | apply Kd.S_alloc | apply Kd.S_drewN | apply Kd.S_drew)); exact HO265.out⟩, ⟨by repeat (first | (with_reducible first | exact HB.out | apply below_alloc | apply pw_below_drewN | apply below_drew1) | exact HB.out)⟩⟩
      case round =>
        clear H'
        try clear c2
        try clear c2b0
        try clear c2b1
        try clear p2
        try clear c3
        try clear c3b0
        try clear c3b1
        obtain ⟨x3_1, x4_1, rfl, HA, HK1, HO_3, HB⟩ := hrel
        cases gk with
        | zero => exact absurd HA.out (by simp [laws_toIntSS.l0])
        | succ k1 =>
          have H := HA.out
          clear HA
          simp only [laws_toIntSS.l0] at H
          by_cases c6 : x4_1 < (l0.length : Int)
          · rw [if_pos c6] at H
            have c6b0 : decide (x4_1 < (l0.length : Int)) = true := decide_eq_true c6
            clear c6
            by_cases c7 : 0 ≤ x4_1
            · rw [if_pos c7] at H
              have c7b0 : decide (0 ≤ x4_1) = true := decide_eq_true c7
              clear c7
              replace H := Option.bind_eq_some_iff.mp H
              obtain ⟨t267, A80, H⟩ := H
              replace H : (if x4_1 < (x3_1.length : Int) then (laws_toIntSS.l0 k1 l0 (x3_1.set (x4_1 : Int).toNat t267) (wrap64 (x4_1 + 1))) else (none)) = some r := H
              have A8 := Aside0.mk A80
              clear A80
              by_cases c9 : x4_1 < (x3_1.length : Int)
              · rw [if_pos c9] at H
                have c9b0 : decide (x4_1 < (x3_1.length : Int)) = true := decide_eq_true c9
                clear c9
                obtain ⟨y270, hy270⟩ : ∃ y_ : List (List Int), y_ = (x3_1.set (x4_1 : Int).toNat t267) := ⟨_, rfl⟩
                replace H : (laws_toIntSS.l0 k1 l0 y270 (wrap64 (x4_1 + 1))) = some r := by first | (rw [hy270]; with_reducible exact H) | (have H2_ := (Option.bind_some _ _).symm.trans H; rw [hy270]; with_reducible exact H2_) | (have H2_ := (Option.bind_some _ _).symm.trans H; with_reducible exact H2_) | with_reducible exact H | (rw [hy270]; exact H) | exact H
                have Ny270 := Aside0.mk hy270
                clear hy270
                have H' := Aside0.mk H
                clear H
                have p266 : 0 ≤ (x4_1 : Int) := of_decide_eq_true (by first | (with_reducible assumption) | assumption)
                have q266 : x4_1 < (l0.length : Int) := of_decide_eq_true (by first | (with_reducible assumption) | assumption)
                obtain ⟨ad266, A266_0, c266_0, e266, hx266_0, hl266_0, hi266_0⟩ := at_L3 HR0.out x4_1 p266 q266
                cases e266
                replace hx266_0 := (HB.out.cell (World.block_lt_of_cell? w _ hx266_0)).trans hx266_0
                have HR266_0 := Aside0.mk hi266_0
                have HC266_0 := Aside0.mk hl266_0
                clear hi266_0 hl266_0
                replace p266 := eq_true p266
                replace q266 := eq_true q266
                go_wp2_with (first | ((with_reducible refine gate_callee (f := 8) rfl ?_); refine goesL_ (some 20) rfl rfl Try.func8 (by kernel_rfl) rfl #[.slice A266_0 (rd_L3 l0 x4_1).length c266_0] rfl (by (try simp only [List.map_toArray, List.map_cons, List.map_nil]); first | done | rfl | (simp only [List.length_drop, List.length_take]; rfl)) ?_; (with_reducible refine (laws_toIntS.calls k1 _ _ (rd_L3 l0 x4_1) t267 _ ?side1 ?side2 A8.out).mono ?_); (case side1 => repeat (first | exact (Kd.C_below HR266_0.out HB.out) | (with_reducible refine Kd.C_alloc ?_ _) | (with_reducible refine Kd.C_drewN ?_ _) | (with_reducible refine Kd.C_drew ?_))); (case side2 => exact HC266_0.out); rintro e w11 ⟨v268, rfl, ho0, hb⟩; refine ⟨_, rfl, ?_⟩; obtain ⟨Av268, cv268, ev268⟩ := Kd.R_slice ho0; subst ev268; have n0_ := Aside0.mk (Kd.S_elder' (by (with_reducible repeat (first | apply Kd.S_alloc | apply Kd.S_drewN | apply Kd.S_drew)); exact HO_3.out) (Kd.R_base ho0) hb); have n1_ := Aside0.mk (Kd.R_lower ho0 (below_size (by repeat (first | (with_reducible first | exact HB.out | apply below_alloc | apply pw_below_drewN | apply below_drew1) | exact HB.out)))); have n2_ := Aside0.mk (below_step (by repeat (first | (with_reducible first | exact HB.out | apply below_alloc | apply pw_below_drewN | apply below_drew1) | exact HB.out)) hb); clear HO_3; clear HB; have HO_3 := n0_; have HO269 := n1_; have HB := n2_; clear n0_ n1_ n2_; (try clear hb); (try clear hb2); (try clear hk); (try clear hi); (try clear ho0); have p10 : 0 ≤ (x4_1 : Int) := of_decide_eq_true (by first | (with_reducible assumption) | assumption); have q10 : (x4_1 : Int) < ((x3_1.length : Int) : Int) := of_decide_eq_true (by first | (with_reducible assumption) | assumption); obtain ⟨go10, co10, eo10, gb10, gl10, cl10, HG10⟩ := Kd.S_form HO_3.out (by omega); (first | cases eo10 | (injection eo10 with ea_ en_ ec_; (first | subst ea_ | (injection ea_ with ea_; subst ea_)); subst ec_; clear en_)); have GB10 := Aside0.mk gb10; have GG10 := Aside0.mk HG10; clear gb10 gl10 HG10; obtain ⟨_, ce10, hcl10, hM10, hcc10, hfr10, _, _⟩ := Kd.S_elem HO_3.out [] (x4_1 : Int) p10 q10; obtain ⟨ve10_0, rfl, ge10_0⟩ := hM10; have hx10_0 := hcc10 0 _ rfl; have hf10_0 := hfr10 0; (try simp only [show ((Kd.slice 3 (Kd.int .i64))).sz = 1 from rfl, Nat.mul_one, Nat.add_zero] at hx10_0); (try simp only [show ((Kd.slice 3 (Kd.int .i64))).sz = 1 from rfl, Nat.mul_one, Nat.add_zero] at hf10_0); clear hcl10 hcc10 hfr10; replace p10 := eq_true p10; replace q10 := eq_true q10; have n_ := Aside0.mk (Kd.S_mono (ok' := (fun k_ => some k_ ≠ ((.slice Av268 t267.length cv268 : Value) : Value).ownBlock)) HO_3.out (fun k_ hk => hk.2)); clear HO_3; have HO_3 := n_; clear n_; have HX12 := Aside0.mk (show Kd.S (Kd.slice 3 (Kd.int .i64)) 22 w11 w.heap.size (fun k_ => ((fun _ => True)) k_ ∧ ¬ ((fun k_ => some k_ = ((.slice Av268 t267.length cv268 : Value) : Value).ownBlock)) k_) (.slice (some ⟨go10, 0, none⟩) x3_1.length co10) x3_1 from (by (with_reducible repeat (first | apply Kd.S_alloc | apply Kd.S_drewN | apply Kd.S_drew)); exact Kd.S_mono HO_3.out (fun k_ hk => ⟨trivial, fun e_ => hk e_⟩))); obtain ⟨oki12, ce12, hcl12, hM12, hcc12, hfr12, hoki12, hH12⟩ := Kd.S_elem HX12.out [] (x4_1 : Int) (of_decide_eq_true (by first | (with_reducible assumption) | assumption)) (by have h_ : (x4_1 : Int) < ((x3_1.length : Int) : Int) := of_decide_eq_true (by first | (with_reducible assumption) | assumption); first | exact h_ | (have e_ := (Kd.S_reads' HO_3.out).1; omega) | simpa using h_); obtain ⟨ve12_0, rfl, ge12_0⟩ := hM12; have HP12 := Kd.S_seg hH12 (of_decide_eq_true (by first | (with_reducible assumption) | assumption)) (by have h_ : (x4_1 : Int) < ((x3_1.length : Int) : Int) := of_decide_eq_true (by first | (with_reducible assumption) | assumption); first | exact h_ | (have e_ := (Kd.S_reads' HO_3.out).1; omega) | simpa using h_) (seg := [(.slice Av268 t267.length cv268 : Value)]) (j := 0) (show 1 ≤ 1 from by decide) (x' := t267) (Kd.M_row (Kd.R_mono (Kd.R_tight rfl (Kd.R_mono (ok' := fun k_ => ((fun _ => True)) k_ ∧ k_ ≠ go10) (Kd.R_apart' (HO269.out) (Kd.S_typed HO_3.out) (by decide)) (fun k_ hk => ⟨trivial, fun e_ => (hk.2) (by rw [e_]; rfl)⟩))) (fun _ h_ => Or.inr (h_)))) (fun _ hk => hk) (fun k_ hk_ => ((Kd.R_mono (ok' := fun k_ => ((fun _ => True)) k_ ∧ k_ ≠ go10) (Kd.R_apart' (HO269.out) (Kd.S_typed HO_3.out) (by decide)) (fun k_ hk => ⟨trivial, fun e_ => (hk.2) (by rw [e_]; rfl)⟩))).1 k_ hk_.symm); have hx12_0 := hcc12 0 _ rfl; (try simp only [show ((Kd.slice 3 (Kd.int .i64))).sz = 1 from rfl, Nat.mul_one, Nat.add_zero] at hx12_0); have hf12_0 := hfr12 0; (try simp only [show ((Kd.slice 3 (Kd.int .i64))).sz = 1 from rfl, Nat.mul_one, Nat.add_zero] at hf12_0); clear hcl12 hcc12 hfr12 hoki12 hH12; (try simp only [show ((Kd.slice 3 (Kd.int .i64))).sz = 1 from rfl, Nat.mul_one, Nat.add_zero] at HP12)) | ((with_reducible refine gate_store (t := 22) (p := 21) rfl ?_); refine store_event (t := 22) (p := 21) (v := ?vo_w13) (w1 := (w11.setCell ⟨go10, (x4_1 : Int).toNat, none⟩ ((.slice Av268 t267.length cv268 : Value)))) ?hg ?ho ?hn ?hr ?_; (case ho => rfl); (case hg => rfl); (case hn => rfl); (case hr => first | (go_simp; done) | (go_simp; rfl)); intro w13 hw; have hg : w11.grownBy w13 (some go10) := (by rw [hw]; exact HP12.2); have hp_ : Kd.S (Kd.slice 3 (Kd.int .i64)) 22 w13 w.heap.size (fun _ => True) (.slice (some ⟨go10, 0, none⟩) x3_1.length co10) y270 := (by rw [hw, Ny270.out]; exact HP12.1); clear HP12; have n0_ := Aside0.mk (hp_); have n1_ := Aside0.mk ((by rw [hw]; exact below_set (HB.out) GB10.out : Below w.heap.size w w13)); clear HO_3; clear HB; clear HO269; have HO_3 := n0_; have HB := n1_; clear n0_ n1_; clear hg hw hp_))
                go_roundg k1
                case measure => have := HK1.out; omega
                case rel => exact ⟨(y270), (wrap64 (x4_1 + 1)), (by first | rfl | (simp; done) | (simp [*]; done)), H', ⟨by have := HK1.out; omega⟩, ⟨by (with_reducible repeat (first | apply Kd.S_alloc | apply Kd.S_drewN | apply Kd.S_drew)); exact HO_3.out⟩, ⟨by repeat (first | (with_reducible first | exact HB.out | apply below_alloc | apply pw_below_drewN | apply below_drew1) | exact HB.out)⟩⟩
              · rw [if_neg c9] at H
                exact absurd H (by simp)
            · rw [if_neg c7] at H
              exact absurd H (by simp)
          · rw [if_neg c6] at H
            have c6b0 : decide (x4_1 < (l0.length : Int)) = false := decide_eq_false c6
            clear c6
            obtain rfl := Option.some.inj H
            go_wp2
            go_ret
            exact ⟨_, by first | rfl | (simp [errW_none, errW_some] <;> rfl) | (simp [*, errW_none, errW_some] <;> rfl), by (with_reducible repeat (first | apply Kd.S_alloc | apply Kd.S_drewN | apply Kd.S_drew)); exact HO_3.out, by repeat (first | (with_reducible first | exact HB.out | apply below_alloc | apply pw_below_drewN | apply below_drew1) | exact HB.out)⟩
    · rw [if_neg c3] at H
      exact absurd H (by simp)
  · rw [if_neg c2] at H
    exact absurd H (by simp)

/-! ### slices_Clone_int_int: function 29 -/
def slices_Clone_int_int.f (l0 : List (Int)) : Option (List (Int)) := if l0.length < 17592186044416 then some l0 else none
set_option maxHeartbeats 2000000 in
theorem slices_Clone_int_int.calls (A0 : Option Addr) (c0 : Nat) (l0 : List (Int)) (r : List (Int)) (w : World) (hr0 : Kd.C (Kd.int .i64) w A0 l0.length l0) (hc0 : l0.length ≤ c0) (h : slices_Clone_int_int.f l0 = some r) :
    Calls Try.prog 29 #[.slice A0 l0.length c0] w fun e w' => ∃ v0_ : Value, e = .returned (v0_) ∧ Kd.R (Kd.int .i64) 3 w' w.heap.size (fun _ => True) v0_ r ∧ Below w.heap.size w w' := by
  have hnil : ∀ (w : World) (a : Option Addr) (n c n' c' : Nat), (binOp .eql 22 (.slice a n c) (.slice none n' c')).run Try.prog w = .ok (.bool a.isNone) w := fun w a n c n' c' => Lib.run_eql_slice_nil w _ _ a n c n' c' Try.underlying22
  unfold slices_Clone_int_int.f at h
  by_cases hl : l0.length < 17592186044416
  · rw [if_pos hl] at h
    obtain rfl := Option.some.inj h
    clear h
    cases A0 with
    | none =>
      have h0 : l0 = [] := by
        cases l0 with
        | nil => rfl
        | cons x xs => obtain ⟨ad, he, _⟩ := hr0.2.2 (by simp); cases he
      subst h0
      clear hr0 hl
      go_enter Try.func29, Try.ntmps29
      go_wp2
      go_ret
      exact ⟨_, rfl, Kd.R_nil _ _ _ _ _, Below.refl _ _⟩
    | some ad =>
      have HR0 := Aside0.mk hr0
      have LM := Aside0.mk hl
      have HB := Aside0.mk (Below.refl w.heap.size w)
      clear hr0 hc0 hl
      go_enter Try.func29, Try.ntmps29
      go_wp2_with (first | ((with_reducible refine gate_dst (N := 5) rfl ?_); refine Kd.R_lit (Kd.int .i64) _ 3 ?hg (N := 5) ?hd (xs := ([] : List (Int))) (inner := []) (ok := fun _ => True) (okp := fun _ => True) ?hr ?hp (fun _ hk => hk) trivial (Below.refl _ _) (Nat.le_refl _) (by simp) ?_; (case hd => rfl); (case hg => rfl); (case hr => first | (go_simp; done) | (go_simp; rfl)); (case hp => exact (Reps.none _ _)); intro v150 w23 ho24 hb hg_ hnew_; clear hg_ hnew_; have n0_ := Aside0.mk (Kd.R_lower ho24 (below_size (by repeat (first | (with_reducible first | exact HB.out | apply below_alloc | apply pw_below_drewN | apply below_drew1) | exact HB.out)))); have n1_ := Aside0.mk (below_step (by repeat (first | (with_reducible first | exact HB.out | apply below_alloc | apply pw_below_drewN | apply below_drew1) | exact HB.out)) hb); clear HB; have HO151 := n0_; have HB := n1_; clear n0_ n1_; clear hb ho24) | ((with_reducible refine gate_builtin (b := .append) (xs := #[.tmp 5, .tmp 6]) rfl ?_); at_builtin; refine Kd.R_append_rows (Kd.int .i64) (w0 := w) w.heap.size rfl (.tmp 5) (.tmp 6) 22 3 (.int .i64 0) 8 rfl Try.underlying22 info3 rfl (by decide) (by omega) v150 [] l0 _ _ _ (fun _ => True) (fun _ => False) rfl rfl ?aO ?aR (fun _ _ h => h) (fun _ h => h.elim) ?aF ?aB ?aS ?aL ?_; (case aR => repeat (first | exact (Kd.C_below HR0.out HB.out) | (with_reducible refine Kd.C_alloc ?_ _) | (with_reducible refine Kd.C_drewN ?_ _) | (with_reducible refine Kd.C_drew ?_))); (case aB => exact (by repeat (first | (with_reducible first | exact HB.out | apply below_alloc | apply pw_below_drewN | apply below_drew1) | exact HB.out))); (case aF => exact (fun _ _ => trivial)); (case aO => exact (by (with_reducible repeat (first | apply Kd.R_alloc | apply Kd.R_drewN | apply Kd.R_drew)); exact HO151.out)); (case aS => exact (below_size (by repeat (first | (with_reducible first | exact HB.out | apply below_alloc | apply pw_below_drewN | apply below_drew1) | exact HB.out)))); (case aL => have := LM.out; simp only [List.length_nil]; omega); intro v153 w25 ho hb hg hat; have n0_ := Aside0.mk (hb); have n1_ := Aside0.mk (ho); clear HB; clear HO151; have HB := n0_; have HO154 := n1_; clear n0_ n1_; clear ho hb hg hat))
      go_ret
      exact ⟨_, rfl, by (with_reducible repeat (first | apply Kd.R_alloc | apply Kd.R_drewN | apply Kd.R_drew)); exact HO154.out, by repeat (first | (with_reducible first | exact HB.out | apply below_alloc | apply pw_below_drewN | apply below_drew1) | exact HB.out)⟩
  · rw [if_neg hl] at h
    exact absurd h (by simp)


/-! ### slices_Clip_int_int: function 52 -/
def slices_Clip_int_int.f (l0 : List Int) : Option (List Int) := some (l0)
set_option maxHeartbeats 8000000 in
set_option maxRecDepth 100000 in
theorem slices_Clip_int_int.calls (P0_ : Nat → Prop) (u9000_ : Value) (l0 : List Int) (r : List Int) (w0 w : World) (hB : Below w0.heap.size w0 w) (ho0 : Kd.Q (Kd.int .i64) 3 w w0.heap.size P0_ u9000_ l0) (h : slices_Clip_int_int.f l0 = some r) :
    Calls Try.prog 52 #[u9000_] w fun e w' => ∃ v0_ : Value, e = .returned (v0_) ∧ Kd.Q (Kd.int .i64) 3 w' w0.heap.size (fun k_ => (P0_ k_ ∨ w.heap.size ≤ k_)) v0_ r ∧ Below w0.heap.size w0 w' ∧ Kept w w' (fun k_ => P0_ k_) := by
  have HO0 := Aside0.mk (show Kd.Q (Kd.int .i64) 3 w w0.heap.size (fun k_ => (P0_ k_ ∨ w.heap.size ≤ k_)) u9000_ l0 from Kd.Q_mono ho0 (fun k_ hk => (.inl hk)))
  have HK := Aside0.mk (Kept.refl w (fun k_ => P0_ k_))
  have HW0 := Aside0.mk hB.size
  have HB := Aside0.mk hB
  clear hB
  have H : (some (l0)) = some r := h
  clear h
  obtain ⟨y271, hy271⟩ : ∃ y_ : List Int, y_ = (l0) := ⟨_, rfl⟩
  replace H : (some y271) = some r := by first | (rw [hy271]; with_reducible exact H) | (have H2_ := (Option.bind_some _ _).symm.trans H; rw [hy271]; with_reducible exact H2_) | (have H2_ := (Option.bind_some _ _).symm.trans H; with_reducible exact H2_) | with_reducible exact H | (rw [hy271]; exact H) | exact H
  have Ny271 := Aside0.mk hy271
  clear hy271
  obtain rfl := Option.some.inj H
  obtain ⟨Ao2, co2, eo2, _⟩ := Kd.Q_slice HO0.out
  subst eo2
  obtain ⟨i03, hi03, _, hsz3, _⟩ := info_parts info3
  have hcut3 := cut_clip (P := Try.prog) 22 3 Try.underlying22 hi03 Ao2 l0.length co2 (Kd.Q_reads' HO0.out).2.1
  have hr3 := Kd.Q_clip HO0.out
  obtain ⟨gl3, hgl3⟩ : ∃ g_ : Nat, g_ = l0.length := ⟨_, rfl⟩
  rw [← hgl3, ← Ny271.out, hgl3] at hr3
  clear hgl3 gl3
  clear hi03 hsz3 HO0
  have HO273 := Aside0.mk hr3
  clear hr3
  go_enter Try.func52, Try.ntmps52
  go_wp2
  go_ret
  exact ⟨_, by first | rfl | (simp [errW_none, errW_some] <;> rfl) | (simp [*, errW_none, errW_some] <;> rfl), by (with_reducible repeat (first | apply Kd.Q_alloc | apply Kd.Q_drewN | apply Kd.Q_drew)); exact HO273.out, by repeat (first | (with_reducible first | exact HB.out | apply below_alloc | apply pw_below_drewN | apply below_drew1) | exact HB.out), by repeat (first | (with_reducible first | exact HK.out | apply Kept.alloc | apply Kept.drewN | apply Kept.drew) | exact HK.out)⟩

/-! ### impl_clone_int: function 38 -/
def impl_clone_int.f (l0 : List Int) : Option (List Int) := (slices_Clone_int_int.f l0).bind fun t274 => ((slices_Clip_int_int.f t274).bind fun t277 => (some t277))
set_option maxHeartbeats 8000000 in
set_option maxRecDepth 100000 in
theorem impl_clone_int.calls (A0 : Option Addr) (c0 : Nat) (l0 : List Int) (r : List Int) (w : World) (hr0 : Kd.C (Kd.int .i64) w A0 l0.length l0) (hc0 : l0.length ≤ c0) (h : impl_clone_int.f l0 = some r) :
    Calls Try.prog 38 #[.slice A0 l0.length c0] w fun e w' => ∃ v0_ : Value, e = .returned (v0_) ∧ Kd.Q (Kd.int .i64) 3 w' w.heap.size (fun _ => True) v0_ r ∧ Below w.heap.size w w' := by
  have HR0 := Aside0.mk hr0
  have HC0 := Aside0.mk hc0
  clear hr0 hc0
  have HB := Aside0.mk (Below.refl w.heap.size w)
  have H : ((slices_Clone_int_int.f l0).bind fun t274 => ((slices_Clip_int_int.f t274).bind fun t277 => (some t277))) = some r := h
  clear h
  replace H := Option.bind_eq_some_iff.mp H
  obtain ⟨t274, A20, H⟩ := H
  replace H : ((slices_Clip_int_int.f t274).bind fun t277 => (some t277)) = some r := H
  have A2 := Aside0.mk A20
  clear A20
  replace H := Option.bind_eq_some_iff.mp H
  obtain ⟨t277, A30, H⟩ := H
  replace H : (some t277) = some r := H
  have A3 := Aside0.mk A30
  clear A30
  obtain rfl := Option.some.inj H
  go_enter Try.func38, Try.ntmps38
  go_wp2_with (first | ((with_reducible refine gate_callee (f := 29) rfl ?_); refine goesL_ (some 4) rfl rfl Try.func29 (by kernel_rfl) rfl #[.slice A0 l0.length c0] rfl (by (try simp only [List.map_toArray, List.map_cons, List.map_nil]); first | done | rfl | (simp only [List.length_drop, List.length_take]; rfl)) ?_; (with_reducible refine (slices_Clone_int_int.calls _ _ l0 t274 _ ?side1 ?side2 A2.out).mono ?_); (case side1 => repeat (first | exact HR0.out | (with_reducible refine Kd.C_alloc ?_ _) | (with_reducible refine Kd.C_drewN ?_ _) | (with_reducible refine Kd.C_drew ?_))); (case side2 => exact HC0.out); rintro e w4 ⟨v275, rfl, ho0, hb⟩; refine ⟨_, rfl, ?_⟩; have n0_ := Aside0.mk (Kd.R_lower ho0 (below_size (by repeat (first | (with_reducible first | exact HB.out | apply below_alloc | apply pw_below_drewN | apply below_drew1) | exact HB.out)))); have n1_ := Aside0.mk (below_step (by repeat (first | (with_reducible first | exact HB.out | apply below_alloc | apply pw_below_drewN | apply below_drew1) | exact HB.out)) hb); clear HB; have HO276 := n0_; have HB := n1_; clear n0_ n1_; (try clear hb); (try clear hb2); (try clear hk); (try clear hi); (try clear ho0); obtain ⟨Ao5, co5, eo5⟩ := Kd.R_slice HO276.out; subst eo5) | ((with_reducible refine gate_callee (f := 52) rfl ?_); refine goesL_ (some 5) rfl rfl Try.func52 (by kernel_rfl) rfl #[.slice Ao5 t274.length co5] rfl (by (try simp only [List.map_toArray, List.map_cons, List.map_nil]); first | done | rfl | (simp only [List.length_drop, List.length_take]; rfl)) ?_; (with_reducible refine (slices_Clip_int_int.calls (fun k_ => some k_ = (.slice Ao5 t274.length co5 : Value).ownBlock) (.slice Ao5 t274.length co5) t274 t277 w _ ?side1 ?side2 A3.out).mono ?_); (case side1 => repeat (first | (with_reducible first | exact HB.out | apply below_alloc | apply pw_below_drewN | apply below_drew1) | exact HB.out)); (case side2 => exact Kd.Q_tight rfl (Kd.Q_of_R (HO276.out))); rintro e w6 ⟨v278, rfl, ho0, hb, hkp⟩; refine ⟨_, rfl, ?_⟩; have n0_ := Aside0.mk (Kd.Q_mono (ok' := fun k_ => True) ho0 (fun k_ hk_ => trivial)); have n1_ := Aside0.mk (hb); clear HB; clear HO276; have HO279 := n0_; have HB := n1_; clear n0_ n1_; (try clear hb); (try clear hkp); (try clear ho0)))
  go_ret
  exact ⟨_, by first | rfl | (simp [errW_none, errW_some] <;> rfl) | (simp [*, errW_none, errW_some] <;> rfl), by (with_reducible repeat (first | apply Kd.Q_alloc | apply Kd.Q_drewN | apply Kd.Q_drew)); exact HO279.out, by repeat (first | (with_reducible first | exact HB.out | apply below_alloc | apply pw_below_drewN | apply below_drew1) | exact HB.out)⟩

/-! ### impl_in: function 41 -/
def impl_in.f (a0 : Int) (a1 : Int) (a2 : Int) : Option (Bool) := if a0 ≥ a1 then (some (decide (a0 ≤ a2))) else (some false)
set_option maxHeartbeats 8000000 in
set_option maxRecDepth 100000 in
theorem impl_in.calls (a0 : Int) (a1 : Int) (a2 : Int) (r : Bool) (w : World) (h : impl_in.f a0 a1 a2 = some r) :
    Calls Try.prog 41 #[.int .i64 a0, .int .i64 a1, .int .i64 a2] w fun e w' => e = .returned (.bool r) ∧ Drawn0 w w' := by
  have H : (if a0 ≥ a1 then (some (decide (a0 ≤ a2))) else (some false)) = some r := h
  clear h
  by_cases c4 : a0 ≥ a1
  · rw [if_pos c4] at H
    have c4b0 : decide (a1 ≤ a0) = true := decide_eq_true c4
    clear c4
    obtain rfl := Option.some.inj H
    go_enter Try.func41, Try.ntmps41
    go_wp2
    go_ret
    exact ⟨by first | rfl | (simp; done) | (simp [*]; done), by repeat (first | exact Drawn0.refl _ | apply Drawn0.step)⟩
  · rw [if_neg c4] at H
    have c4b0 : decide (a1 ≤ a0) = false := decide_eq_false c4
    clear c4
    obtain rfl := Option.some.inj H
    go_enter Try.func41, Try.ntmps41
    go_wp2
    go_ret
    exact ⟨by first | rfl | (simp; done) | (simp [*]; done), by repeat (first | exact Drawn0.refl _ | apply Drawn0.step)⟩

-- NOT PRINTED: function 53 (impl_diagramValid_1)

/-! ### impl_diagramValid: function 45 -/
/-- Does a source exist? -/
def dia.ex (inp : Int) (n : Nat) (x : Int) : Bool := decide (-inp ≤ x) && decide (x ≤ (n : Int) - 1)
def dia.ok (inp : Int) (n : Nat) (b : S52) : Bool := (decide (1 ≤ b.f0) && decide (b.f0 ≤ 5)) && (dia.ex inp n b.f1 && (if b.f0 = 5 then b.f2 == -1 else dia.ex inp n b.f2))
def dia.valid (l : List S52) (inp : Int) : Bool := if l.length ≤ 12 ∧ 0 ≤ inp ∧ inp ≤ 6 then l.all (dia.ok inp l.length) else false
theorem dia.in_f (a b c : Int) : impl_in.f a b c = some (decide (b ≤ a) && decide (a ≤ c)) := by
  unfold impl_in.f
  by_cases h : a ≥ b
  · rw [if_pos h]; simp [show b ≤ a from h]
  · rw [if_neg h]; simp [show ¬ b ≤ a from h]
theorem dia.exists (gi gl : Nat) (A : Option Addr) (n c : Nat) (inp x : Int) (w : World) (h0 : 0 ≤ inp) (h6 : inp ≤ 6) (hn : n ≤ 12) (hi : w.heap[gi]? = some (.cells #[.int .i64 inp] 3 (0, 0))) (hl : w.heap[gl]? = some (.cells #[.slice A n c] 31 (0, 0))) :
    Calls Try.prog 53 #[.int .i64 x, .pointer (some ⟨gi, 0, none⟩), .pointer (some ⟨gl, 0, none⟩)] w fun e w' => e = .returned (.bool (dia.ex inp n x)) ∧ Below w.heap.size w w' := by
  have c1 : w.cell? ⟨gi, 0, none⟩ = some (.int .i64 inp) := (blk_cell hi 0).trans rfl
  have c2 : w.cell? ⟨gl, 0, none⟩ = some (.slice A n c) := (blk_cell hl 0).trans rfl
  have hcall := fun w' => impl_in.calls x (-inp) ((n : Int) - 1) (dia.ex inp n x) w' (dia.in_f _ _ _)
  generalize dia.ex inp n x = r at hcall ⊢
  have hn2 : (n : Int) ≤ 12 := by omega
  clear hi hl hn
  go_enter Try.func53, Try.ntmps53
  go_wp2_with (go_at_call 41; refine (hcall _).mono ?_; rintro e w' ⟨rfl, ⟨⟨nd, rfl⟩⟩⟩)
  go_ret
  exact ⟨rfl, pw_below_drewN (Below.refl _ _) _⟩
def impl_diagramValid.f (l0 : List S52) (a1 : Int) : Option Bool := some (dia.valid l0 a1)
set_option maxHeartbeats 8000000 in
set_option maxRecDepth 100000 in
theorem impl_diagramValid.calls (A0 : Option Addr) (c0 : Nat) (l0 : List S52) (a1 : Int) (r : Bool) (w : World) (hr0 : Kd.C k52 w A0 l0.length l0) (hc0 : l0.length ≤ c0) (h : impl_diagramValid.f l0 a1 = some r) :
    Calls Try.prog 45 #[.slice A0 l0.length c0, .int .i64 a1] w fun e w' => e = .returned (.bool r) ∧ Below w.heap.size w w' := by
  have hu := Try.underlying52
  obtain rfl := Option.some.inj h
  have HR := Aside0.mk hr0
  clear h hr0 hc0
  unfold dia.valid
  by_cases h12 : l0.length ≤ 12
  · have h12b : decide ((12 : Int) < (l0.length : Int)) = false := by simp; omega
    by_cases hin : 0 ≤ a1 ∧ a1 ≤ 6
    · rw [if_pos ⟨h12, hin.1, hin.2⟩]
      have H12 := Aside0.mk h12
      have hcall := fun w' => impl_in.calls a1 0 6 true w' (by rw [dia.in_f]; simp [hin.1, hin.2])
      obtain ⟨hin0, hin6⟩ := hin
      clear h12
      go_enter Try.func45, Try.ntmps45
      go_wp2_with (first | ((with_reducible refine gate_dst (N := 2) rfl ?_); refine box_event ?hg (N := 2) ?hd (cs := #[.slice A0 l0.length c0]) (t := 31) ?hr ?_; (case hd => rfl); (case hg => rfl); (case hr => first | (go_simp; done) | (go_simp; rfl)); intro gl hg wb1 hbox hb; have KL0 := Aside0.mk hbox; have HB0 := Aside0.mk hb; clear hb hbox hg) | ((with_reducible refine gate_dst (N := 3) rfl ?_); refine box_event ?hg2 (N := 3) ?hd2 (cs := #[.int .i64 a1]) (t := 3) ?hr2 ?_; (case hd2 => rfl); (case hg2 => rfl); (case hr2 => first | (go_simp; done) | (go_simp; rfl)); intro gi hg wb2 hbox hb; have KI := Aside0.mk hbox; have KL := Aside0.mk (blk_below KL0.out hb); have HB := Aside0.mk (below_step HB0.out hb); clear hb hbox hg KL0 HB0; have hm2 : wb2.cell? ⟨gl, 0, none⟩ = some (.slice A0 l0.length c0) := (blk_cell KL.out 0).trans rfl; have hm3 : wb2.cell? ⟨gi, 0, none⟩ = some (.int .i64 a1) := (blk_cell KI.out 0).trans rfl) | (go_at_call 41; refine (hcall _).mono ?_; rintro e w' ⟨rfl, ⟨⟨nd, rfl⟩⟩⟩))
      clear hcall hm2 hm3
      go_loopg [18] l0.length (fun gg v18 wr => ∃ i : Nat, v18 = .int .i64 (i : Int) ∧ Aside0 (i + gg = l0.length) ∧ Aside0 ((l0.drop i).all (dia.ok a1 l0.length) = l0.all (dia.ok a1 l0.length)) ∧ Aside0 (wr.heap[gl]? = some (.cells #[.slice A0 l0.length c0] 31 (0, 0))) ∧ Aside0 (wr.heap[gi]? = some (.cells #[.int .i64 a1] 3 (0, 0))) ∧ Aside0 (Below w.heap.size w wr))
      case atStart => exact ⟨0, rfl, ⟨by omega⟩, ⟨rfl⟩, ⟨by (with_reducible repeat (first | refine blk_drewN ?_ _ | refine blk_drew ?_)); exact KL.out⟩, ⟨by (with_reducible repeat (first | refine blk_drewN ?_ _ | refine blk_drew ?_)); exact KI.out⟩, ⟨by repeat (first | (with_reducible first | exact HB.out | apply pw_below_drewN | apply below_drew1) | exact HB.out)⟩⟩
      case round =>
        clear KL KI HB
        obtain ⟨i, rfl, HN, HA, KL, KI, HB⟩ := hrel
        cases gk with
        | zero =>
          have hi : i = l0.length := HN.out
          subst hi
          have hltz : ¬ ((l0.length : Int) < (l0.length : Int)) := by omega
          have ha := HA.out
          rw [List.drop_length] at ha
          have HE := Aside0.mk (show true = l0.all (dia.ok a1 l0.length) from ha)
          clear ha
          go_wp2
          go_ret
          exact ⟨by rw [← HE.out]; rfl, HB.out⟩
        | succ m =>
          have hlt : i < l0.length := by have := HN.out; omega
          have hltz : (i : Int) < (l0.length : Int) := by omega
          obtain ⟨ad, e1, hx0, hx1, hx2⟩ := at_T52 HR.out (i : Int) (by omega) (by omega)
          have hrd : rd_T52 l0 (i : Int) = l0[i] := by unfold rd_T52; rw [Int.toNat_natCast, List.getD_eq_getElem?_getD, List.getElem?_eq_getElem hlt]; rfl
          have ha := HA.out
          rw [List.drop_eq_getElem_cons hlt, List.all_cons] at ha
          rw [hrd] at hx0 hx1 hx2
          simp only [Int.toNat_natCast] at hx0 hx1 hx2
          subst e1
          replace hx0 := (HB.out.cell (World.block_lt_of_cell? w _ hx0)).trans hx0
          replace hx1 := (HB.out.cell (World.block_lt_of_cell? w _ hx1)).trans hx1
          replace hx2 := (HB.out.cell (World.block_lt_of_cell? w _ hx2)).trans hx2
          clear HA hrd
          generalize l0[i] = x at hx0 hx1 hx2 ha
          unfold dia.ok at ha
          rw [show (fun b : S52 => (decide (1 ≤ b.f0) && decide (b.f0 ≤ 5)) && (dia.ex a1 l0.length b.f1 && (if b.f0 = 5 then b.f2 == -1 else dia.ex a1 l0.length b.f2))) = dia.ok a1 l0.length from rfl] at ha
          have hin1 := fun w' => impl_in.calls x.f0 1 5 _ w' (dia.in_f _ _ _)
          have hexA := fun (w' : World) (hb : Below wr.heap.size wr w') => dia.exists gi gl (some ad) l0.length c0 a1 x.f1 w' hin0 hin6 H12.out (blk_below KI.out hb) (blk_below KL.out hb)
          have hexB := fun (w' : World) (hb : Below wr.heap.size wr w') => dia.exists gi gl (some ad) l0.length c0 a1 x.f2 w' hin0 hin6 H12.out (blk_below KI.out hb) (blk_below KL.out hb)
          generalize (decide (1 ≤ x.f0) && decide (x.f0 ≤ 5)) = k1 at hin1 ha
          generalize dia.ex a1 l0.length x.f1 = eA at hexA ha
          generalize dia.ex a1 l0.length x.f2 = eB at hexB ha
          have HIN := Aside0.mk hin1
          have HEA := Aside0.mk hexA
          have HEB := Aside0.mk hexB
          clear hin1 hexA hexB
          go_upto_block 2 with (first | ((with_reducible refine gate_dst (N := 6) rfl ?_); refine box_event ?hg (N := 6) ?hd (cs := #[.int .i64 0, .int .i64 0, .int .i64 0]) (t := 52) ?hr ?_; (case hd => rfl); (case hg => rfl); (case hr => first | (go_simp; done) | (go_simp; rfl)); intro gx hg w2 hbox hb; have BX := Aside0.mk hbox; have HBx := Aside0.mk hb; have GX := Aside0.mk (show wr.heap.size ≤ gx from by rw [hg]; exact Nat.le_refl _); clear hb hbox hg; have hcz0 : w2.cell? ⟨gx, 0, none⟩ = some (.int .i64 0) := (blk_cell BX.out 0).trans rfl; have hcz1 : w2.cell? ⟨gx, 1, none⟩ = some (.int .i64 0) := (blk_cell BX.out 1).trans rfl; have hcz2 : w2.cell? ⟨gx, 2, none⟩ = some (.int .i64 0) := (blk_cell BX.out 2).trans rfl; have hfz0 := blk_frozen BX.out 0; have hfz1 := blk_frozen BX.out 1; have hfz2 := blk_frozen BX.out 2))
          clear hcz0 hcz1 hcz2 hfz0 hfz1 hfz2 hx0 hx1 hx2
          have BX3 := Aside0.mk (blk_put (cs' := #[.int .i64 x.f0, .int .i64 x.f1, .int .i64 x.f2]) (blk_put (cs' := #[.int .i64 x.f0, .int .i64 x.f1, .int .i64 0]) (blk_put (cs' := #[.int .i64 x.f0, .int .i64 0, .int .i64 0]) BX.out 0 (.int .i64 x.f0) rfl) 1 (.int .i64 x.f1) rfl) 2 (.int .i64 x.f2) rfl)
          have HB3 := Aside0.mk (below_set (j := 2) (v := .int .i64 x.f2) (below_set (j := 1) (v := .int .i64 x.f1) (below_set (j := 0) (v := .int .i64 x.f0) HBx.out GX.out) GX.out) GX.out)
          clear BX HBx GX
          generalize ((w2.setCell ⟨gx, 0, none⟩ (.int .i64 x.f0)).setCell ⟨gx, 1, none⟩ (.int .i64 x.f1)).setCell ⟨gx, 2, none⟩ (.int .i64 x.f2) = W1 at BX3 HB3 ⊢
          have hy0 : W1.cell? ⟨gx, 0, none⟩ = some (.int .i64 x.f0) := (blk_cell BX3.out 0).trans rfl
          have hy1 : W1.cell? ⟨gx, 1, none⟩ = some (.int .i64 x.f1) := (blk_cell BX3.out 1).trans rfl
          have hy2 : W1.cell? ⟨gx, 2, none⟩ = some (.int .i64 x.f2) := (blk_cell BX3.out 2).trans rfl
          cases k1 with
          | false =>
            have HE := Aside0.mk (show false = l0.all (dia.ok a1 l0.length) from by first | (simp at ha; exact ha) | (simp at ha; rw [← ha]) | simpa using ha)
            clear ha
            go_wp2_with (first | (go_at_call 41; refine (HIN.out _).mono ?_; rintro e w' ⟨rfl, ⟨⟨nd, rfl⟩⟩⟩))
            go_ret
            exact ⟨by rw [← HE.out]; rfl, below_step HB.out (by repeat (first | (with_reducible first | exact HB3.out | apply pw_below_drewN | apply below_drew1) | exact HB3.out))⟩
          | true =>
          cases eA with
          | false =>
            have HE := Aside0.mk (show false = l0.all (dia.ok a1 l0.length) from by first | (simp at ha; exact ha) | (simp at ha; rw [← ha]) | simpa using ha)
            clear ha
            go_wp2_with (first | (go_at_call 41; refine (HIN.out _).mono ?_; rintro e w' ⟨rfl, ⟨⟨nd, rfl⟩⟩⟩) | (go_at_call 53; (with_reducible refine (HEA.out _ ?sb4).mono ?_); (case sb4 => repeat (first | (with_reducible first | exact HB3.out | apply pw_below_drewN | apply below_drew1) | exact HB3.out)); rintro e wx4 ⟨rfl, hb⟩; have BX4 := Aside0.mk (blk_below (g := gx) (o := .cells #[.int .i64 x.f0, .int .i64 x.f1, .int .i64 x.f2] 52 (0, 0)) (by (with_reducible repeat (first | refine blk_drewN ?_ _ | refine blk_drew ?_)); exact BX3.out) hb); have HB4 := Aside0.mk (below_step (by repeat (first | (with_reducible first | exact HB3.out | apply pw_below_drewN | apply below_drew1) | exact HB3.out)) hb); clear hb hy0 hy1 hy2; have hy0 : wx4.cell? ⟨gx, 0, none⟩ = some (.int .i64 x.f0) := (blk_cell BX4.out 0).trans rfl; have hy1 : wx4.cell? ⟨gx, 1, none⟩ = some (.int .i64 x.f1) := (blk_cell BX4.out 1).trans rfl; have hy2 : wx4.cell? ⟨gx, 2, none⟩ = some (.int .i64 x.f2) := (blk_cell BX4.out 2).trans rfl))
            go_ret
            exact ⟨by rw [← HE.out]; rfl, below_step HB.out (by repeat (first | (with_reducible first | exact HB4.out | apply pw_below_drewN | apply below_drew1) | exact HB4.out))⟩
          | true =>
          by_cases k5 : x.f0 = 5
          · have k5b : (x.f0 == 5) = true := by rw [k5]; rfl
            have k5n : (x.f0 != 5) = false := by rw [k5]; rfl
            rw [if_pos k5] at ha
            clear k5
            by_cases kB : x.f2 = -1
            · have kBb : (x.f2 == -1) = true := by rw [kB]; rfl
              have kBn : (x.f2 != -1) = false := by rw [kB]; rfl
              have HE := Aside0.mk (show (l0.drop (i + 1)).all (dia.ok a1 l0.length) = l0.all (dia.ok a1 l0.length) from by rw [kBb] at ha; simpa using ha)
              clear ha kB
              go_wp2_with (first | (go_at_call 41; refine (HIN.out _).mono ?_; rintro e w' ⟨rfl, ⟨⟨nd, rfl⟩⟩⟩) | (go_at_call 53; (with_reducible refine (HEA.out _ ?sb4).mono ?_); (case sb4 => repeat (first | (with_reducible first | exact HB3.out | apply pw_below_drewN | apply below_drew1) | exact HB3.out)); rintro e wx4 ⟨rfl, hb⟩; have BX4 := Aside0.mk (blk_below (g := gx) (o := .cells #[.int .i64 x.f0, .int .i64 x.f1, .int .i64 x.f2] 52 (0, 0)) (by (with_reducible repeat (first | refine blk_drewN ?_ _ | refine blk_drew ?_)); exact BX3.out) hb); have HB4 := Aside0.mk (below_step (by repeat (first | (with_reducible first | exact HB3.out | apply pw_below_drewN | apply below_drew1) | exact HB3.out)) hb); clear hb hy0 hy1 hy2; have hy0 : wx4.cell? ⟨gx, 0, none⟩ = some (.int .i64 x.f0) := (blk_cell BX4.out 0).trans rfl; have hy1 : wx4.cell? ⟨gx, 1, none⟩ = some (.int .i64 x.f1) := (blk_cell BX4.out 1).trans rfl; have hy2 : wx4.cell? ⟨gx, 2, none⟩ = some (.int .i64 x.f2) := (blk_cell BX4.out 2).trans rfl))
              go_roundg m
              case measure => omega
              case rel => exact ⟨i + 1, (by first | rw [show wrap64 ((i : Int) + 1) = ((i + 1 : Nat) : Int) from by have := H12.out; have := HN.out; unfold wrap64; omega] | go_num), ⟨by have := HN.out; omega⟩, HE, ⟨blk_below KL.out (by repeat (first | (with_reducible first | exact HB4.out | apply pw_below_drewN | apply below_drew1) | exact HB4.out))⟩, ⟨blk_below KI.out (by repeat (first | (with_reducible first | exact HB4.out | apply pw_below_drewN | apply below_drew1) | exact HB4.out))⟩, ⟨below_step HB.out (by repeat (first | (with_reducible first | exact HB4.out | apply pw_below_drewN | apply below_drew1) | exact HB4.out))⟩⟩
            · have kBb : (x.f2 == -1) = false := beq_eq_false_iff_ne.mpr kB
              have kBn : (x.f2 != -1) = true := bne_iff_ne.mpr kB
              have HE := Aside0.mk (show false = l0.all (dia.ok a1 l0.length) from by rw [kBb] at ha; simpa using ha)
              clear ha kB
              go_wp2_with (first | (go_at_call 41; refine (HIN.out _).mono ?_; rintro e w' ⟨rfl, ⟨⟨nd, rfl⟩⟩⟩) | (go_at_call 53; (with_reducible refine (HEA.out _ ?sb4).mono ?_); (case sb4 => repeat (first | (with_reducible first | exact HB3.out | apply pw_below_drewN | apply below_drew1) | exact HB3.out)); rintro e wx4 ⟨rfl, hb⟩; have BX4 := Aside0.mk (blk_below (g := gx) (o := .cells #[.int .i64 x.f0, .int .i64 x.f1, .int .i64 x.f2] 52 (0, 0)) (by (with_reducible repeat (first | refine blk_drewN ?_ _ | refine blk_drew ?_)); exact BX3.out) hb); have HB4 := Aside0.mk (below_step (by repeat (first | (with_reducible first | exact HB3.out | apply pw_below_drewN | apply below_drew1) | exact HB3.out)) hb); clear hb hy0 hy1 hy2; have hy0 : wx4.cell? ⟨gx, 0, none⟩ = some (.int .i64 x.f0) := (blk_cell BX4.out 0).trans rfl; have hy1 : wx4.cell? ⟨gx, 1, none⟩ = some (.int .i64 x.f1) := (blk_cell BX4.out 1).trans rfl; have hy2 : wx4.cell? ⟨gx, 2, none⟩ = some (.int .i64 x.f2) := (blk_cell BX4.out 2).trans rfl))
              go_ret
              exact ⟨by rw [← HE.out]; rfl, below_step HB.out (by repeat (first | (with_reducible first | exact HB4.out | apply pw_below_drewN | apply below_drew1) | exact HB4.out))⟩
          · have k5b : (x.f0 == 5) = false := beq_eq_false_iff_ne.mpr k5
            have k5n : (x.f0 != 5) = true := bne_iff_ne.mpr k5
            rw [if_neg k5] at ha
            clear k5
            cases eB with
            | false =>
              have HE := Aside0.mk (show false = l0.all (dia.ok a1 l0.length) from by first | (simp at ha; exact ha) | (simp at ha; rw [← ha]) | simpa using ha)
              clear ha
              go_wp2_with (first | (go_at_call 41; refine (HIN.out _).mono ?_; rintro e w' ⟨rfl, ⟨⟨nd, rfl⟩⟩⟩) | (go_at_call 53; (with_reducible refine (HEA.out _ ?sb4).mono ?_); (case sb4 => repeat (first | (with_reducible first | exact HB3.out | apply pw_below_drewN | apply below_drew1) | exact HB3.out)); rintro e wx4 ⟨rfl, hb⟩; have BX4 := Aside0.mk (blk_below (g := gx) (o := .cells #[.int .i64 x.f0, .int .i64 x.f1, .int .i64 x.f2] 52 (0, 0)) (by (with_reducible repeat (first | refine blk_drewN ?_ _ | refine blk_drew ?_)); exact BX3.out) hb); have HB4 := Aside0.mk (below_step (by repeat (first | (with_reducible first | exact HB3.out | apply pw_below_drewN | apply below_drew1) | exact HB3.out)) hb); clear hb hy0 hy1 hy2; have hy0 : wx4.cell? ⟨gx, 0, none⟩ = some (.int .i64 x.f0) := (blk_cell BX4.out 0).trans rfl; have hy1 : wx4.cell? ⟨gx, 1, none⟩ = some (.int .i64 x.f1) := (blk_cell BX4.out 1).trans rfl; have hy2 : wx4.cell? ⟨gx, 2, none⟩ = some (.int .i64 x.f2) := (blk_cell BX4.out 2).trans rfl) | (go_at_call 53; (with_reducible refine (HEB.out _ ?sb5).mono ?_); (case sb5 => repeat (first | (with_reducible first | exact HB4.out | apply pw_below_drewN | apply below_drew1) | exact HB4.out)); rintro e wx5 ⟨rfl, hb⟩; have BX5 := Aside0.mk (blk_below (g := gx) (o := .cells #[.int .i64 x.f0, .int .i64 x.f1, .int .i64 x.f2] 52 (0, 0)) (by (with_reducible repeat (first | refine blk_drewN ?_ _ | refine blk_drew ?_)); exact BX4.out) hb); have HB5 := Aside0.mk (below_step (by repeat (first | (with_reducible first | exact HB4.out | apply pw_below_drewN | apply below_drew1) | exact HB4.out)) hb); clear hb hy0 hy1 hy2; have hy0 : wx5.cell? ⟨gx, 0, none⟩ = some (.int .i64 x.f0) := (blk_cell BX5.out 0).trans rfl; have hy1 : wx5.cell? ⟨gx, 1, none⟩ = some (.int .i64 x.f1) := (blk_cell BX5.out 1).trans rfl; have hy2 : wx5.cell? ⟨gx, 2, none⟩ = some (.int .i64 x.f2) := (blk_cell BX5.out 2).trans rfl))
              go_ret
              exact ⟨by rw [← HE.out]; rfl, below_step HB.out (by repeat (first | (with_reducible first | exact HB5.out | apply pw_below_drewN | apply below_drew1) | exact HB5.out))⟩
            | true =>
              have HE := Aside0.mk (show (l0.drop (i + 1)).all (dia.ok a1 l0.length) = l0.all (dia.ok a1 l0.length) from by simpa using ha)
              clear ha
              go_wp2_with (first | (go_at_call 41; refine (HIN.out _).mono ?_; rintro e w' ⟨rfl, ⟨⟨nd, rfl⟩⟩⟩) | (go_at_call 53; (with_reducible refine (HEA.out _ ?sb4).mono ?_); (case sb4 => repeat (first | (with_reducible first | exact HB3.out | apply pw_below_drewN | apply below_drew1) | exact HB3.out)); rintro e wx4 ⟨rfl, hb⟩; have BX4 := Aside0.mk (blk_below (g := gx) (o := .cells #[.int .i64 x.f0, .int .i64 x.f1, .int .i64 x.f2] 52 (0, 0)) (by (with_reducible repeat (first | refine blk_drewN ?_ _ | refine blk_drew ?_)); exact BX3.out) hb); have HB4 := Aside0.mk (below_step (by repeat (first | (with_reducible first | exact HB3.out | apply pw_below_drewN | apply below_drew1) | exact HB3.out)) hb); clear hb hy0 hy1 hy2; have hy0 : wx4.cell? ⟨gx, 0, none⟩ = some (.int .i64 x.f0) := (blk_cell BX4.out 0).trans rfl; have hy1 : wx4.cell? ⟨gx, 1, none⟩ = some (.int .i64 x.f1) := (blk_cell BX4.out 1).trans rfl; have hy2 : wx4.cell? ⟨gx, 2, none⟩ = some (.int .i64 x.f2) := (blk_cell BX4.out 2).trans rfl) | (go_at_call 53; (with_reducible refine (HEB.out _ ?sb5).mono ?_); (case sb5 => repeat (first | (with_reducible first | exact HB4.out | apply pw_below_drewN | apply below_drew1) | exact HB4.out)); rintro e wx5 ⟨rfl, hb⟩; have BX5 := Aside0.mk (blk_below (g := gx) (o := .cells #[.int .i64 x.f0, .int .i64 x.f1, .int .i64 x.f2] 52 (0, 0)) (by (with_reducible repeat (first | refine blk_drewN ?_ _ | refine blk_drew ?_)); exact BX4.out) hb); have HB5 := Aside0.mk (below_step (by repeat (first | (with_reducible first | exact HB4.out | apply pw_below_drewN | apply below_drew1) | exact HB4.out)) hb); clear hb hy0 hy1 hy2; have hy0 : wx5.cell? ⟨gx, 0, none⟩ = some (.int .i64 x.f0) := (blk_cell BX5.out 0).trans rfl; have hy1 : wx5.cell? ⟨gx, 1, none⟩ = some (.int .i64 x.f1) := (blk_cell BX5.out 1).trans rfl; have hy2 : wx5.cell? ⟨gx, 2, none⟩ = some (.int .i64 x.f2) := (blk_cell BX5.out 2).trans rfl))
              go_roundg m
              case measure => omega
              case rel => exact ⟨i + 1, (by first | rw [show wrap64 ((i : Int) + 1) = ((i + 1 : Nat) : Int) from by have := H12.out; have := HN.out; unfold wrap64; omega] | go_num), ⟨by have := HN.out; omega⟩, HE, ⟨blk_below KL.out (by repeat (first | (with_reducible first | exact HB5.out | apply pw_below_drewN | apply below_drew1) | exact HB5.out))⟩, ⟨blk_below KI.out (by repeat (first | (with_reducible first | exact HB5.out | apply pw_below_drewN | apply below_drew1) | exact HB5.out))⟩, ⟨below_step HB.out (by repeat (first | (with_reducible first | exact HB5.out | apply pw_below_drewN | apply below_drew1) | exact HB5.out))⟩⟩
    · rw [if_neg (fun h => hin ⟨h.2.1, h.2.2⟩)]
      have hcall := fun w' => impl_in.calls a1 0 6 false w' (by rw [dia.in_f]; simp; omega)
      clear h12 hin
      go_enter Try.func45, Try.ntmps45
      go_wp2_with (first | ((with_reducible refine gate_dst (N := 2) rfl ?_); refine box_event ?hg (N := 2) ?hd (cs := #[.slice A0 l0.length c0]) (t := 31) ?hr ?_; (case hd => rfl); (case hg => rfl); (case hr => first | (go_simp; done) | (go_simp; rfl)); intro gl hg wb1 hbox hb; have KL0 := Aside0.mk hbox; have HB0 := Aside0.mk hb; clear hb hbox hg) | ((with_reducible refine gate_dst (N := 3) rfl ?_); refine box_event ?hg2 (N := 3) ?hd2 (cs := #[.int .i64 a1]) (t := 3) ?hr2 ?_; (case hd2 => rfl); (case hg2 => rfl); (case hr2 => first | (go_simp; done) | (go_simp; rfl)); intro gi hg wb2 hbox hb; have KI := Aside0.mk hbox; have KL := Aside0.mk (blk_below KL0.out hb); have HB := Aside0.mk (below_step HB0.out hb); clear hb hbox hg KL0 HB0; have hm2 : wb2.cell? ⟨gl, 0, none⟩ = some (.slice A0 l0.length c0) := (blk_cell KL.out 0).trans rfl; have hm3 : wb2.cell? ⟨gi, 0, none⟩ = some (.int .i64 a1) := (blk_cell KI.out 0).trans rfl) | (go_at_call 41; refine (hcall _).mono ?_; rintro e w' ⟨rfl, ⟨⟨nd, rfl⟩⟩⟩))
      go_ret
      exact ⟨rfl, by repeat (first | (with_reducible first | exact HB.out | apply pw_below_drewN | apply below_drew1) | exact HB.out)⟩
  · have h12b : decide ((12 : Int) < (l0.length : Int)) = true := by simp; omega
    rw [if_neg (fun h => h12 h.1)]
    clear h12
    go_enter Try.func45, Try.ntmps45
    go_wp2_with (first | ((with_reducible refine gate_dst (N := 2) rfl ?_); refine box_event ?hg (N := 2) ?hd (cs := #[.slice A0 l0.length c0]) (t := 31) ?hr ?_; (case hd => rfl); (case hg => rfl); (case hr => first | (go_simp; done) | (go_simp; rfl)); intro gl hg wb1 hbox hb; have KL0 := Aside0.mk hbox; have HB0 := Aside0.mk hb; clear hb hbox hg) | ((with_reducible refine gate_dst (N := 3) rfl ?_); refine box_event ?hg2 (N := 3) ?hd2 (cs := #[.int .i64 a1]) (t := 3) ?hr2 ?_; (case hd2 => rfl); (case hg2 => rfl); (case hr2 => first | (go_simp; done) | (go_simp; rfl)); intro gi hg wb2 hbox hb; have KI := Aside0.mk hbox; have KL := Aside0.mk (blk_below KL0.out hb); have HB := Aside0.mk (below_step HB0.out hb); clear hb hbox hg KL0 HB0; have hm2 : wb2.cell? ⟨gl, 0, none⟩ = some (.slice A0 l0.length c0) := (blk_cell KL.out 0).trans rfl; have hm3 : wb2.cell? ⟨gi, 0, none⟩ = some (.int .i64 a1) := (blk_cell KI.out 0).trans rfl))
    go_ret
    exact ⟨rfl, by repeat (first | (with_reducible first | exact HB.out | apply pw_below_drewN | apply below_drew1) | exact HB.out)⟩


-- NOT PRINTED: function 46 (impl_EvaluationOrder_1)

/-! ### impl_EvaluationOrder: function 26 -/
def eo.kn (l : List S52) (done : List Bool) (n : Int) : Bool := decide (n < 0) || (rdOf false done n || ((rd_T52 l n).f0 == 5))
def eo.rdy (l : List S52) (done : List Bool) (i : Nat) (x : S52) : Bool := !(rdOf false done (i : Int)) && (x.f0 == 5 || (eo.kn l done x.f1 && eo.kn l done x.f2))
/-- The first block that is ready, from i on. -/
def eo.at (l : List S52) (done : List Bool) : Nat → Nat → Option Nat
  | 0, _ => none
  | m + 1, i => if eo.rdy l done i (rd_T52 l (i : Int)) = true then some i else eo.at l done m (i + 1)
theorem eo.at_succ (l : List S52) (done : List Bool) (m i : Nat) : eo.at l done (m + 1) i = if eo.rdy l done i (rd_T52 l (i : Int)) = true then some i else eo.at l done m (i + 1) := rfl
def eo.go (l : List S52) : Nat → List Bool → List Int → List Int × Bool
  | 0, _, out => (out, true)
  | m + 1, done, out => match eo.at l done l.length 0 with
    | none => ([], false)
    | some i => eo.go l m (done.set i true) (out ++ [(i : Int)])
theorem eo.go_none {l : List S52} {m : Nat} {done : List Bool} {out : List Int} (h : eo.at l done l.length 0 = none) : eo.go l (m + 1) done out = ([], false) := by unfold eo.go; rw [h]
theorem eo.go_some {l : List S52} {m i : Nat} {done : List Bool} {out : List Int} (h : eo.at l done l.length 0 = some i) : eo.go l (m + 1) done out = eo.go l m (done.set i true) (out ++ [(i : Int)]) := by
  rw [eo.go, h]
def impl_EvaluationOrder.f (l0 : List S52) (a1 : Int) : Option (List Int × Bool) := some (if dia.valid l0 a1 = true then eo.go l0 l0.length (List.replicate l0.length false) [] else ([], false))
theorem dia.valid_all {l : List S52} {inp : Int} (h : dia.valid l inp = true) : l.length ≤ 12 ∧ 0 ≤ inp ∧ inp ≤ 6 ∧ ∀ (i : Nat) (hi : i < l.length), l[i].f1 < (l.length : Int) ∧ (¬ l[i].f0 = 5 → l[i].f2 < (l.length : Int)) := by
  unfold dia.valid at h
  by_cases hc : l.length ≤ 12 ∧ 0 ≤ inp ∧ inp ≤ 6
  · rw [if_pos hc] at h
    refine ⟨hc.1, hc.2.1, hc.2.2, fun i hi => ?_⟩
    have hb := List.all_eq_true.mp h _ (List.getElem_mem hi)
    generalize l[i] = b at hb
    unfold dia.ok dia.ex at hb
    refine ⟨?_, fun hk => ?_⟩
    · simp at hb
      omega
    · rw [if_neg hk] at hb
      simp at hb
      omega
  · rw [if_neg hc] at h
    cases h
set_option maxHeartbeats 2000000 in
theorem impl_EvaluationOrder.known (gd gl : Nat) (A Ad : Option Addr) (c cd : Nat) (l : List S52) (done : List Bool) (x : Int) (w : World) (hd : w.heap[gd]? = some (.cells #[.slice Ad l.length cd] 60 (0, 0))) (hl : w.heap[gl]? = some (.cells #[.slice A l.length c] 31 (0, 0))) (hD : Kd.C Kd.bool w Ad l.length done) (hL : Kd.C k52 w A l.length l) (hx : x < (l.length : Int)) :
    Calls Try.prog 46 #[.int .i64 x, .pointer (some ⟨gd, 0, none⟩), .pointer (some ⟨gl, 0, none⟩)] w fun e w' => e = .returned (.bool (eo.kn l done x)) ∧ w = w' := by
  have hu := Try.underlying52
  have c1 : w.cell? ⟨gd, 0, none⟩ = some (.slice Ad l.length cd) := (blk_cell hd 0).trans rfl
  have c2 : w.cell? ⟨gl, 0, none⟩ = some (.slice A l.length c) := (blk_cell hl 0).trans rfl
  unfold eo.kn
  by_cases h0 : x < 0
  · have h0b : decide (x < 0) = true := decide_eq_true h0
    rw [h0b]
    clear hd hl hD hL hx h0
    go_enter Try.func46, Try.ntmps46
    go_wp2
    go_ret
    exact ⟨rfl, rfl⟩
  · have h0b : decide (x < 0) = false := decide_eq_false h0
    rw [h0b, Bool.false_or]
    have hx0 : 0 ≤ x := by omega
    obtain ⟨ad, e1, hdv⟩ := Kd.at_bool hD x hx0 hx
    obtain ⟨ad2, e2, hk0, _, _⟩ := at_T52 hL x hx0 hx
    subst e1 e2
    generalize (rd_T52 l x).f0 = kk at hk0 ⊢
    generalize rdOf false done x = d at hdv ⊢
    clear hd hl hD hL h0
    cases d with
    | true =>
      go_enter Try.func46, Try.ntmps46
      go_wp2
      go_ret
      exact ⟨rfl, rfl⟩
    | false =>
      go_enter Try.func46, Try.ntmps46
      go_wp2
      go_ret
      exact ⟨by rw [Bool.false_or]; rfl, rfl⟩
set_option maxHeartbeats 16000000 in
set_option maxRecDepth 100000 in
theorem impl_EvaluationOrder.calls (A0 : Option Addr) (c0 : Nat) (l0 : List S52) (a1 : Int) (r1 : List Int) (r2 : Bool) (w : World) (hr0 : Kd.C k52 w A0 l0.length l0) (hc0 : l0.length ≤ c0) (h : impl_EvaluationOrder.f l0 a1 = some (r1, r2)) :
    Calls Try.prog 26 #[.slice A0 l0.length c0, .int .i64 a1] w fun e w' => ∃ v0_ : Value, e = .returned (.tuple #[v0_, .bool r2]) ∧ Kd.Q (Kd.int .i64) 3 w' w.heap.size (fun _ => True) v0_ r1 ∧ Below w.heap.size w w' := by
  have hu := Try.underlying52
  have H := Option.some.inj h
  have HR := Aside0.mk hr0
  have HC0 := Aside0.mk hc0
  clear h hr0 hc0
  by_cases hv : dia.valid l0 a1 = true
  · rw [if_pos hv] at H
    obtain ⟨h12, _, _, hall⟩ := dia.valid_all hv
    have HALL := Aside0.mk hall
    have H12 := Aside0.mk h12
    have hcall := fun w' hC => impl_diagramValid.calls A0 c0 l0 a1 true w' hC HC0.out (by show some (dia.valid l0 a1) = some true; rw [hv])
    have HCALL := Aside0.mk hcall
    have HGO := Aside0.mk H
    have hl0 : (0 : Int) ≤ (l0.length : Int) := by omega
    clear hall h12 hcall hv H
    go_enter Try.func26, Try.ntmps26
    go_wp2_with (first | ((with_reducible refine gate_dst (N := 2) rfl ?_); refine box_event ?hg (N := 2) ?hd (cs := #[.slice A0 l0.length c0]) (t := 31) ?hr ?_; (case hd => rfl); (case hg => rfl); (case hr => first | (go_simp; done) | (go_simp; rfl)); intro gl hg wb1 hbox hb; have KL := Aside0.mk hbox; have HB := Aside0.mk hb; clear hb hbox hg; have hm2 : wb1.cell? ⟨gl, 0, none⟩ = some (.slice A0 l0.length c0) := (blk_cell KL.out 0).trans rfl) | (go_at_call 45; refine (HCALL.out _ (Kd.C_below HR.out HB.out)).mono ?_; rintro e w2 ⟨rfl, hb⟩; have KL2 := Aside0.mk (blk_below KL.out hb); have HB2 := Aside0.mk (below_step HB.out hb); clear hb hm2; have hm2 : w2.cell? ⟨gl, 0, none⟩ = some (.slice A0 l0.length c0) := (blk_cell KL2.out 0).trans rfl) | ((with_reducible refine gate_dst (N := 18) rfl ?_); refine Kd.R_make Kd.bool _ 4 rfl (N := 18) rfl 60 _ _ rfl (l0.length : Int) rfl rfl Try.underlying60 (.bool false) 1 info4 rfl (by decide) (by omega) false (ok := fun _ => True) (okp := fun _ => True) rfl (fun _ hk => hk) trivial hl0 (by have := H12.out; omega) (Below.refl _ _) (Nat.le_refl _) ?_; intro v18 w3 ho5 hb hg_ hnew_; clear hg_ hnew_; rw [Int.toNat_natCast] at ho5; have HD3 := Aside0.mk (Kd.R_lower ho5 (below_size HB2.out)); have KL3 := Aside0.mk (blk_below KL2.out hb); have HB3 := Aside0.mk (below_step HB2.out hb); clear hb ho5 hm2; obtain ⟨Ad, cd, eo_⟩ := Kd.R_slice HD3.out; rw [List.length_replicate] at eo_; subst eo_; have hm2 : w3.cell? ⟨gl, 0, none⟩ = some (.slice A0 l0.length c0) := (blk_cell KL3.out 0).trans rfl) | ((with_reducible refine gate_dst (N := 6) rfl ?_); refine box_event ?hg6 (N := 6) ?hd6 (cs := #[.slice none 0 0]) (t := 60) ?hr6 ?_; (case hd6 => rfl); (case hg6 => rfl); (case hr6 => first | (go_simp; done) | (go_simp; rfl)); intro gd hg w4 hbox hb; have KD4 := Aside0.mk hbox; have KL4 := Aside0.mk (blk_below KL3.out hb); have HD4 := Aside0.mk (Kd.R_below HD3.out hb); have GD := Aside0.mk (show w.heap.size ≤ gd from by rw [hg]; exact below_size HB3.out); have HB4 := Aside0.mk (below_step HB3.out hb); clear hb hbox hg hm2; have hz6 : w4.cell? ⟨gd, 0, none⟩ = some (.slice none 0 0) := (blk_cell KD4.out 0).trans rfl; have hfz6 := blk_frozen KD4.out 0))
    clear hz6 hfz6 HCALL
    go_loopg [8] l0.length (fun gg v8 wr => ∃ (done : List Bool) (out : List Int), Aside0 (eo.go l0 gg done out = (r1, r2)) ∧ Aside0 (out.length + gg = l0.length) ∧ Aside0 (wr.heap[gd]? = some (.cells #[.slice Ad l0.length cd] 60 (0, 0))) ∧ Aside0 (wr.heap[gl]? = some (.cells #[.slice A0 l0.length c0] 31 (0, 0))) ∧ Aside0 (Kd.R Kd.bool 4 wr w.heap.size (fun _ => True) (.slice Ad l0.length cd) done) ∧ Aside0 (Kd.R (Kd.int .i64) 3 wr w.heap.size (fun _ => True) v8 out) ∧ Aside0 (Below w.heap.size w wr))
    case atStart => exact ⟨_, [], HGO, ⟨by simp⟩, ⟨blk_put KD4.out 0 _ rfl⟩, ⟨blk_far (p := ⟨gd, 0, none⟩) KL4.out (blk_ne KL4.out KD4.out (by decide)) _⟩, ⟨Kd.R_set HD4.out KD4.out (by decide) 0 _⟩, ⟨Kd.R_nil _ _ _ _ _⟩, ⟨below_set HB4.out GD.out⟩⟩
    case round =>
      clear HGO KL KL2 KL3 KL4 KD4 HD3 HD4 HB HB2 HB3 HB4
      obtain ⟨done, out, HA, HN, KD, KL, HD, HO, HB⟩ := hrel
      obtain ⟨A8, c8, e8⟩ := Kd.R_slice HO.out
      subst e8
      have hkd : wr.cell? ⟨gd, 0, none⟩ = some (.slice Ad l0.length cd) := (blk_cell KD.out 0).trans rfl
      have hkl : wr.cell? ⟨gl, 0, none⟩ = some (.slice A0 l0.length c0) := (blk_cell KL.out 0).trans rfl
      cases gk with
      | zero =>
        have hN := HN.out
        have hltz : ¬ ((out.length : Int) < (l0.length : Int)) := by omega
        have hrr : (out, true) = (r1, r2) := HA.out
        injection hrr with hra hrb
        subst hra hrb
        clear hN HA
        go_wp2_with (go_at_call 38; refine (impl_clone_int.calls A8 c8 out out wr (Kd.R_reads' HO.out).2.2 (Kd.R_reads' HO.out).2.1 (by have := HN.out; have := H12.out; unfold impl_clone_int.f slices_Clone_int_int.f slices_Clip_int_int.f; rw [if_pos (by omega)]; rfl)).mono ?_; rintro e w9 ⟨v9, rfl, hq, hb⟩; have HQ9 := Aside0.mk (Kd.Q_lower hq (below_size HB.out)); have HB9 := Aside0.mk (below_step HB.out hb); clear hq hb)
        go_ret2
        exact ⟨_, rfl, HQ9.out, HB9.out⟩
      | succ m =>
        have hN := HN.out
        have hltz : (out.length : Int) < (l0.length : Int) := by omega
        clear hN
        go_wp2
        go_loopg [9, 27] l0.length (fun gi v9 v27 wi => ∃ i : Nat, v9 = .int .i64 (-1) ∧ v27 = .int .i64 (i : Int) ∧ Aside0 (i + gi = l0.length) ∧ Aside0 (eo.at l0 done gi i = eo.at l0 done l0.length 0) ∧ Aside0 (Below wr.heap.size wr wi))
        case atStart => exact ⟨0, rfl, rfl, ⟨by omega⟩, ⟨rfl⟩, ⟨Below.refl _ _⟩⟩
        case round => 
          obtain ⟨i, rfl, rfl, HI, HAT, HBI⟩ := hrel
          cases gk with
          | zero =>
            have hi : i = l0.length := HI.out
            subst hi
            have hltz2 : ¬ ((l0.length : Int) < (l0.length : Int)) := by omega
            have hgo := HA.out
            rw [eo.go_none (show eo.at l0 done l0.length 0 = none from HAT.out.symm)] at hgo
            injection hgo with hra hrb
            subst hra hrb
            clear hkd hkl
            go_wp2
            go_ret2
            exact ⟨_, rfl, Kd.Q_nil _ _ _ _ _, below_step HB.out HBI.out⟩
          | succ k =>
            have hlt : i < l0.length := by have := HI.out; omega
            have hltz2 : (i : Int) < (l0.length : Int) := by omega
            have hi0 : decide ((i : Int) < 0) = false := by simp
            obtain ⟨ad, e1, hx0, hx1, hx2⟩ := at_T52 HR.out (i : Int) (by omega) (by omega)
            have hrd : rd_T52 l0 (i : Int) = l0[i] := by unfold rd_T52; rw [Int.toNat_natCast, List.getD_eq_getElem?_getD, List.getElem?_eq_getElem hlt]; rfl
            have hat := HAT.out
            rw [eo.at_succ, hrd] at hat
            have hall := HALL.out i hlt
            rw [hrd] at hx0 hx1 hx2
            simp only [Int.toNat_natCast] at hx0 hx1 hx2
            subst e1
            replace hx0 := ((below_step HB.out HBI.out).cell (World.block_lt_of_cell? w _ hx0)).trans hx0
            replace hx1 := ((below_step HB.out HBI.out).cell (World.block_lt_of_cell? w _ hx1)).trans hx1
            replace hx2 := ((below_step HB.out HBI.out).cell (World.block_lt_of_cell? w _ hx2)).trans hx2
            have HDi := Aside0.mk (Kd.R_below HD.out HBI.out)
            have HOi := Aside0.mk (Kd.R_below HO.out HBI.out)
            have KDi := Aside0.mk (blk_below KD.out HBI.out)
            have KLi := Aside0.mk (blk_below KL.out HBI.out)
            have HBi := Aside0.mk (below_step HB.out HBI.out)
            have hdl := (Kd.R_reads' HD.out).1
            obtain ⟨gr, cap', e6, hgb, hgl, _⟩ := Kd.R_form HDi.out (by omega)
            injection e6 with ea en ec
            subst ea ec
            clear en
            obtain ⟨hdn, _⟩ := Kd.R_celln false HDi.out (i : Int) (by omega) (by omega)
            have GR := Aside0.mk hgb
            have DL := Aside0.mk hdl
            clear hgb hgl hdl hkd hkl hrd
            generalize l0[i] = x at hx0 hx1 hx2 hat hall
            rw [show eo.rdy l0 done i x = (!(rdOf false done (i : Int)) && (x.f0 == 5 || (eo.kn l0 done x.f1 && eo.kn l0 done x.f2))) from rfl] at hat
            have hkA := fun (w' : World) (hb : Below wr.heap.size wr w') => impl_EvaluationOrder.known gd gl (some ad) (some ⟨gr, 0, none⟩) c0 cd l0 done x.f1 w' (blk_below KDi.out hb) (blk_below KLi.out hb) (by have h_ := Kd.R_reads' (Kd.R_below HDi.out hb); rw [h_.1]; exact h_.2.2) (Kd.C_below (Kd.C_below HR.out HBi.out) hb) hall.1
            have hkB := fun (hk5 : ¬ x.f0 = 5) (w' : World) (hb : Below wr.heap.size wr w') => impl_EvaluationOrder.known gd gl (some ad) (some ⟨gr, 0, none⟩) c0 cd l0 done x.f2 w' (blk_below KDi.out hb) (blk_below KLi.out hb) (by have h_ := Kd.R_reads' (Kd.R_below HDi.out hb); rw [h_.1]; exact h_.2.2) (Kd.C_below (Kd.C_below HR.out HBi.out) hb) (hall.2 hk5)
            simp only [Int.toNat_natCast] at hdn
            generalize eo.kn l0 done x.f1 = kA at hkA hat
            generalize eo.kn l0 done x.f2 = kB at hkB hat
            generalize hdd : rdOf false done (i : Int) = d at hdn hat
            clear hdd
            have HKA := Aside0.mk hkA
            have HKB := Aside0.mk hkB
            have HDN := Aside0.mk hdn
            clear hkA hkB hall hdn
            go_upto_region 11 with (first | ((with_reducible refine gate_dst (N := 11) rfl ?_); refine box_event ?hgx (N := 11) ?hdx (cs := #[.int .i64 0, .int .i64 0, .int .i64 0]) (t := 52) ?hrx ?_; (case hdx => rfl); (case hgx => rfl); (case hrx => first | (go_simp; done) | (go_simp; rfl)); intro gx hg w5 hbox hb; have BX := Aside0.mk hbox; have HBx := Aside0.mk hb; have GX := Aside0.mk (show wr.heap.size ≤ gx from by rw [hg]; exact Nat.le_refl _); clear hb hbox hg; have hcz0 : w5.cell? ⟨gx, 0, none⟩ = some (.int .i64 0) := (blk_cell BX.out 0).trans rfl; have hcz1 : w5.cell? ⟨gx, 1, none⟩ = some (.int .i64 0) := (blk_cell BX.out 1).trans rfl; have hcz2 : w5.cell? ⟨gx, 2, none⟩ = some (.int .i64 0) := (blk_cell BX.out 2).trans rfl; have hfz0 := blk_frozen BX.out 0; have hfz1 := blk_frozen BX.out 1; have hfz2 := blk_frozen BX.out 2))
            clear hcz0 hcz1 hcz2 hfz0 hfz1 hfz2 hx0 hx1 hx2
            have BX3 := Aside0.mk (blk_put (cs' := #[.int .i64 x.f0, .int .i64 x.f1, .int .i64 x.f2]) (blk_put (cs' := #[.int .i64 x.f0, .int .i64 x.f1, .int .i64 0]) (blk_put (cs' := #[.int .i64 x.f0, .int .i64 0, .int .i64 0]) BX.out 0 (.int .i64 x.f0) rfl) 1 (.int .i64 x.f1) rfl) 2 (.int .i64 x.f2) rfl)
            have HB3 := Aside0.mk (below_set (j := 2) (v := .int .i64 x.f2) (below_set (j := 1) (v := .int .i64 x.f1) (below_set (j := 0) (v := .int .i64 x.f0) HBx.out GX.out) GX.out) GX.out)
            clear BX HBx GX
            generalize ((w5.setCell ⟨gx, 0, none⟩ (.int .i64 x.f0)).setCell ⟨gx, 1, none⟩ (.int .i64 x.f1)).setCell ⟨gx, 2, none⟩ (.int .i64 x.f2) = W1 at BX3 HB3 ⊢
            have hy0 : W1.cell? ⟨gx, 0, none⟩ = some (.int .i64 x.f0) := (blk_cell BX3.out 0).trans rfl
            have hy1 : W1.cell? ⟨gx, 1, none⟩ = some (.int .i64 x.f1) := (blk_cell BX3.out 1).trans rfl
            have hy2 : W1.cell? ⟨gx, 2, none⟩ = some (.int .i64 x.f2) := (blk_cell BX3.out 2).trans rfl
            have hkd : W1.cell? ⟨gd, 0, none⟩ = some (.slice (some ⟨gr, 0, none⟩) l0.length cd) := (blk_cell (blk_below KDi.out HB3.out) 0).trans rfl
            have hdn : W1.cell? ⟨gr, i, none⟩ = some (.bool d) := (HB3.out.cell (World.block_lt_of_cell? wr _ HDN.out)).trans HDN.out
            clear BX3 HDN
            cases d with
            | true =>
              have HAT2 := Aside0.mk (show eo.at l0 done k (i + 1) = eo.at l0 done l0.length 0 from by simpa using hat)
              clear hat HAT
              go_wp2
              go_roundg k
              case measure => omega
              case rel => exact ⟨i + 1, rfl, (by first | rw [show wrap64 ((i : Int) + 1) = ((i + 1 : Nat) : Int) from by have := H12.out; have := HI.out; unfold wrap64; omega] | go_num), ⟨by have := HI.out; omega⟩, HAT2, ⟨below_step HBI.out HB3.out⟩⟩
            | false =>
              by_cases k5 : x.f0 = 5
              · have k5b : (x.f0 == 5) = true := by rw [k5]; rfl
                rw [k5b] at hat
                clear k5
                have hfound : some i = eo.at l0 done l0.length 0 := by simpa using hat
                have hgo := HA.out
                rw [eo.go_some hfound.symm] at hgo
                have HGO := Aside0.mk hgo
                clear hat HAT hfound hgo HA
                have HD1 := Aside0.mk (Kd.R_below HDi.out HB3.out)
                have HO1 := Aside0.mk (Kd.R_below HOi.out HB3.out)
                have KD1 := Aside0.mk (blk_below KDi.out HB3.out)
                have KL1 := Aside0.mk (blk_below KLi.out HB3.out)
                have HB1 := Aside0.mk (below_step HBi.out HB3.out)
                have hput := Kd.R_putg HD1.out (i : Int) true
                simp only [Int.toNat_natCast] at hput
                have hfr : W1.frozen? ⟨gr, i, none⟩ = false := by have := (Kd.R_celln false HD1.out (i : Int) (by omega) (by omega)).2; rwa [Int.toNat_natCast] at this
                have HO2 := Aside0.mk (Kd.R_over HO1.out HD1.out (by decide) hput.2)
                have HD2 := Aside0.mk hput.1
                have KD2 := Aside0.mk (blk_grown KD1.out hput.2 (Kd.R_ne HD1.out KD1.out (by decide)))
                have KL2 := Aside0.mk (blk_grown KL1.out hput.2 (Kd.R_ne HD1.out KL1.out (by decide)))
                have HB2 := Aside0.mk (below_set (j := i) (v := .bool true) HB1.out GR.out)
                clear hput HD1 HO1 KD1 KL1 HB1
                go_wp2_with (first | ((with_reducible refine gate_builtin (b := .append) (xs := #[.tmp 61, .tmp 63]) rfl ?_); at_builtin; refine Kd.R_append (Kd.int .i64) (w0 := w) w.heap.size rfl (.tmp 61) (.tmp 63) 22 3 (.int .i64 0) 8 rfl Try.underlying22 info3 rfl (by decide) (by omega) _ out (i : Int) [.int .i64 (i : Int)] (fun _ => True) (fun _ => False) rfl ?aX ?aP (fun _ hk => hk.elim) ?aF ?aO ?aB ?aS ?aL ?_; (case aX => first | rfl | (go_simp; done) | (go_simp; rfl)); (case aP => exact rfl); (case aB => exact HB2.out); (case aF => exact (fun _ _ => trivial)); (case aO => exact HO2.out); (case aS => exact (below_size HB2.out)); (case aL => have := HN.out; have := H12.out; omega); intro v153 w25 ho hb hg hat; have HB4 := Aside0.mk hb; have HO4 := Aside0.mk ho; have KD4 := Aside0.mk (blk_grown KD2.out hg (Kd.R_ne HO2.out KD2.out (by decide))); have KL4 := Aside0.mk (blk_grown KL2.out hg (Kd.R_ne HO2.out KL2.out (by decide))); have HD4 := Aside0.mk (Kd.R_over HD2.out HO2.out (by decide) hg); clear ho hb hg hat))
                go_roundg m
                case measure => omega
                case rel => exact ⟨_, _, HGO, ⟨by have := HN.out; rw [List.length_append]; simp; omega⟩, KD4, KL4, HD4, HO4, HB4⟩
              · have k5b : (x.f0 == 5) = false := beq_eq_false_iff_ne.mpr k5
                rw [k5b] at hat
                cases kA with
                | false =>
                  clear k5
                  have HAT2 := Aside0.mk (show eo.at l0 done k (i + 1) = eo.at l0 done l0.length 0 from by simpa using hat)
                  clear hat HAT
                  go_wp2_with (first | (go_at_call 46; (with_reducible refine (HKA.out _ HB3.out).mono ?_); rintro e w' ⟨rfl, rfl⟩))
                  go_roundg k
                  case measure => omega
                  case rel => exact ⟨i + 1, rfl, (by first | rw [show wrap64 ((i : Int) + 1) = ((i + 1 : Nat) : Int) from by have := H12.out; have := HI.out; unfold wrap64; omega] | go_num), ⟨by have := HI.out; omega⟩, HAT2, ⟨below_step HBI.out HB3.out⟩⟩
                | true =>
                  have HKB2 := Aside0.mk (HKB.out k5)
                  clear k5 HKB
                  cases kB with
                  | false =>
                    have HAT2 := Aside0.mk (show eo.at l0 done k (i + 1) = eo.at l0 done l0.length 0 from by simpa using hat)
                    clear hat HAT
                    go_wp2_with (first | (go_at_call 46; (with_reducible refine (HKA.out _ HB3.out).mono ?_); rintro e w' ⟨rfl, rfl⟩) | (go_at_call 46; (with_reducible refine (HKB2.out _ HB3.out).mono ?_); rintro e w' ⟨rfl, rfl⟩))
                    go_roundg k
                    case measure => omega
                    case rel => exact ⟨i + 1, rfl, (by first | rw [show wrap64 ((i : Int) + 1) = ((i + 1 : Nat) : Int) from by have := H12.out; have := HI.out; unfold wrap64; omega] | go_num), ⟨by have := HI.out; omega⟩, HAT2, ⟨below_step HBI.out HB3.out⟩⟩
                  | true =>
                    have hfound : some i = eo.at l0 done l0.length 0 := by simpa using hat
                    have hgo := HA.out
                    rw [eo.go_some hfound.symm] at hgo
                    have HGO := Aside0.mk hgo
                    clear hat HAT hfound hgo HA
                    have HD1 := Aside0.mk (Kd.R_below HDi.out HB3.out)
                    have HO1 := Aside0.mk (Kd.R_below HOi.out HB3.out)
                    have KD1 := Aside0.mk (blk_below KDi.out HB3.out)
                    have KL1 := Aside0.mk (blk_below KLi.out HB3.out)
                    have HB1 := Aside0.mk (below_step HBi.out HB3.out)
                    have hput := Kd.R_putg HD1.out (i : Int) true
                    simp only [Int.toNat_natCast] at hput
                    have hfr : W1.frozen? ⟨gr, i, none⟩ = false := by have := (Kd.R_celln false HD1.out (i : Int) (by omega) (by omega)).2; rwa [Int.toNat_natCast] at this
                    have HO2 := Aside0.mk (Kd.R_over HO1.out HD1.out (by decide) hput.2)
                    have HD2 := Aside0.mk hput.1
                    have KD2 := Aside0.mk (blk_grown KD1.out hput.2 (Kd.R_ne HD1.out KD1.out (by decide)))
                    have KL2 := Aside0.mk (blk_grown KL1.out hput.2 (Kd.R_ne HD1.out KL1.out (by decide)))
                    have HB2 := Aside0.mk (below_set (j := i) (v := .bool true) HB1.out GR.out)
                    clear hput HD1 HO1 KD1 KL1 HB1
                    go_wp2_with (first | (go_at_call 46; (with_reducible refine (HKA.out _ HB3.out).mono ?_); rintro e w' ⟨rfl, rfl⟩) | (go_at_call 46; (with_reducible refine (HKB2.out _ HB3.out).mono ?_); rintro e w' ⟨rfl, rfl⟩) | ((with_reducible refine gate_builtin (b := .append) (xs := #[.tmp 61, .tmp 63]) rfl ?_); at_builtin; refine Kd.R_append (Kd.int .i64) (w0 := w) w.heap.size rfl (.tmp 61) (.tmp 63) 22 3 (.int .i64 0) 8 rfl Try.underlying22 info3 rfl (by decide) (by omega) _ out (i : Int) [.int .i64 (i : Int)] (fun _ => True) (fun _ => False) rfl ?aX ?aP (fun _ hk => hk.elim) ?aF ?aO ?aB ?aS ?aL ?_; (case aX => first | rfl | (go_simp; done) | (go_simp; rfl)); (case aP => exact rfl); (case aB => exact HB2.out); (case aF => exact (fun _ _ => trivial)); (case aO => exact HO2.out); (case aS => exact (below_size HB2.out)); (case aL => have := HN.out; have := H12.out; omega); intro v153 w25 ho hb hg hat; have HB4 := Aside0.mk hb; have HO4 := Aside0.mk ho; have KD4 := Aside0.mk (blk_grown KD2.out hg (Kd.R_ne HO2.out KD2.out (by decide))); have KL4 := Aside0.mk (blk_grown KL2.out hg (Kd.R_ne HO2.out KL2.out (by decide))); have HD4 := Aside0.mk (Kd.R_over HD2.out HO2.out (by decide) hg); clear ho hb hg hat))
                    go_roundg m
                    case measure => omega
                    case rel => exact ⟨_, _, HGO, ⟨by have := HN.out; rw [List.length_append]; simp; omega⟩, KD4, KL4, HD4, HO4, HB4⟩
  · rw [if_neg hv] at H
    injection H with hra hrb
    subst hra hrb
    have hv' : dia.valid l0 a1 = false := by simpa using hv
    have hcall := fun w' hC => impl_diagramValid.calls A0 c0 l0 a1 false w' hC HC0.out (by show some (dia.valid l0 a1) = some false; rw [hv'])
    have HCALL := Aside0.mk hcall
    clear hcall hv hv'
    go_enter Try.func26, Try.ntmps26
    go_wp2_with (first | ((with_reducible refine gate_dst (N := 2) rfl ?_); refine box_event ?hg (N := 2) ?hd (cs := #[.slice A0 l0.length c0]) (t := 31) ?hr ?_; (case hd => rfl); (case hg => rfl); (case hr => first | (go_simp; done) | (go_simp; rfl)); intro gl hg wb1 hbox hb; have KL := Aside0.mk hbox; have HB := Aside0.mk hb; clear hb hbox hg; have hm2 : wb1.cell? ⟨gl, 0, none⟩ = some (.slice A0 l0.length c0) := (blk_cell KL.out 0).trans rfl) | (go_at_call 45; refine (HCALL.out _ (Kd.C_below HR.out HB.out)).mono ?_; rintro e w2 ⟨rfl, hb⟩; have HB2 := Aside0.mk (below_step HB.out hb); clear hb hm2))
    go_ret2
    exact ⟨_, rfl, Kd.Q_nil _ _ _ _ _, HB2.out⟩


-- NOT PRINTED: function 54 (slices_IndexFunc_int_int)

-- NOT PRINTED: function 47 (slices_ContainsFunc_int_int)

/-! ### impl_isWord: function 49 -/
def impl_isWord.f (a0 : Int) : Option (Bool) := (impl_in.f a0 (-32768) 32767).bind fun t280 => (some t280)
set_option maxHeartbeats 8000000 in
set_option maxRecDepth 100000 in
theorem impl_isWord.calls (a0 : Int) (r : Bool) (w : World) (h : impl_isWord.f a0 = some r) :
    Calls Try.prog 49 #[.int .i64 a0] w fun e w' => e = .returned (.bool r) ∧ Drawn0 w w' := by
  have H : ((impl_in.f a0 (-32768) 32767).bind fun t280 => (some t280)) = some r := h
  clear h
  replace H := Option.bind_eq_some_iff.mp H
  obtain ⟨t280, A20, H⟩ := H
  replace H : (some t280) = some r := H
  have A2 := Aside0.mk A20
  clear A20
  obtain rfl := Option.some.inj H
  go_enter Try.func49, Try.ntmps49
  go_wp2_with (first | ((with_reducible refine gate_callee (f := 41) rfl ?_); refine goesL_ (some 4) rfl rfl Try.func41 (by kernel_rfl) rfl #[.int .i64 a0, .int .i64 (-32768), .int .i64 32767] rfl (by (try simp only [List.map_toArray, List.map_cons, List.map_nil]); first | done | rfl | (simp only [List.length_drop, List.length_take]; rfl)) ?_; (with_reducible refine (impl_in.calls a0 (-32768) 32767 t280 _ A2.out).mono ?_); rintro e w' ⟨rfl, ⟨nd, rfl⟩⟩; refine ⟨_, rfl, ?_⟩))
  go_ret
  exact ⟨by first | rfl | (simp; done) | (simp [*]; done), by repeat (first | exact Drawn0.refl _ | apply Drawn0.step)⟩

-- NOT PRINTED: function 48 (impl_areWords_1)

end Go.Proofs.Ytpefkclpnkefnaa.GFnExactRunDiagram

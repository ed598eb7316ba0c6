/- Functions of the program as Lean functions, with proofs that the machine comes to their answers; written by this session's program mkprint.py; no condition beyond each theorem's own. -/
import Derived.Test.YtflemeaaiokjmaaGFnExactStatementTokensx0
import Derived.Test.YtflemeaaiokjmaaGFnExactStatementTokensx1
namespace Go.Proofs.Ytflemeaaiokjmaa.GFnExactStatementTokens
open Go.RowKit Go.Proofs.YtflemeaaiokjmaaV.PrintWords Go.Proofs.YtflemeaaiokjmaaV.PrintLast Go.Proofs.YtflemeaaiokjmaaV.PrintMore
attribute [local go_sem] max2_int min2_int max_two min_two max_three min_three max_four min_four   -- for this text's walks alone
set_option linter.unusedVariables false
set_option linter.unusedSimpArgs false

/-! ### spec_StatementTokens: function 52 -/
mutual
def spec_StatementTokens.l0 : Nat → ByteArray → List ByteArray → Int → Option (List ByteArray × Bool)
  | 0, _, _, _ => none
  | k + 1, x0, x4, x5 => if x5 < (x0.size : Int) then (if 0 ≤ x5 then (if (bt x0 x5) = 32 then (spec_StatementTokens.l0 k x0 x4 (wrap64 (x5 + 1))) else (if (bt x0 x5) = 58 then (if (wrap64 (x5 + 1)) < (x0.size : Int) then (if 0 ≤ (wrap64 (x5 + 1)) then (spec_StatementTokens.j1 k x0 x4 x5 1 (bt x0 x5) ((bt x0 (wrap64 (x5 + 1))) == 61)) else (none)) else (spec_StatementTokens.j1 k x0 x4 x5 1 (bt x0 x5) false)) else (spec_StatementTokens.j1 k x0 x4 x5 1 (bt x0 x5) false))) else (none)) else (some (x4, true))
def spec_StatementTokens.j1 : Nat → ByteArray → List ByteArray → Int → Int → Int → Bool → Option (List ByteArray × Bool)
  | 0, _, _, _, _, _, _ => none
  | k + 1, x0, x4, x5, x6, x7, x25 => if x25 = true then (spec_StatementTokens.j2 k x0 x4 x5 x6 x7 x25) else (if x7 = 119 then (if (wrap64 (x5 + 1)) < (x0.size : Int) then (if 0 ≤ (wrap64 (x5 + 1)) then (if (bt x0 (wrap64 (x5 + 1))) ≥ 48 then (spec_StatementTokens.j2 k x0 x4 x5 x6 x7 (decide ((bt x0 (wrap64 (x5 + 1))) ≤ 55))) else (spec_StatementTokens.j2 k x0 x4 x5 x6 x7 false)) else (none)) else (spec_StatementTokens.j2 k x0 x4 x5 x6 x7 false)) else (spec_StatementTokens.j2 k x0 x4 x5 x6 x7 false))
def spec_StatementTokens.j2 : Nat → ByteArray → List ByteArray → Int → Int → Int → Bool → Option (List ByteArray × Bool)
  | 0, _, _, _, _, _, _ => none
  | k + 1, x0, x4, x5, x6, x7, x25 => if x25 = true then (if 0 ≤ x5 then (if x5 ≤ (wrap64 (x5 + 2)) then (if (wrap64 (x5 + 2)) ≤ (x0.size : Int) then (if x4.length < 8796093022208 then (spec_StatementTokens.l0 k x0 (x4 ++ [x0.extract (x5 : Int).toNat ((wrap64 (x5 + 2)) : Int).toNat]) (wrap64 (x5 + 2))) else (none)) else (none)) else (none)) else (none)) else ((spec_l10Digit.f x7).bind fun t107 => (if t107 = true then (spec_StatementTokens.l1 k x0 x4 x5 x6) else (if x7 = 43 then (if 0 ≤ x5 then (if x5 ≤ (wrap64 (x5 + x6)) then (if (wrap64 (x5 + x6)) ≤ (x0.size : Int) then (if x4.length < 8796093022208 then (spec_StatementTokens.l0 k x0 (x4 ++ [x0.extract (x5 : Int).toNat ((wrap64 (x5 + x6)) : Int).toNat]) (wrap64 (x5 + x6))) else (none)) else (none)) else (none)) else (none)) else (if x7 = 45 then (if 0 ≤ x5 then (if x5 ≤ (wrap64 (x5 + x6)) then (if (wrap64 (x5 + x6)) ≤ (x0.size : Int) then (if x4.length < 8796093022208 then (spec_StatementTokens.l0 k x0 (x4 ++ [x0.extract (x5 : Int).toNat ((wrap64 (x5 + x6)) : Int).toNat]) (wrap64 (x5 + x6))) else (none)) else (none)) else (none)) else (none)) else (if x7 = 42 then (if 0 ≤ x5 then (if x5 ≤ (wrap64 (x5 + x6)) then (if (wrap64 (x5 + x6)) ≤ (x0.size : Int) then (if x4.length < 8796093022208 then (spec_StatementTokens.l0 k x0 (x4 ++ [x0.extract (x5 : Int).toNat ((wrap64 (x5 + x6)) : Int).toNat]) (wrap64 (x5 + x6))) else (none)) else (none)) else (none)) else (none)) else (if x7 = 40 then (if 0 ≤ x5 then (if x5 ≤ (wrap64 (x5 + x6)) then (if (wrap64 (x5 + x6)) ≤ (x0.size : Int) then (if x4.length < 8796093022208 then (spec_StatementTokens.l0 k x0 (x4 ++ [x0.extract (x5 : Int).toNat ((wrap64 (x5 + x6)) : Int).toNat]) (wrap64 (x5 + x6))) else (none)) else (none)) else (none)) else (none)) else (if x7 = 41 then (if 0 ≤ x5 then (if x5 ≤ (wrap64 (x5 + x6)) then (if (wrap64 (x5 + x6)) ≤ (x0.size : Int) then (if x4.length < 8796093022208 then (spec_StatementTokens.l0 k x0 (x4 ++ [x0.extract (x5 : Int).toNat ((wrap64 (x5 + x6)) : Int).toNat]) (wrap64 (x5 + x6))) else (none)) else (none)) else (none)) else (none)) else (some ((([] : List ByteArray)), false)))))))))
def spec_StatementTokens.l1 : Nat → ByteArray → List ByteArray → Int → Int → Option (List ByteArray × Bool)
  | 0, _, _, _, _ => none
  | k + 1, x0, x4, x5, x6 => if (wrap64 (x5 + x6)) < (x0.size : Int) then (if 0 ≤ (wrap64 (x5 + x6)) then ((spec_l10Digit.f (bt x0 (wrap64 (x5 + x6)))).bind fun t108 => (if t108 = true then (spec_StatementTokens.l1 k x0 x4 x5 (wrap64 (x6 + 1))) else (if x6 > 5 then (some ((([] : List ByteArray)), false)) else (if 0 ≤ x5 then (if x5 ≤ (wrap64 (x5 + x6)) then (if (wrap64 (x5 + x6)) ≤ (x0.size : Int) then (if x4.length < 8796093022208 then (spec_StatementTokens.l0 k x0 (x4 ++ [x0.extract (x5 : Int).toNat ((wrap64 (x5 + x6)) : Int).toNat]) (wrap64 (x5 + x6))) else (none)) else (none)) else (none)) else (none))))) else (none)) else (if x6 > 5 then (some ((([] : List ByteArray)), false)) else (if 0 ≤ x5 then (if x5 ≤ (wrap64 (x5 + x6)) then (if (wrap64 (x5 + x6)) ≤ (x0.size : Int) then (if x4.length < 8796093022208 then (spec_StatementTokens.l0 k x0 (x4 ++ [x0.extract (x5 : Int).toNat ((wrap64 (x5 + x6)) : Int).toNat]) (wrap64 (x5 + x6))) else (none)) else (none)) else (none)) else (none)))
end
def spec_StatementTokens.f (k : Nat) (a0 : ByteArray) : Option (List ByteArray × Bool) := (some (([] : List ByteArray) : List ByteArray)).bind fun y101 => (if (a0.size : Int) > 80 then (some (y101, false)) else (spec_StatementTokens.l0 k a0 y101 0))
theorem spec_StatementTokens.mono_l : ∀ k, (∀ y0 y1 y2, LeO (spec_StatementTokens.l0 k y0 y1 y2) (spec_StatementTokens.l0 (k + 1) y0 y1 y2)) ∧ (∀ y0 y1 y2 y3 y4 y5, LeO (spec_StatementTokens.j1 k y0 y1 y2 y3 y4 y5) (spec_StatementTokens.j1 (k + 1) y0 y1 y2 y3 y4 y5)) ∧ (∀ y0 y1 y2 y3 y4 y5, LeO (spec_StatementTokens.j2 k y0 y1 y2 y3 y4 y5) (spec_StatementTokens.j2 (k + 1) y0 y1 y2 y3 y4 y5)) ∧ (∀ y0 y1 y2 y3, LeO (spec_StatementTokens.l1 k y0 y1 y2 y3) (spec_StatementTokens.l1 (k + 1) y0 y1 y2 y3))
  | 0 => ⟨fun _ _ _ r h => by simp [spec_StatementTokens.l0] at h, fun _ _ _ _ _ _ r h => by simp [spec_StatementTokens.j1] at h, fun _ _ _ _ _ _ r h => by simp [spec_StatementTokens.j2] at h, fun _ _ _ _ r h => by simp [spec_StatementTokens.l1] at h⟩
  | k + 1 => by
    obtain ⟨ih0, ih1, ih2, ih3⟩ := spec_StatementTokens.mono_l k
    refine ⟨?_, ?_, ?_, ?_⟩
    · intro y0 y1 y2
      unfold spec_StatementTokens.l0
      repeat' first
      | (with_reducible exact ih0 _ _ _)
      | (with_reducible exact ih1 _ _ _ _ _ _)
      | (with_reducible exact ih2 _ _ _ _ _ _)
      | (with_reducible exact ih3 _ _ _ _)
      | (with_reducible exact LeO.refl _)
      | (with_reducible exact LeO.none _)
      | (with_reducible refine LeO.ite ?_ ?_)
      | (with_reducible refine LeO.bind ?_ (fun _ => ?_))
      | exact ih0 _ _ _
      | exact ih1 _ _ _ _ _ _
      | exact ih2 _ _ _ _ _ _
      | exact ih3 _ _ _ _
      | exact LeO.none _
      | refine LeO.ite ?_ ?_
      | refine LeO.bind ?_ (fun _ => ?_)
    · intro y0 y1 y2 y3 y4 y5
      unfold spec_StatementTokens.j1
      repeat' first
      | (with_reducible exact ih0 _ _ _)
      | (with_reducible exact ih1 _ _ _ _ _ _)
      | (with_reducible exact ih2 _ _ _ _ _ _)
      | (with_reducible exact ih3 _ _ _ _)
      | (with_reducible exact LeO.refl _)
      | (with_reducible exact LeO.none _)
      | (with_reducible refine LeO.ite ?_ ?_)
      | (with_reducible refine LeO.bind ?_ (fun _ => ?_))
      | exact ih0 _ _ _
      | exact ih1 _ _ _ _ _ _
      | exact ih2 _ _ _ _ _ _
      | exact ih3 _ _ _ _
      | exact LeO.none _
      | refine LeO.ite ?_ ?_
      | refine LeO.bind ?_ (fun _ => ?_)
    · intro y0 y1 y2 y3 y4 y5
      unfold spec_StatementTokens.j2
      repeat' first
      | (with_reducible exact ih0 _ _ _)
      | (with_reducible exact ih1 _ _ _ _ _ _)
      | (with_reducible exact ih2 _ _ _ _ _ _)
      | (with_reducible exact ih3 _ _ _ _)
      | (with_reducible exact LeO.refl _)
      | (with_reducible exact LeO.none _)
      | (with_reducible refine LeO.ite ?_ ?_)
      | (with_reducible refine LeO.bind ?_ (fun _ => ?_))
      | exact ih0 _ _ _
      | exact ih1 _ _ _ _ _ _
      | exact ih2 _ _ _ _ _ _
      | exact ih3 _ _ _ _
      | exact LeO.none _
      | refine LeO.ite ?_ ?_
      | refine LeO.bind ?_ (fun _ => ?_)
    · intro y0 y1 y2 y3
      unfold spec_StatementTokens.l1
      repeat' first
      | (with_reducible exact ih0 _ _ _)
      | (with_reducible exact ih1 _ _ _ _ _ _)
      | (with_reducible exact ih2 _ _ _ _ _ _)
      | (with_reducible exact ih3 _ _ _ _)
      | (with_reducible exact LeO.refl _)
      | (with_reducible exact LeO.none _)
      | (with_reducible refine LeO.ite ?_ ?_)
      | (with_reducible refine LeO.bind ?_ (fun _ => ?_))
      | exact ih0 _ _ _
      | exact ih1 _ _ _ _ _ _
      | exact ih2 _ _ _ _ _ _
      | exact ih3 _ _ _ _
      | exact LeO.none _
      | refine LeO.ite ?_ ?_
      | refine LeO.bind ?_ (fun _ => ?_)
theorem spec_StatementTokens.mono : ∀ a0 k, LeO (spec_StatementTokens.f k a0) (spec_StatementTokens.f (k + 1) a0) := by
  intro a0 k
  obtain ⟨ih0, ih1, ih2, ih3⟩ := spec_StatementTokens.mono_l k
  unfold spec_StatementTokens.f
  repeat' first
      | (with_reducible exact ih0 _ _ _)
      | (with_reducible exact ih1 _ _ _ _ _ _)
      | (with_reducible exact ih2 _ _ _ _ _ _)
      | (with_reducible exact ih3 _ _ _ _)
      | (with_reducible exact LeO.refl _)
      | (with_reducible exact LeO.none _)
      | (with_reducible refine LeO.ite ?_ ?_)
      | (with_reducible refine LeO.bind ?_ (fun _ => ?_))
      | exact ih0 _ _ _
      | exact ih1 _ _ _ _ _ _
      | exact ih2 _ _ _ _ _ _
      | exact ih3 _ _ _ _
      | exact LeO.none _
      | refine LeO.ite ?_ ?_
      | refine LeO.bind ?_ (fun _ => ?_)
set_option maxHeartbeats 8000000 in
set_option maxRecDepth 100000 in
theorem spec_StatementTokens.calls (k : Nat) (a0 : ByteArray) (r1 : List ByteArray) (r2 : Bool) (w : World) (h : spec_StatementTokens.f k a0 = some (r1, r2)) :
    Calls Try.prog 52 #[.string a0] w fun e w' => ∃ v0_ : Value, e = .returned (.tuple #[v0_, .bool r2]) ∧ Kd.R Kd.string 9 w' w.heap.size (fun _ => True) v0_ r1 ∧ Below w.heap.size w w' := by
  have HB := Aside0.mk (Below.refl w.heap.size w)
  have H : ((some (([] : List ByteArray) : List ByteArray)).bind fun y101 => (if (a0.size : Int) > 80 then (some (y101, false)) else (spec_StatementTokens.l0 k a0 y101 0))) = some (r1, r2) := h
  clear h
  obtain ⟨y101, hy101⟩ : ∃ y_ : List ByteArray, y_ = (([] : List ByteArray)) := ⟨_, rfl⟩
  replace H : (if (a0.size : Int) > 80 then (some (y101, false)) else (spec_StatementTokens.l0 k a0 y101 0)) = some (r1, r2) := by first | (rw [hy101]; with_reducible exact H) | (have H2_ := (Option.bind_some _ _).symm.trans H; rw [hy101]; with_reducible exact H2_) | (have H2_ := (Option.bind_some _ _).symm.trans H; with_reducible exact H2_) | with_reducible exact H | (rw [hy101]; exact H) | exact H
  have Ny101 := Aside0.mk hy101
  clear hy101
  by_cases c2 : (a0.size : Int) > 80
  · rw [if_pos c2] at H
    have c2b0 : decide (80 < (a0.size : Int)) = true := decide_eq_true c2
    have c2b1 : decide (80 < a0.size) = true := decide_eq_true (by omega)
    clear c2
    simp only [Option.some.injEq, Prod.mk.injEq] at H
    obtain ⟨rfl, rfl⟩ := H
    go_enter Try.func52, Try.ntmps52
    go_wp2_with (first | ((with_reducible refine gate_dst (N := 8) rfl ?_); (try (refine gate_guard (by rfl) ?_; dsimp only)); refine Kd.R_lit Kd.string _ 9 ?hg (N := 8) ?hd (xs := ([] : List ByteArray)) (inner := []) (ok := fun _ => True) (okp := fun _ => True) ?hr ?hp (fun _ hk => hk) trivial (Below.refl _ _) (Nat.le_refl _) (by simp) ?_; (case hd => rfl); (case hg => rfl); (case hr => first | (go_simp; done) | (go_simp; rfl)); (case hp => exact (Reps.none _ _)); intro v102 w3 ho4 hb hg_ hnew_; clear hg_ hnew_; (first | rw [← Ny101.out] at ho4 | (simp only [Int.reduceToNat] at ho4; rw [← Ny101.out] at ho4)); have n0_ := Aside0.mk (Kd.R_lower ho4 (below_size (by repeat (first | (with_reducible first | exact HB.out | apply below_alloc | apply pw_below_drewN | apply below_drew1) | exact HB.out)))); have n1_ := Aside0.mk (below_step (by repeat (first | (with_reducible first | exact HB.out | apply below_alloc | apply pw_below_drewN | apply below_drew1) | exact HB.out)) hb); clear HB; have HO103 := n0_; have HB := n1_; clear n0_ n1_; clear hb ho4))
    go_ret2
    exact ⟨_, by first | rfl | (simp [errW_none, errW_some] <;> rfl) | (simp [*, errW_none, errW_some] <;> rfl), by (with_reducible repeat (first | apply Kd.R_alloc | apply Kd.R_drewN | apply Kd.R_drew)); exact HO103.out, by repeat (first | (with_reducible first | exact HB.out | apply below_alloc | apply pw_below_drewN | apply below_drew1) | exact HB.out)⟩
  · rw [if_neg c2] at H
    have c2b0 : decide (80 < (a0.size : Int)) = false := decide_eq_false c2
    have c2b1 : decide (80 < a0.size) = false := decide_eq_false (by omega)
    clear c2
    have H' := Aside0.mk H
    clear H
    go_enter Try.func52, Try.ntmps52
    go_wp2_with (first | ((with_reducible refine gate_dst (N := 8) rfl ?_); (try (refine gate_guard (by rfl) ?_; dsimp only)); refine Kd.R_lit Kd.string _ 9 ?hg (N := 8) ?hd (xs := ([] : List ByteArray)) (inner := []) (ok := fun _ => True) (okp := fun _ => True) ?hr ?hp (fun _ hk => hk) trivial (Below.refl _ _) (Nat.le_refl _) (by simp) ?_; (case hd => rfl); (case hg => rfl); (case hr => first | (go_simp; done) | (go_simp; rfl)); (case hp => exact (Reps.none _ _)); intro v102 w5 ho6 hb hg_ hnew_; clear hg_ hnew_; (first | rw [← Ny101.out] at ho6 | (simp only [Int.reduceToNat] at ho6; rw [← Ny101.out] at ho6)); have n0_ := Aside0.mk (Kd.R_lower ho6 (below_size (by repeat (first | (with_reducible first | exact HB.out | apply below_alloc | apply pw_below_drewN | apply below_drew1) | exact HB.out)))); have n1_ := Aside0.mk (below_step (by repeat (first | (with_reducible first | exact HB.out | apply below_alloc | apply pw_below_drewN | apply below_drew1) | exact HB.out)) hb); clear HB; have HO103 := n0_; have HB := n1_; clear n0_ n1_; clear hb ho6))
    go_loopg [4, 5] k (fun kq v4 v5 w' => ∃ (x4_1 : List ByteArray) (x5_1 : Int), v5 = .int .i64 x5_1 ∧ Aside0 (spec_StatementTokens.l0 kq a0 x4_1 x5_1 = some (r1, r2)) ∧ Aside0 (kq ≤ k) ∧ Aside0 (Kd.R Kd.string 9 w' w.heap.size (fun _ => True) v4 x4_1) ∧ Aside0 (Below w.heap.size w w'))
    case atStart => exact ⟨(y101), (0), (by first | rfl | (simp; done) | (simp [*]; done)), H', ⟨Nat.le_refl _⟩, ⟨by (with_reducible repeat (first | apply Kd.R_alloc | apply Kd.R_drewN | apply Kd.R_drew)); exact HO103.out⟩, ⟨by repeat (first | (with_reducible first | exact HB.out | apply below_alloc | apply pw_below_drewN | apply below_drew1) | exact HB.out)⟩⟩
    case round =>
      clear H'
      try clear c2
      try clear c2b0
      try clear c2b1
      try clear p2
      try clear c5
      obtain ⟨x4_1, x5_1, rfl, HA, HK1, HO_4, HB⟩ := hrel
      cases gk with
      | zero => exact absurd HA.out (by simp [spec_StatementTokens.l0])
      | succ k1 =>
        have H := HA.out
        clear HA
        simp only [spec_StatementTokens.l0] at H
        by_cases c7 : x5_1 < (a0.size : Int)
        · rw [if_pos c7] at H
          have c7b0 : decide (x5_1 < (a0.size : Int)) = true := decide_eq_true c7
          clear c7
          by_cases c8 : 0 ≤ x5_1
          · rw [if_pos c8] at H
            have c8b0 : decide (0 ≤ x5_1) = true := decide_eq_true c8
            clear c8
            by_cases c10 : (bt a0 x5_1) = 32
            · rw [if_pos c10] at H
              have c10b0 : ((bt a0 x5_1) == 32) = true := beq_iff_eq.mpr c10
              have c10b1 : ((bt a0 x5_1) != 32) = false := bne_eq_false_iff_eq.mpr c10
              clear c10
              have H' := Aside0.mk H
              clear H
              have p9 : 0 ≤ (x5_1 : Int) := of_decide_eq_true (by first | (with_reducible assumption) | assumption)
              have q9 : x5_1 < (a0.size : Int) := of_decide_eq_true (by first | (with_reducible assumption) | assumption)
              have hx9 := bt_at a0 x5_1
              replace p9 := eq_true p9
              replace q9 := eq_true q9
              go_wp2
              go_roundg k1
              case measure => have := HK1.out; omega
              case rel => exact ⟨(x4_1), (wrap64 (x5_1 + 1)), (by first | rfl | (simp; done) | (simp [*]; done)), H', ⟨by have := HK1.out; omega⟩, ⟨by (with_reducible repeat (first | apply Kd.R_alloc | apply Kd.R_drewN | apply Kd.R_drew)); exact HO_4.out⟩, ⟨by repeat (first | (with_reducible first | exact HB.out | apply below_alloc | apply pw_below_drewN | apply below_drew1) | exact HB.out)⟩⟩
            · rw [if_neg c10] at H
              have c10b0 : ((bt a0 x5_1) == 32) = false := beq_eq_false_iff_ne.mpr c10
              have c10b1 : ((bt a0 x5_1) != 32) = true := bne_iff_ne.mpr c10
              have HC11 := Aside0.mk H
              clear H
              have p9 : 0 ≤ (x5_1 : Int) := of_decide_eq_true (by first | (with_reducible assumption) | assumption)
              have q9 : x5_1 < (a0.size : Int) := of_decide_eq_true (by first | (with_reducible assumption) | assumption)
              have hx9 := bt_at a0 x5_1
              replace p9 := eq_true p9
              replace q9 := eq_true q9
              go_upto_region 10 with (fail)
              go_cut [25] (fun v25 wc => ∃ (kq : Nat) (x25_10 : Bool), v25 = .bool x25_10 ∧ Aside0 (spec_StatementTokens.j1 kq a0 x4_1 x5_1 1 (bt a0 x5_1) x25_10 = some (r1, r2)) ∧ Aside0 (kq ≤ k1) ∧ Aside0 (Kd.R Kd.string 9 wc w.heap.size (fun _ => True) u4 x4_1) ∧ Aside0 (Below w.heap.size w wc))
              case first =>
                have H := HC11.out
                clear HC11
                by_cases c12 : (bt a0 x5_1) = 58
                · rw [if_pos c12] at H
                  have c12b0 : ((bt a0 x5_1) == 58) = true := beq_iff_eq.mpr c12
                  have c12b1 : ((bt a0 x5_1) != 58) = false := bne_eq_false_iff_eq.mpr c12
                  clear c12
                  (first | rw [c12b0] | (simp only [i64_w, i32_w]; rw [c12b0]) | skip)
                  by_cases c13 : (wrap64 (x5_1 + 1)) < (a0.size : Int)
                  · rw [if_pos c13] at H
                    have c13b0 : decide ((wrap64 (x5_1 + 1)) < (a0.size : Int)) = true := decide_eq_true c13
                    clear c13
                    obtain ⟨ji14, hji14⟩ : ∃ j_ : Int, (wrap64 (x5_1 + 1)) = j_ := ⟨_, rfl⟩
                    replace H : (if 0 ≤ (ji14) then (spec_StatementTokens.j1 k1 a0 x4_1 x5_1 1 (bt a0 x5_1) ((bt a0 (ji14)) == 61)) else (none)) = some (r1, r2) := by first | (rw [hji14] at H; exact H) | (simp only [hji14] at H ⊢; exact H)
                    (try rw [hji14] at c13b0)
                    have hji14w : (IntKind.i64.wrap (x5_1 + 1)) = ji14 := (i64_w _).trans hji14
                    by_cases c15 : 0 ≤ (ji14)
                    · rw [if_pos c15] at H
                      have c15b0 : decide (0 ≤ (ji14)) = true := decide_eq_true c15
                      clear c15
                      have H' := Aside0.mk H
                      clear H
                      have p16 : 0 ≤ ((ji14) : Int) := of_decide_eq_true (by first | (with_reducible assumption) | assumption)
                      have q16 : (ji14) < (a0.size : Int) := of_decide_eq_true (by first | (with_reducible assumption) | assumption)
                      have hx16 := bt_at a0 (ji14)
                      replace p16 := eq_true p16
                      replace q16 := eq_true q16
                      go_wp2
                      go_meet
                      case rel => exact ⟨_, (((bt a0 (ji14)) == 61)), (by first | rfl | (simp; done) | (simp only [← hji14] <;> (first | rfl | simp)) | (simp [*]; done)), H', ⟨by have := HK1.out; first | omega | exact Nat.le_refl _⟩, ⟨by (with_reducible repeat (first | apply Kd.R_alloc | apply Kd.R_drewN | apply Kd.R_drew)); exact HO_4.out⟩, ⟨by repeat (first | (with_reducible first | exact HB.out | apply below_alloc | apply pw_below_drewN | apply below_drew1) | exact HB.out)⟩⟩
                    · rw [if_neg c15] at H
                      exact absurd H (by simp)
                  · rw [if_neg c13] at H
                    have c13b0 : decide ((wrap64 (x5_1 + 1)) < (a0.size : Int)) = false := decide_eq_false c13
                    clear c13
                    have H' := Aside0.mk H
                    clear H
                    go_wp2
                    go_meet
                    case rel => exact ⟨_, (false), (by first | rfl | (simp; done) | (simp [*]; done)), H', ⟨by have := HK1.out; first | omega | exact Nat.le_refl _⟩, ⟨by (with_reducible repeat (first | apply Kd.R_alloc | apply Kd.R_drewN | apply Kd.R_drew)); exact HO_4.out⟩, ⟨by repeat (first | (with_reducible first | exact HB.out | apply below_alloc | apply pw_below_drewN | apply below_drew1) | exact HB.out)⟩⟩
                · rw [if_neg c12] at H
                  have c12b0 : ((bt a0 x5_1) == 58) = false := beq_eq_false_iff_ne.mpr c12
                  have c12b1 : ((bt a0 x5_1) != 58) = true := bne_iff_ne.mpr c12
                  (first | rw [c12b0] | (simp only [i64_w, i32_w]; rw [c12b0]) | skip)
                  have H' := Aside0.mk H
                  clear H
                  go_wp2
                  go_meet
                  case rel => exact ⟨_, (false), (by first | rfl | (simp; done) | (simp [*]; done)), H', ⟨by have := HK1.out; first | omega | exact Nat.le_refl _⟩, ⟨by (with_reducible repeat (first | apply Kd.R_alloc | apply Kd.R_drewN | apply Kd.R_drew)); exact HO_4.out⟩, ⟨by repeat (first | (with_reducible first | exact HB.out | apply below_alloc | apply pw_below_drewN | apply below_drew1) | exact HB.out)⟩⟩
              case rest =>
                clear HC11
                try clear c1
                try clear p1
                try clear q1
                try clear hx1
                try clear c2
                try clear c2b0
                try clear c2b1
                try clear p2
                try clear c5
                try clear p6
                try clear c7
                try clear c7b0
                try clear c8
                try clear c8b0
                try clear p9
                try clear q9
                try clear hx9
                try clear c10
                try clear c10b0
                try clear c10b1
                try clear c12
                try clear c12b0
                try clear c12b1
                try clear c13
                try clear c13b0
                try clear c15
                try clear c15b0
                try clear p16
                try clear q16
                try clear hx16
                try clear p16
                try clear p2
                try clear p9
                try clear q16
                try clear q9
                obtain ⟨kq, x25_10, rfl, HA, HJ10, HO_4, HB⟩ := hcut
                cases kq with
                | zero => exact absurd HA.out (by simp [spec_StatementTokens.j1])
                | succ kj10 =>
                  have H := HA.out
                  clear HA
                  simp only [spec_StatementTokens.j1] at H
                  have HC17 := Aside0.mk H
                  clear H
                  go_upto_if 25 with (fail)
                  go_cut [25] (fun v25 wc => ∃ (kq : Nat) (x25_16 : Bool), v25 = .bool x25_16 ∧ Aside0 (spec_StatementTokens.j2 kq a0 x4_1 x5_1 1 (bt a0 x5_1) x25_16 = some (r1, r2)) ∧ Aside0 (kq ≤ kj10) ∧ Aside0 (Kd.R Kd.string 9 wc w.heap.size (fun _ => True) u4 x4_1) ∧ Aside0 (Below w.heap.size w wc))
                  case first =>
                    have H := HC17.out
                    clear HC17
                    by_cases c18 : x25_10 = true
                    · subst c18
                      have H1 : (spec_StatementTokens.j2 kj10 a0 x4_1 x5_1 1 (bt a0 x5_1) true) = some (r1, r2) := by rw [if_pos rfl] at H; exact H
                      clear H
                      have H := H1
                      clear H1
                      have H' := Aside0.mk H
                      clear H
                      go_wp2
                      go_meet
                      case rel => exact ⟨_, (true), (by first | rfl | (simp; done) | (simp [*]; done)), H', ⟨by have := HK1.out; have := HJ10.out; first | omega | exact Nat.le_refl _⟩, ⟨by (with_reducible repeat (first | apply Kd.R_alloc | apply Kd.R_drewN | apply Kd.R_drew)); exact HO_4.out⟩, ⟨by repeat (first | (with_reducible first | exact HB.out | apply below_alloc | apply pw_below_drewN | apply below_drew1) | exact HB.out)⟩⟩
                    · replace c18 := Bool.eq_false_iff.mpr c18
                      subst c18
                      have H1 : (if (bt a0 x5_1) = 119 then (if (wrap64 (x5_1 + 1)) < (a0.size : Int) then (if 0 ≤ (wrap64 (x5_1 + 1)) then (if (bt a0 (wrap64 (x5_1 + 1))) ≥ 48 then (spec_StatementTokens.j2 kj10 a0 x4_1 x5_1 1 (bt a0 x5_1) (decide ((bt a0 (wrap64 (x5_1 + 1))) ≤ 55))) else (spec_StatementTokens.j2 kj10 a0 x4_1 x5_1 1 (bt a0 x5_1) false)) else (none)) else (spec_StatementTokens.j2 kj10 a0 x4_1 x5_1 1 (bt a0 x5_1) false)) else (spec_StatementTokens.j2 kj10 a0 x4_1 x5_1 1 (bt a0 x5_1) false)) = some (r1, r2) := by rw [if_neg (show ¬ (false = true) by decide)] at H; exact H
                      clear H
                      have H := H1
                      clear H1
                      by_cases c19 : (bt a0 x5_1) = 119
                      · rw [if_pos c19] at H
                        have c19b0 : ((bt a0 x5_1) == 119) = true := beq_iff_eq.mpr c19
                        have c19b1 : ((bt a0 x5_1) != 119) = false := bne_eq_false_iff_eq.mpr c19
                        clear c19
                        (first | rw [c19b0] | (simp only [i64_w, i32_w]; rw [c19b0]) | skip)
                        by_cases c20 : (wrap64 (x5_1 + 1)) < (a0.size : Int)
                        · rw [if_pos c20] at H
                          have c20b0 : decide ((wrap64 (x5_1 + 1)) < (a0.size : Int)) = true := decide_eq_true c20
                          clear c20
                          obtain ⟨ji21, hji21⟩ : ∃ j_ : Int, (wrap64 (x5_1 + 1)) = j_ := ⟨_, rfl⟩
                          replace H : (if 0 ≤ (ji21) then (if (bt a0 (ji21)) ≥ 48 then (spec_StatementTokens.j2 kj10 a0 x4_1 x5_1 1 (bt a0 x5_1) (decide ((bt a0 (ji21)) ≤ 55))) else (spec_StatementTokens.j2 kj10 a0 x4_1 x5_1 1 (bt a0 x5_1) false)) else (none)) = some (r1, r2) := by first | (rw [hji21] at H; exact H) | (simp only [hji21] at H ⊢; exact H)
                          (try rw [hji21] at c20b0)
                          have hji21w : (IntKind.i64.wrap (x5_1 + 1)) = ji21 := (i64_w _).trans hji21
                          by_cases c22 : 0 ≤ (ji21)
                          · rw [if_pos c22] at H
                            have c22b0 : decide (0 ≤ (ji21)) = true := decide_eq_true c22
                            clear c22
                            by_cases c24 : (bt a0 (ji21)) ≥ 48
                            · rw [if_pos c24] at H
                              have c24b0 : decide (48 ≤ (bt a0 (ji21))) = true := decide_eq_true c24
                              clear c24
                              have H' := Aside0.mk H
                              clear H
                              have p23 : 0 ≤ ((ji21) : Int) := of_decide_eq_true (by first | (with_reducible assumption) | assumption)
                              have q23 : (ji21) < (a0.size : Int) := of_decide_eq_true (by first | (with_reducible assumption) | assumption)
                              have hx23 := bt_at a0 (ji21)
                              replace p23 := eq_true p23
                              replace q23 := eq_true q23
                              have p25 : 0 ≤ ((ji21) : Int) := of_decide_eq_true (by first | (with_reducible assumption) | assumption)
                              have q25 : (ji21) < (a0.size : Int) := of_decide_eq_true (by first | (with_reducible assumption) | assumption)
                              have hx25 := bt_at a0 (ji21)
                              replace p25 := eq_true p25
                              replace q25 := eq_true q25
                              go_wp2
                              go_meet
                              case rel => exact ⟨_, (decide ((bt a0 (ji21)) ≤ 55)), (by first | rfl | (simp; done) | (simp only [← hji21] <;> (first | rfl | simp)) | (simp [*]; done)), H', ⟨by have := HK1.out; have := HJ10.out; first | omega | exact Nat.le_refl _⟩, ⟨by (with_reducible repeat (first | apply Kd.R_alloc | apply Kd.R_drewN | apply Kd.R_drew)); exact HO_4.out⟩, ⟨by repeat (first | (with_reducible first | exact HB.out | apply below_alloc | apply pw_below_drewN | apply below_drew1) | exact HB.out)⟩⟩
                            · rw [if_neg c24] at H
                              have c24b0 : decide (48 ≤ (bt a0 (ji21))) = false := decide_eq_false c24
                              clear c24
                              have H' := Aside0.mk H
                              clear H
                              have p23 : 0 ≤ ((ji21) : Int) := of_decide_eq_true (by first | (with_reducible assumption) | assumption)
                              have q23 : (ji21) < (a0.size : Int) := of_decide_eq_true (by first | (with_reducible assumption) | assumption)
                              have hx23 := bt_at a0 (ji21)
                              replace p23 := eq_true p23
                              replace q23 := eq_true q23
                              go_wp2
                              go_meet
                              case rel => exact ⟨_, (false), (by first | rfl | (simp; done) | (simp [*]; done)), H', ⟨by have := HK1.out; have := HJ10.out; first | omega | exact Nat.le_refl _⟩, ⟨by (with_reducible repeat (first | apply Kd.R_alloc | apply Kd.R_drewN | apply Kd.R_drew)); exact HO_4.out⟩, ⟨by repeat (first | (with_reducible first | exact HB.out | apply below_alloc | apply pw_below_drewN | apply below_drew1) | exact HB.out)⟩⟩
                          · rw [if_neg c22] at H
                            exact absurd H (by simp)
                        · rw [if_neg c20] at H
                          have c20b0 : decide ((wrap64 (x5_1 + 1)) < (a0.size : Int)) = false := decide_eq_false c20
                          clear c20
                          have H' := Aside0.mk H
                          clear H
                          go_wp2
                          go_meet
                          case rel => exact ⟨_, (false), (by first | rfl | (simp; done) | (simp [*]; done)), H', ⟨by have := HK1.out; have := HJ10.out; first | omega | exact Nat.le_refl _⟩, ⟨by (with_reducible repeat (first | apply Kd.R_alloc | apply Kd.R_drewN | apply Kd.R_drew)); exact HO_4.out⟩, ⟨by repeat (first | (with_reducible first | exact HB.out | apply below_alloc | apply pw_below_drewN | apply below_drew1) | exact HB.out)⟩⟩
                      · rw [if_neg c19] at H
                        have c19b0 : ((bt a0 x5_1) == 119) = false := beq_eq_false_iff_ne.mpr c19
                        have c19b1 : ((bt a0 x5_1) != 119) = true := bne_iff_ne.mpr c19
                        (first | rw [c19b0] | (simp only [i64_w, i32_w]; rw [c19b0]) | skip)
                        have H' := Aside0.mk H
                        clear H
                        go_wp2
                        go_meet
                        case rel => exact ⟨_, (false), (by first | rfl | (simp; done) | (simp [*]; done)), H', ⟨by have := HK1.out; have := HJ10.out; first | omega | exact Nat.le_refl _⟩, ⟨by (with_reducible repeat (first | apply Kd.R_alloc | apply Kd.R_drewN | apply Kd.R_drew)); exact HO_4.out⟩, ⟨by repeat (first | (with_reducible first | exact HB.out | apply below_alloc | apply pw_below_drewN | apply below_drew1) | exact HB.out)⟩⟩
                  case rest =>
                    clear HC17
                    try clear c1
                    try clear p1
                    try clear q1
                    try clear hx1
                    try clear c2
                    try clear c2b0
                    try clear c2b1
                    try clear p2
                    try clear q2
                    try clear hx2
                    try clear c5
                    try clear p6
                    try clear c7
                    try clear c7b0
                    try clear c8
                    try clear c8b0
                    try clear p9
                    try clear q9
                    try clear hx9
                    try clear c10
                    try clear c10b0
                    try clear c10b1
                    try clear c12
                    try clear c12b0
                    try clear c12b1
                    try clear c13
                    try clear c13b0
                    try clear c15
                    try clear c15b0
                    try clear p16
                    try clear q16
                    try clear hx16
                    try clear c18
                    try clear c19
                    try clear c19b0
                    try clear c19b1
                    try clear c20
                    try clear c20b0
                    try clear c22
                    try clear c22b0
                    try clear p23
                    try clear q23
                    try clear hx23
                    try clear c24
                    try clear c24b0
                    try clear p25
                    try clear q25
                    try clear hx25
                    try clear p1
                    try clear p16
                    try clear p2
                    try clear p23
                    try clear p25
                    try clear p6
                    try clear p9
                    try clear q1
                    try clear q16
                    try clear q23
                    try clear q25
                    try clear q9
                    obtain ⟨kq, x25_16, rfl, HA, HJ16, HO_4, HB⟩ := hcut
                    cases kq with
                    | zero => exact absurd HA.out (by simp [spec_StatementTokens.j2])
                    | succ kj16 =>
                      have H := HA.out
                      clear HA
                      simp only [spec_StatementTokens.j2] at H
                      by_cases c26 : x25_16 = true
                      · subst c26
                        have H1 : (if 0 ≤ x5_1 then (if x5_1 ≤ (wrap64 (x5_1 + 2)) then (if (wrap64 (x5_1 + 2)) ≤ (a0.size : Int) then (if x4_1.length < 8796093022208 then (spec_StatementTokens.l0 kj16 a0 (x4_1 ++ [a0.extract (x5_1 : Int).toNat ((wrap64 (x5_1 + 2)) : Int).toNat]) (wrap64 (x5_1 + 2))) else (none)) else (none)) else (none)) else (none)) = some (r1, r2) := by rw [if_pos rfl] at H; exact H
                        clear H
                        have H := H1
                        clear H1
                        by_cases c27 : 0 ≤ x5_1
                        · rw [if_pos c27] at H
                          have c27b0 := eq_true c27
                          have c27b1 : decide (0 ≤ x5_1) = true := decide_eq_true c27
                          clear c27
                          by_cases c28 : x5_1 ≤ (wrap64 (x5_1 + 2))
                          · rw [if_pos c28] at H
                            have c28b0 := eq_true c28
                            have c28b1 : decide (x5_1 ≤ (wrap64 (x5_1 + 2))) = true := decide_eq_true c28
                            by_cases c29 : (wrap64 (x5_1 + 2)) ≤ (a0.size : Int)
                            · rw [if_pos c29] at H
                              have c29b0 := eq_true c29
                              have c29b1 : decide ((wrap64 (x5_1 + 2)) ≤ (a0.size : Int)) = true := decide_eq_true c29
                              by_cases c30 : x4_1.length < 8796093022208
                              · rw [if_pos c30] at H
                                have LMc30 := Aside0.mk c30
                                clear c30
                                obtain ⟨y104, hy104⟩ : ∃ y_ : List ByteArray, y_ = (x4_1 ++ [a0.extract (x5_1 : Int).toNat ((wrap64 (x5_1 + 2)) : Int).toNat]) := ⟨_, rfl⟩
                                replace H : (spec_StatementTokens.l0 kj16 a0 y104 (wrap64 (x5_1 + 2))) = some (r1, r2) := by first | (rw [hy104]; with_reducible exact H) | (have H2_ := (Option.bind_some _ _).symm.trans H; rw [hy104]; with_reducible exact H2_) | (have H2_ := (Option.bind_some _ _).symm.trans H; with_reducible exact H2_) | with_reducible exact H | (rw [hy104]; exact H) | exact H
                                have Ny104 := Aside0.mk hy104
                                clear hy104
                                have H' := Aside0.mk H
                                clear H
                                go_wp2_with (first | ((with_reducible refine gate_builtin (b := .append) (xs := #[.tmp 107, .tmp 114]) rfl ?_); (try (refine gate_guard (by rfl) ?_; dsimp only)); at_builtin; refine Kd.R_append Kd.string (w0 := w) w.heap.size rfl (.tmp 107) (.tmp 114) 68 9 (.string ⟨#[]⟩) 16 rfl Try.underlying68 info9 rfl (by decide) (by omega) u4 x4_1 (a0.extract (x5_1 : Int).toNat ((wrap64 (x5_1 + 2)) : Int).toNat) [.string (a0.extract (x5_1 : Int).toNat ((wrap64 (x5_1 + 2)) : Int).toNat)] (fun _ => True) (fun _ => False) rfl rfl ?aP (fun _ hk => hk.elim) ?aF ?aO ?aB ?aS ?aL ?_; (case aP => exact rfl); (case aB => exact (by repeat (first | (with_reducible first | exact HB.out | apply below_alloc | apply pw_below_drewN | apply below_drew1) | exact HB.out))); (case aF => exact (fun _ _ => trivial)); (case aO => exact (by (with_reducible repeat (first | apply Kd.R_alloc | apply Kd.R_drewN | apply Kd.R_drew)); exact HO_4.out)); (case aS => exact (below_size (by repeat (first | (with_reducible first | exact HB.out | apply below_alloc | apply pw_below_drewN | apply below_drew1) | exact HB.out)))); (case aL => have := LMc30.out; omega); intro v105 w31 ho hb hg hat; rw [← Ny104.out] at ho; have n0_ := Aside0.mk (hb); have n1_ := Aside0.mk (ho); clear HB; clear HO_4; have HB := n0_; have HO106 := n1_; clear n0_ n1_; clear ho hb hg hat))
                                go_roundg kj16
                                case measure => have := HK1.out; have := HJ10.out; have := HJ16.out; omega
                                case rel => exact ⟨(y104), (wrap64 (x5_1 + 2)), (by first | rfl | (simp; done) | (simp [*]; done)), H', ⟨by have := HK1.out; have := HJ10.out; have := HJ16.out; omega⟩, ⟨by (with_reducible repeat (first | apply Kd.R_alloc | apply Kd.R_drewN | apply Kd.R_drew)); exact HO106.out⟩, ⟨by repeat (first | (with_reducible first | exact HB.out | apply below_alloc | apply pw_below_drewN | apply below_drew1) | exact HB.out)⟩⟩
                              · rw [if_neg c30] at H
                                exact absurd H (by simp)
                            · rw [if_neg c29] at H
                              exact absurd H (by simp)
                          · rw [if_neg c28] at H
                            exact absurd H (by simp)
                        · rw [if_neg c27] at H
                          exact absurd H (by simp)
                      · replace c26 := Bool.eq_false_iff.mpr c26
                        subst c26
                        have H1 : ((spec_l10Digit.f (bt a0 x5_1)).bind fun t107 => (if t107 = true then (spec_StatementTokens.l1 kj16 a0 x4_1 x5_1 1) else (if (bt a0 x5_1) = 43 then (if 0 ≤ x5_1 then (if x5_1 ≤ (wrap64 (x5_1 + 1)) then (if (wrap64 (x5_1 + 1)) ≤ (a0.size : Int) then (if x4_1.length < 8796093022208 then (spec_StatementTokens.l0 kj16 a0 (x4_1 ++ [a0.extract (x5_1 : Int).toNat ((wrap64 (x5_1 + 1)) : Int).toNat]) (wrap64 (x5_1 + 1))) else (none)) else (none)) else (none)) else (none)) else (if (bt a0 x5_1) = 45 then (if 0 ≤ x5_1 then (if x5_1 ≤ (wrap64 (x5_1 + 1)) then (if (wrap64 (x5_1 + 1)) ≤ (a0.size : Int) then (if x4_1.length < 8796093022208 then (spec_StatementTokens.l0 kj16 a0 (x4_1 ++ [a0.extract (x5_1 : Int).toNat ((wrap64 (x5_1 + 1)) : Int).toNat]) (wrap64 (x5_1 + 1))) else (none)) else (none)) else (none)) else (none)) else (if (bt a0 x5_1) = 42 then (if 0 ≤ x5_1 then (if x5_1 ≤ (wrap64 (x5_1 + 1)) then (if (wrap64 (x5_1 + 1)) ≤ (a0.size : Int) then (if x4_1.length < 8796093022208 then (spec_StatementTokens.l0 kj16 a0 (x4_1 ++ [a0.extract (x5_1 : Int).toNat ((wrap64 (x5_1 + 1)) : Int).toNat]) (wrap64 (x5_1 + 1))) else (none)) else (none)) else (none)) else (none)) else (if (bt a0 x5_1) = 40 then (if 0 ≤ x5_1 then (if x5_1 ≤ (wrap64 (x5_1 + 1)) then (if (wrap64 (x5_1 + 1)) ≤ (a0.size : Int) then (if x4_1.length < 8796093022208 then (spec_StatementTokens.l0 kj16 a0 (x4_1 ++ [a0.extract (x5_1 : Int).toNat ((wrap64 (x5_1 + 1)) : Int).toNat]) (wrap64 (x5_1 + 1))) else (none)) else (none)) else (none)) else (none)) else (if (bt a0 x5_1) = 41 then (if 0 ≤ x5_1 then (if x5_1 ≤ (wrap64 (x5_1 + 1)) then (if (wrap64 (x5_1 + 1)) ≤ (a0.size : Int) then (if x4_1.length < 8796093022208 then (spec_StatementTokens.l0 kj16 a0 (x4_1 ++ [a0.extract (x5_1 : Int).toNat ((wrap64 (x5_1 + 1)) : Int).toNat]) (wrap64 (x5_1 + 1))) else (none)) else (none)) else (none)) else (none)) else (some ((([] : List ByteArray)), false))))))))) = some (r1, r2) := by rw [if_neg (show ¬ (false = true) by decide)] at H; exact H
                        clear H
                        have H := H1
                        clear H1
                        replace H := Option.bind_eq_some_iff.mp H
                        obtain ⟨t107, A320, H⟩ := H
                        replace H : (if t107 = true then (spec_StatementTokens.l1 kj16 a0 x4_1 x5_1 1) else (if (bt a0 x5_1) = 43 then (if 0 ≤ x5_1 then (if x5_1 ≤ (wrap64 (x5_1 + 1)) then (if (wrap64 (x5_1 + 1)) ≤ (a0.size : Int) then (if x4_1.length < 8796093022208 then (spec_StatementTokens.l0 kj16 a0 (x4_1 ++ [a0.extract (x5_1 : Int).toNat ((wrap64 (x5_1 + 1)) : Int).toNat]) (wrap64 (x5_1 + 1))) else (none)) else (none)) else (none)) else (none)) else (if (bt a0 x5_1) = 45 then (if 0 ≤ x5_1 then (if x5_1 ≤ (wrap64 (x5_1 + 1)) then (if (wrap64 (x5_1 + 1)) ≤ (a0.size : Int) then (if x4_1.length < 8796093022208 then (spec_StatementTokens.l0 kj16 a0 (x4_1 ++ [a0.extract (x5_1 : Int).toNat ((wrap64 (x5_1 + 1)) : Int).toNat]) (wrap64 (x5_1 + 1))) else (none)) else (none)) else (none)) else (none)) else (if (bt a0 x5_1) = 42 then (if 0 ≤ x5_1 then (if x5_1 ≤ (wrap64 (x5_1 + 1)) then (if (wrap64 (x5_1 + 1)) ≤ (a0.size : Int) then (if x4_1.length < 8796093022208 then (spec_StatementTokens.l0 kj16 a0 (x4_1 ++ [a0.extract (x5_1 : Int).toNat ((wrap64 (x5_1 + 1)) : Int).toNat]) (wrap64 (x5_1 + 1))) else (none)) else (none)) else (none)) else (none)) else (if (bt a0 x5_1) = 40 then (if 0 ≤ x5_1 then (if x5_1 ≤ (wrap64 (x5_1 + 1)) then (if (wrap64 (x5_1 + 1)) ≤ (a0.size : Int) then (if x4_1.length < 8796093022208 then (spec_StatementTokens.l0 kj16 a0 (x4_1 ++ [a0.extract (x5_1 : Int).toNat ((wrap64 (x5_1 + 1)) : Int).toNat]) (wrap64 (x5_1 + 1))) else (none)) else (none)) else (none)) else (none)) else (if (bt a0 x5_1) = 41 then (if 0 ≤ x5_1 then (if x5_1 ≤ (wrap64 (x5_1 + 1)) then (if (wrap64 (x5_1 + 1)) ≤ (a0.size : Int) then (if x4_1.length < 8796093022208 then (spec_StatementTokens.l0 kj16 a0 (x4_1 ++ [a0.extract (x5_1 : Int).toNat ((wrap64 (x5_1 + 1)) : Int).toNat]) (wrap64 (x5_1 + 1))) else (none)) else (none)) else (none)) else (none)) else (some ((([] : List ByteArray)), false)))))))) = some (r1, r2) := H
                        have A32 := Aside0.mk A320
                        clear A320
                        by_cases c33 : t107 = true
                        · subst c33
                          have H1 : (spec_StatementTokens.l1 kj16 a0 x4_1 x5_1 1) = some (r1, r2) := by rw [if_pos rfl] at H; exact H
                          clear H
                          have H := H1
                          clear H1
                          have H' := Aside0.mk H
                          clear H
                          go_wp2_with (first | ((with_reducible refine gate_callee (f := 75) rfl ?_); refine goesL_ (some 67) rfl rfl Try.func75 (by kernel_rfl) rfl #[.int .u8 (bt a0 x5_1)] rfl (by (try simp only [List.map_toArray, List.map_cons, List.map_nil]); first | done | rfl | (simp only [List.length_drop, List.length_take]; rfl)) ?_; (with_reducible refine (spec_l10Digit.calls (bt a0 x5_1) true _ A32.out).mono ?_); rintro e w' ⟨rfl, ⟨nd, rfl⟩⟩; refine ⟨_, rfl, ?_⟩))
                          go_loopg [6] kj16 (fun kq v6 w' => ∃ (x6_4 : Int), v6 = .int .i64 x6_4 ∧ Aside0 (spec_StatementTokens.l1 kq a0 x4_1 x5_1 x6_4 = some (r1, r2)) ∧ Aside0 (kq ≤ kj16) ∧ Aside0 (Kd.R Kd.string 9 w' w.heap.size (fun _ => True) u4 x4_1) ∧ Aside0 (Below w.heap.size w w'))
                          case atStart => exact ⟨(1), (by first | rfl | (simp; done) | (simp [*]; done)), H', ⟨Nat.le_refl _⟩, ⟨by (with_reducible repeat (first | apply Kd.R_alloc | apply Kd.R_drewN | apply Kd.R_drew)); exact HO_4.out⟩, ⟨by repeat (first | (with_reducible first | exact HB.out | apply below_alloc | apply pw_below_drewN | apply below_drew1) | exact HB.out)⟩⟩
                          case round =>
                            clear H'
                            try clear c1
                            try clear p1
                            try clear q1
                            try clear hx1
                            try clear c2
                            try clear c2b0
                            try clear c2b1
                            try clear p2
                            try clear q2
                            try clear hx2
                            try clear c3
                            try clear c5
                            try clear p6
                            try clear c7
                            try clear c7b0
                            try clear c8
                            try clear c8b0
                            try clear p9
                            try clear q9
                            try clear hx9
                            try clear c10
                            try clear c10b0
                            try clear c10b1
                            try clear c12
                            try clear c12b0
                            try clear c12b1
                            try clear c13
                            try clear c13b0
                            try clear c15
                            try clear c15b0
                            try clear p16
                            try clear q16
                            try clear hx16
                            try clear c18
                            try clear c19
                            try clear c19b0
                            try clear c19b1
                            try clear c20
                            try clear c20b0
                            try clear c22
                            try clear c22b0
                            try clear p23
                            try clear q23
                            try clear hx23
                            try clear c24
                            try clear c24b0
                            try clear p25
                            try clear q25
                            try clear hx25
                            try clear c26
                            try clear c27
                            try clear c27b0
                            try clear c27b1
                            try clear c28
                            try clear c28b0
                            try clear c28b1
                            try clear c29
                            try clear c29b0
                            try clear c29b1
                            try clear c30
                            try clear c33
                            try clear p1
                            try clear p16
                            try clear p2
                            try clear p23
                            try clear p25
                            try clear p6
                            try clear p9
                            try clear q1
                            try clear q16
                            try clear q2
                            try clear q23
                            try clear q25
                            try clear q9
                            obtain ⟨x6_4, rfl, HA, HK4, HO_4, HB⟩ := hrel
                            cases gk with
                            | zero => exact absurd HA.out (by simp [spec_StatementTokens.l1])
                            | succ k4 =>
                              have H := HA.out
                              clear HA
                              simp only [spec_StatementTokens.l1] at H
                              by_cases c34 : (wrap64 (x5_1 + x6_4)) < (a0.size : Int)
                              · rw [if_pos c34] at H
                                have c34b0 : decide ((wrap64 (x5_1 + x6_4)) < (a0.size : Int)) = true := decide_eq_true c34
                                clear c34
                                obtain ⟨ji35, hji35⟩ : ∃ j_ : Int, (wrap64 (x5_1 + x6_4)) = j_ := ⟨_, rfl⟩
                                replace H : (if 0 ≤ (ji35) then ((spec_l10Digit.f (bt a0 (ji35))).bind fun t108 => (if t108 = true then (spec_StatementTokens.l1 k4 a0 x4_1 x5_1 (wrap64 (x6_4 + 1))) else (if x6_4 > 5 then (some ((([] : List ByteArray)), false)) else (if 0 ≤ x5_1 then (if x5_1 ≤ (ji35) then (if (ji35) ≤ (a0.size : Int) then (if x4_1.length < 8796093022208 then (spec_StatementTokens.l0 k4 a0 (x4_1 ++ [a0.extract (x5_1 : Int).toNat ((ji35) : Int).toNat]) ji35) else (none)) else (none)) else (none)) else (none))))) else (none)) = some (r1, r2) := by first | (rw [hji35] at H; exact H) | (simp only [hji35] at H ⊢; exact H)
                                (try rw [hji35] at c34b0)
                                have hji35w : (IntKind.i64.wrap (x5_1 + x6_4)) = ji35 := (i64_w _).trans hji35
                                by_cases c36 : 0 ≤ (ji35)
                                · rw [if_pos c36] at H
                                  have c36b0 : decide (0 ≤ (ji35)) = true := decide_eq_true c36
                                  clear c36
                                  replace H := Option.bind_eq_some_iff.mp H
                                  obtain ⟨t108, A380, H⟩ := H
                                  replace H : (if t108 = true then (spec_StatementTokens.l1 k4 a0 x4_1 x5_1 (wrap64 (x6_4 + 1))) else (if x6_4 > 5 then (some ((([] : List ByteArray)), false)) else (if 0 ≤ x5_1 then (if x5_1 ≤ (ji35) then (if (ji35) ≤ (a0.size : Int) then (if x4_1.length < 8796093022208 then (spec_StatementTokens.l0 k4 a0 (x4_1 ++ [a0.extract (x5_1 : Int).toNat ((ji35) : Int).toNat]) ji35) else (none)) else (none)) else (none)) else (none)))) = some (r1, r2) := H
                                  have A38 := Aside0.mk A380
                                  clear A380
                                  by_cases c39 : t108 = true
                                  · subst c39
                                    have H1 : (spec_StatementTokens.l1 k4 a0 x4_1 x5_1 (wrap64 (x6_4 + 1))) = some (r1, r2) := by rw [if_pos rfl] at H; exact H
                                    clear H
                                    have H := H1
                                    clear H1
                                    have H' := Aside0.mk H
                                    clear H
                                    have p37 : 0 ≤ ((ji35) : Int) := of_decide_eq_true (by first | (with_reducible assumption) | assumption)
                                    have q37 : (ji35) < (a0.size : Int) := of_decide_eq_true (by first | (with_reducible assumption) | assumption)
                                    have hx37 := bt_at a0 (ji35)
                                    replace p37 := eq_true p37
                                    replace q37 := eq_true q37
                                    go_wp2_with (first | (go_at_call 75; (with_reducible refine (spec_l10Digit.calls (bt a0 (ji35)) true _ A38.out).mono ?_); rintro e w' ⟨rfl, ⟨nd, rfl⟩⟩))
                                    go_roundg k4
                                    case measure => have := HK1.out; have := HJ10.out; have := HJ16.out; have := HK4.out; omega
                                    case rel => exact ⟨(wrap64 (x6_4 + 1)), (by first | rfl | (simp; done) | (simp [*]; done)), H', ⟨by have := HK1.out; have := HJ10.out; have := HJ16.out; have := HK4.out; omega⟩, ⟨by (with_reducible repeat (first | apply Kd.R_alloc | apply Kd.R_drewN | apply Kd.R_drew)); exact HO_4.out⟩, ⟨by repeat (first | (with_reducible first | exact HB.out | apply below_alloc | apply pw_below_drewN | apply below_drew1) | exact HB.out)⟩⟩
                                  · replace c39 := Bool.eq_false_iff.mpr c39
                                    subst c39
                                    have H1 : (if x6_4 > 5 then (some ((([] : List ByteArray)), false)) else (if 0 ≤ x5_1 then (if x5_1 ≤ (ji35) then (if (ji35) ≤ (a0.size : Int) then (if x4_1.length < 8796093022208 then (spec_StatementTokens.l0 k4 a0 (x4_1 ++ [a0.extract (x5_1 : Int).toNat ((ji35) : Int).toNat]) ji35) else (none)) else (none)) else (none)) else (none))) = some (r1, r2) := by rw [if_neg (show ¬ (false = true) by decide)] at H; exact H
                                    clear H
                                    have H := H1
                                    clear H1
                                    by_cases c40 : x6_4 > 5
                                    · rw [if_pos c40] at H
                                      have c40b0 : decide (5 < x6_4) = true := decide_eq_true c40
                                      clear c40
                                      obtain ⟨y109, hy109⟩ : ∃ y_ : List ByteArray, y_ = (([] : List ByteArray)) := ⟨_, rfl⟩
                                      replace H : (some (y109, false)) = some (r1, r2) := by first | (rw [hy109]; with_reducible exact H) | (have H2_ := (Option.bind_some _ _).symm.trans H; rw [hy109]; with_reducible exact H2_) | (have H2_ := (Option.bind_some _ _).symm.trans H; with_reducible exact H2_) | with_reducible exact H | (rw [hy109]; exact H) | exact H
                                      have Ny109 := Aside0.mk hy109
                                      clear hy109
                                      simp only [Option.some.injEq, Prod.mk.injEq] at H
                                      obtain ⟨rfl, rfl⟩ := H
                                      have p37 : 0 ≤ ((ji35) : Int) := of_decide_eq_true (by first | (with_reducible assumption) | assumption)
                                      have q37 : (ji35) < (a0.size : Int) := of_decide_eq_true (by first | (with_reducible assumption) | assumption)
                                      have hx37 := bt_at a0 (ji35)
                                      replace p37 := eq_true p37
                                      replace q37 := eq_true q37
                                      go_wp2_with (first | (go_at_call 75; (with_reducible refine (spec_l10Digit.calls (bt a0 (ji35)) false _ A38.out).mono ?_); rintro e w' ⟨rfl, ⟨nd, rfl⟩⟩) | ((with_reducible refine gate_dst (N := 86) rfl ?_); (try (refine gate_guard (by rfl) ?_; dsimp only)); refine Kd.R_lit Kd.string _ 9 ?hg (N := 86) ?hd (xs := ([] : List ByteArray)) (inner := []) (ok := fun _ => True) (okp := fun _ => True) ?hr ?hp (fun _ hk => hk) trivial (Below.refl _ _) (Nat.le_refl _) (by simp) ?_; (case hd => rfl); (case hg => rfl); (case hr => first | (go_simp; done) | (go_simp; rfl)); (case hp => exact (Reps.none _ _)); intro v110 w41 ho42 hb hg_ hnew_; clear hg_ hnew_; (first | rw [← Ny109.out] at ho42 | (simp only [Int.reduceToNat] at ho42; rw [← Ny109.out] at ho42)); have n0_ := Aside0.mk (Kd.R_elder' (by (with_reducible repeat (first | apply Kd.R_alloc | apply Kd.R_drewN | apply Kd.R_drew)); exact HO_4.out) (Kd.R_base ho42) hb); have n1_ := Aside0.mk (Kd.R_lower (Kd.R_new' ho42 (Kd.R_lt (by (with_reducible repeat (first | apply Kd.R_alloc | apply Kd.R_drewN | apply Kd.R_drew)); exact HO_4.out))) (below_size (by repeat (first | (with_reducible first | exact HB.out | apply below_alloc | apply pw_below_drewN | apply below_drew1) | exact HB.out)))); have n2_ := Aside0.mk (below_step (by repeat (first | (with_reducible first | exact HB.out | apply below_alloc | apply pw_below_drewN | apply below_drew1) | exact HB.out)) hb); clear HO_4; clear HB; have HO_4 := n0_; have HO111 := n1_; have HB := n2_; clear n0_ n1_ n2_; clear hb ho42))
                                      go_ret2
                                      exact ⟨_, by first | rfl | (simp [errW_none, errW_some] <;> rfl) | (simp only [← hji35]; first | rfl | (simp [errW_none, errW_some] <;> rfl)) | (simp [*, errW_none, errW_some] <;> rfl), by (with_reducible repeat (first | apply Kd.R_alloc | apply Kd.R_drewN | apply Kd.R_drew)); exact Kd.R_mono HO111.out (fun _ hk => trivial), by repeat (first | (with_reducible first | exact HB.out | apply below_alloc | apply pw_below_drewN | apply below_drew1) | exact HB.out)⟩
                                    · rw [if_neg c40] at H
                                      have c40b0 : decide (5 < x6_4) = false := decide_eq_false c40
                                      clear c40
                                      by_cases c43 : 0 ≤ x5_1
                                      · rw [if_pos c43] at H
                                        have c43b0 := eq_true c43
                                        have c43b1 : decide (0 ≤ x5_1) = true := decide_eq_true c43
                                        clear c43
                                        by_cases c44 : x5_1 ≤ (ji35)
                                        · rw [if_pos c44] at H
                                          have c44b0 := eq_true c44
                                          have c44b1 : decide (x5_1 ≤ (ji35)) = true := decide_eq_true c44
                                          clear c44
                                          by_cases c45 : (ji35) ≤ (a0.size : Int)
                                          · rw [if_pos c45] at H
                                            have c45b0 := eq_true c45
                                            have c45b1 : decide ((ji35) ≤ (a0.size : Int)) = true := decide_eq_true c45
                                            clear c45
                                            by_cases c46 : x4_1.length < 8796093022208
                                            · rw [if_pos c46] at H
                                              have LMc46 := Aside0.mk c46
                                              clear c46
                                              obtain ⟨y112, hy112⟩ : ∃ y_ : List ByteArray, y_ = (x4_1 ++ [a0.extract (x5_1 : Int).toNat ((ji35) : Int).toNat]) := ⟨_, rfl⟩
                                              replace H : (spec_StatementTokens.l0 k4 a0 y112 ji35) = some (r1, r2) := by first | (rw [hy112]; with_reducible exact H) | (have H2_ := (Option.bind_some _ _).symm.trans H; rw [hy112]; with_reducible exact H2_) | (have H2_ := (Option.bind_some _ _).symm.trans H; with_reducible exact H2_) | with_reducible exact H | (rw [hy112]; exact H) | exact H
                                              have Ny112 := Aside0.mk hy112
                                              clear hy112
                                              have H' := Aside0.mk H
                                              clear H
                                              have p37 : 0 ≤ ((ji35) : Int) := of_decide_eq_true (by first | (with_reducible assumption) | assumption)
                                              have q37 : (ji35) < (a0.size : Int) := of_decide_eq_true (by first | (with_reducible assumption) | assumption)
                                              have hx37 := bt_at a0 (ji35)
                                              replace p37 := eq_true p37
                                              replace q37 := eq_true q37
                                              go_wp2_with (first | (go_at_call 75; (with_reducible refine (spec_l10Digit.calls (bt a0 (ji35)) false _ A38.out).mono ?_); rintro e w' ⟨rfl, ⟨nd, rfl⟩⟩) | ((with_reducible refine gate_builtin (b := .append) (xs := #[.tmp 107, .tmp 114]) rfl ?_); (try (refine gate_guard (by rfl) ?_; dsimp only)); at_builtin; refine Kd.R_append Kd.string (w0 := w) w.heap.size rfl (.tmp 107) (.tmp 114) 68 9 (.string ⟨#[]⟩) 16 rfl Try.underlying68 info9 rfl (by decide) (by omega) u4 x4_1 (a0.extract (x5_1 : Int).toNat ((ji35) : Int).toNat) [.string (a0.extract (x5_1 : Int).toNat ((ji35) : Int).toNat)] (fun _ => True) (fun _ => False) rfl rfl ?aP (fun _ hk => hk.elim) ?aF ?aO ?aB ?aS ?aL ?_; (case aP => exact rfl); (case aB => exact (by repeat (first | (with_reducible first | exact HB.out | apply below_alloc | apply pw_below_drewN | apply below_drew1) | exact HB.out))); (case aF => exact (fun _ _ => trivial)); (case aO => exact (by (with_reducible repeat (first | apply Kd.R_alloc | apply Kd.R_drewN | apply Kd.R_drew)); exact HO_4.out)); (case aS => exact (below_size (by repeat (first | (with_reducible first | exact HB.out | apply below_alloc | apply pw_below_drewN | apply below_drew1) | exact HB.out)))); (case aL => have := LMc46.out; omega); intro v113 w47 ho hb hg hat; rw [← Ny112.out] at ho; have n0_ := Aside0.mk (hb); have n1_ := Aside0.mk (ho); clear HB; clear HO_4; have HB := n0_; have HO114 := n1_; clear n0_ n1_; clear ho hb hg hat))
                                              go_roundg k4
                                              case measure => have := HK1.out; have := HJ10.out; have := HJ16.out; have := HK4.out; omega
                                              case rel => exact ⟨(y112), (ji35), (by first | rfl | (simp; done) | (simp only [← hji35] <;> (first | rfl | simp)) | (simp [*]; done)), H', ⟨by have := HK1.out; have := HJ10.out; have := HJ16.out; have := HK4.out; omega⟩, ⟨by (with_reducible repeat (first | apply Kd.R_alloc | apply Kd.R_drewN | apply Kd.R_drew)); exact HO114.out⟩, ⟨by repeat (first | (with_reducible first | exact HB.out | apply below_alloc | apply pw_below_drewN | apply below_drew1) | exact HB.out)⟩⟩
                                            · rw [if_neg c46] at H
                                              exact absurd H (by simp)
                                          · rw [if_neg c45] at H
                                            exact absurd H (by simp)
                                        · rw [if_neg c44] at H
                                          exact absurd H (by simp)
                                      · rw [if_neg c43] at H
                                        exact absurd H (by simp)
                                · rw [if_neg c36] at H
                                  exact absurd H (by simp)
                              · rw [if_neg c34] at H
                                have c34b0 : decide ((wrap64 (x5_1 + x6_4)) < (a0.size : Int)) = false := decide_eq_false c34
                                clear c34
                                by_cases c48 : x6_4 > 5
                                · rw [if_pos c48] at H
                                  have c48b0 : decide (5 < x6_4) = true := decide_eq_true c48
                                  clear c48
                                  obtain ⟨y115, hy115⟩ : ∃ y_ : List ByteArray, y_ = (([] : List ByteArray)) := ⟨_, rfl⟩
                                  replace H : (some (y115, false)) = some (r1, r2) := by first | (rw [hy115]; with_reducible exact H) | (have H2_ := (Option.bind_some _ _).symm.trans H; rw [hy115]; with_reducible exact H2_) | (have H2_ := (Option.bind_some _ _).symm.trans H; with_reducible exact H2_) | with_reducible exact H | (rw [hy115]; exact H) | exact H
                                  have Ny115 := Aside0.mk hy115
                                  clear hy115
                                  simp only [Option.some.injEq, Prod.mk.injEq] at H
                                  obtain ⟨rfl, rfl⟩ := H
                                  go_wp2_with (first | ((with_reducible refine gate_dst (N := 86) rfl ?_); (try (refine gate_guard (by rfl) ?_; dsimp only)); refine Kd.R_lit Kd.string _ 9 ?hg (N := 86) ?hd (xs := ([] : List ByteArray)) (inner := []) (ok := fun _ => True) (okp := fun _ => True) ?hr ?hp (fun _ hk => hk) trivial (Below.refl _ _) (Nat.le_refl _) (by simp) ?_; (case hd => rfl); (case hg => rfl); (case hr => first | (go_simp; done) | (go_simp; rfl)); (case hp => exact (Reps.none _ _)); intro v116 w49 ho50 hb hg_ hnew_; clear hg_ hnew_; (first | rw [← Ny115.out] at ho50 | (simp only [Int.reduceToNat] at ho50; rw [← Ny115.out] at ho50)); have n0_ := Aside0.mk (Kd.R_elder' (by (with_reducible repeat (first | apply Kd.R_alloc | apply Kd.R_drewN | apply Kd.R_drew)); exact HO_4.out) (Kd.R_base ho50) hb); have n1_ := Aside0.mk (Kd.R_lower (Kd.R_new' ho50 (Kd.R_lt (by (with_reducible repeat (first | apply Kd.R_alloc | apply Kd.R_drewN | apply Kd.R_drew)); exact HO_4.out))) (below_size (by repeat (first | (with_reducible first | exact HB.out | apply below_alloc | apply pw_below_drewN | apply below_drew1) | exact HB.out)))); have n2_ := Aside0.mk (below_step (by repeat (first | (with_reducible first | exact HB.out | apply below_alloc | apply pw_below_drewN | apply below_drew1) | exact HB.out)) hb); clear HO_4; clear HB; have HO_4 := n0_; have HO117 := n1_; have HB := n2_; clear n0_ n1_ n2_; clear hb ho50))
                                  go_ret2
                                  exact ⟨_, by first | rfl | (simp [errW_none, errW_some] <;> rfl) | (simp [*, errW_none, errW_some] <;> rfl), by (with_reducible repeat (first | apply Kd.R_alloc | apply Kd.R_drewN | apply Kd.R_drew)); exact Kd.R_mono HO117.out (fun _ hk => trivial), by repeat (first | (with_reducible first | exact HB.out | apply below_alloc | apply pw_below_drewN | apply below_drew1) | exact HB.out)⟩
                                · rw [if_neg c48] at H
                                  have c48b0 : decide (5 < x6_4) = false := decide_eq_false c48
                                  clear c48
                                  by_cases c51 : 0 ≤ x5_1
                                  · rw [if_pos c51] at H
                                    have c51b0 := eq_true c51
                                    have c51b1 : decide (0 ≤ x5_1) = true := decide_eq_true c51
                                    clear c51
                                    by_cases c52 : x5_1 ≤ (wrap64 (x5_1 + x6_4))
                                    · rw [if_pos c52] at H
                                      have c52b0 := eq_true c52
                                      have c52b1 : decide (x5_1 ≤ (wrap64 (x5_1 + x6_4))) = true := decide_eq_true c52
                                      by_cases c53 : (wrap64 (x5_1 + x6_4)) ≤ (a0.size : Int)
                                      · rw [if_pos c53] at H
                                        have c53b0 := eq_true c53
                                        have c53b1 : decide ((wrap64 (x5_1 + x6_4)) ≤ (a0.size : Int)) = true := decide_eq_true c53
                                        by_cases c54 : x4_1.length < 8796093022208
                                        · rw [if_pos c54] at H
                                          have LMc54 := Aside0.mk c54
                                          clear c54
                                          obtain ⟨y118, hy118⟩ : ∃ y_ : List ByteArray, y_ = (x4_1 ++ [a0.extract (x5_1 : Int).toNat ((wrap64 (x5_1 + x6_4)) : Int).toNat]) := ⟨_, rfl⟩
                                          replace H : (spec_StatementTokens.l0 k4 a0 y118 (wrap64 (x5_1 + x6_4))) = some (r1, r2) := by first | (rw [hy118]; with_reducible exact H) | (have H2_ := (Option.bind_some _ _).symm.trans H; rw [hy118]; with_reducible exact H2_) | (have H2_ := (Option.bind_some _ _).symm.trans H; with_reducible exact H2_) | with_reducible exact H | (rw [hy118]; exact H) | exact H
                                          have Ny118 := Aside0.mk hy118
                                          clear hy118
                                          have H' := Aside0.mk H
                                          clear H
                                          go_wp2_with (first | ((with_reducible refine gate_builtin (b := .append) (xs := #[.tmp 107, .tmp 114]) rfl ?_); (try (refine gate_guard (by rfl) ?_; dsimp only)); at_builtin; refine Kd.R_append Kd.string (w0 := w) w.heap.size rfl (.tmp 107) (.tmp 114) 68 9 (.string ⟨#[]⟩) 16 rfl Try.underlying68 info9 rfl (by decide) (by omega) u4 x4_1 (a0.extract (x5_1 : Int).toNat ((wrap64 (x5_1 + x6_4)) : Int).toNat) [.string (a0.extract (x5_1 : Int).toNat ((wrap64 (x5_1 + x6_4)) : Int).toNat)] (fun _ => True) (fun _ => False) rfl rfl ?aP (fun _ hk => hk.elim) ?aF ?aO ?aB ?aS ?aL ?_; (case aP => exact rfl); (case aB => exact (by repeat (first | (with_reducible first | exact HB.out | apply below_alloc | apply pw_below_drewN | apply below_drew1) | exact HB.out))); (case aF => exact (fun _ _ => trivial)); (case aO => exact (by (with_reducible repeat (first | apply Kd.R_alloc | apply Kd.R_drewN | apply Kd.R_drew)); exact HO_4.out)); (case aS => exact (below_size (by repeat (first | (with_reducible first | exact HB.out | apply below_alloc | apply pw_below_drewN | apply below_drew1) | exact HB.out)))); (case aL => have := LMc54.out; omega); intro v119 w55 ho hb hg hat; rw [← Ny118.out] at ho; have n0_ := Aside0.mk (hb); have n1_ := Aside0.mk (ho); clear HB; clear HO_4; have HB := n0_; have HO120 := n1_; clear n0_ n1_; clear ho hb hg hat))
                                          go_roundg k4
                                          case measure => have := HK1.out; have := HJ10.out; have := HJ16.out; have := HK4.out; omega
                                          case rel => exact ⟨(y118), (wrap64 (x5_1 + x6_4)), (by first | rfl | (simp; done) | (simp [*]; done)), H', ⟨by have := HK1.out; have := HJ10.out; have := HJ16.out; have := HK4.out; omega⟩, ⟨by (with_reducible repeat (first | apply Kd.R_alloc | apply Kd.R_drewN | apply Kd.R_drew)); exact HO120.out⟩, ⟨by repeat (first | (with_reducible first | exact HB.out | apply below_alloc | apply pw_below_drewN | apply below_drew1) | exact HB.out)⟩⟩
                                        · rw [if_neg c54] at H
                                          exact absurd H (by simp)
                                      · rw [if_neg c53] at H
                                        exact absurd H (by simp)
                                    · rw [if_neg c52] at H
                                      exact absurd H (by simp)
                                  · rw [if_neg c51] at H
                                    exact absurd H (by simp)
                        · replace c33 := Bool.eq_false_iff.mpr c33
                          subst c33
                          have H1 : (if (bt a0 x5_1) = 43 then (if 0 ≤ x5_1 then (if x5_1 ≤ (wrap64 (x5_1 + 1)) then (if (wrap64 (x5_1 + 1)) ≤ (a0.size : Int) then (if x4_1.length < 8796093022208 then (spec_StatementTokens.l0 kj16 a0 (x4_1 ++ [a0.extract (x5_1 : Int).toNat ((wrap64 (x5_1 + 1)) : Int).toNat]) (wrap64 (x5_1 + 1))) else (none)) else (none)) else (none)) else (none)) else (if (bt a0 x5_1) = 45 then (if 0 ≤ x5_1 then (if x5_1 ≤ (wrap64 (x5_1 + 1)) then (if (wrap64 (x5_1 + 1)) ≤ (a0.size : Int) then (if x4_1.length < 8796093022208 then (spec_StatementTokens.l0 kj16 a0 (x4_1 ++ [a0.extract (x5_1 : Int).toNat ((wrap64 (x5_1 + 1)) : Int).toNat]) (wrap64 (x5_1 + 1))) else (none)) else (none)) else (none)) else (none)) else (if (bt a0 x5_1) = 42 then (if 0 ≤ x5_1 then (if x5_1 ≤ (wrap64 (x5_1 + 1)) then (if (wrap64 (x5_1 + 1)) ≤ (a0.size : Int) then (if x4_1.length < 8796093022208 then (spec_StatementTokens.l0 kj16 a0 (x4_1 ++ [a0.extract (x5_1 : Int).toNat ((wrap64 (x5_1 + 1)) : Int).toNat]) (wrap64 (x5_1 + 1))) else (none)) else (none)) else (none)) else (none)) else (if (bt a0 x5_1) = 40 then (if 0 ≤ x5_1 then (if x5_1 ≤ (wrap64 (x5_1 + 1)) then (if (wrap64 (x5_1 + 1)) ≤ (a0.size : Int) then (if x4_1.length < 8796093022208 then (spec_StatementTokens.l0 kj16 a0 (x4_1 ++ [a0.extract (x5_1 : Int).toNat ((wrap64 (x5_1 + 1)) : Int).toNat]) (wrap64 (x5_1 + 1))) else (none)) else (none)) else (none)) else (none)) else (if (bt a0 x5_1) = 41 then (if 0 ≤ x5_1 then (if x5_1 ≤ (wrap64 (x5_1 + 1)) then (if (wrap64 (x5_1 + 1)) ≤ (a0.size : Int) then (if x4_1.length < 8796093022208 then (spec_StatementTokens.l0 kj16 a0 (x4_1 ++ [a0.extract (x5_1 : Int).toNat ((wrap64 (x5_1 + 1)) : Int).toNat]) (wrap64 (x5_1 + 1))) else (none)) else (none)) else (none)) else (none)) else (some ((([] : List ByteArray)), false))))))) = some (r1, r2) := by rw [if_neg (show ¬ (false = true) by decide)] at H; exact H
                          clear H
                          have H := H1
                          clear H1
                          by_cases c56 : (bt a0 x5_1) = 43
                          · rw [if_pos c56] at H
                            have c56b0 : ((bt a0 x5_1) == 43) = true := beq_iff_eq.mpr c56
                            have c56b1 : ((bt a0 x5_1) != 43) = false := bne_eq_false_iff_eq.mpr c56
                            clear c56
                            by_cases c57 : 0 ≤ x5_1
                            · rw [if_pos c57] at H
                              have c57b0 := eq_true c57
                              have c57b1 : decide (0 ≤ x5_1) = true := decide_eq_true c57
                              clear c57
                              by_cases c58 : x5_1 ≤ (wrap64 (x5_1 + 1))
                              · rw [if_pos c58] at H
                                have c58b0 := eq_true c58
                                have c58b1 : decide (x5_1 ≤ (wrap64 (x5_1 + 1))) = true := decide_eq_true c58
                                by_cases c59 : (wrap64 (x5_1 + 1)) ≤ (a0.size : Int)
                                · rw [if_pos c59] at H
                                  have c59b0 := eq_true c59
                                  have c59b1 : decide ((wrap64 (x5_1 + 1)) ≤ (a0.size : Int)) = true := decide_eq_true c59
                                  by_cases c60 : x4_1.length < 8796093022208
                                  · rw [if_pos c60] at H
                                    have LMc60 := Aside0.mk c60
                                    clear c60
                                    obtain ⟨y121, hy121⟩ : ∃ y_ : List ByteArray, y_ = (x4_1 ++ [a0.extract (x5_1 : Int).toNat ((wrap64 (x5_1 + 1)) : Int).toNat]) := ⟨_, rfl⟩
                                    replace H : (spec_StatementTokens.l0 kj16 a0 y121 (wrap64 (x5_1 + 1))) = some (r1, r2) := by first | (rw [hy121]; with_reducible exact H) | (have H2_ := (Option.bind_some _ _).symm.trans H; rw [hy121]; with_reducible exact H2_) | (have H2_ := (Option.bind_some _ _).symm.trans H; with_reducible exact H2_) | with_reducible exact H | (rw [hy121]; exact H) | exact H
                                    have Ny121 := Aside0.mk hy121
                                    clear hy121
                                    have H' := Aside0.mk H
                                    clear H
                                    go_wp2_with (first | ((with_reducible refine gate_callee (f := 75) rfl ?_); refine goesL_ (some 67) rfl rfl Try.func75 (by kernel_rfl) rfl #[.int .u8 (bt a0 x5_1)] rfl (by (try simp only [List.map_toArray, List.map_cons, List.map_nil]); first | done | rfl | (simp only [List.length_drop, List.length_take]; rfl)) ?_; (with_reducible refine (spec_l10Digit.calls (bt a0 x5_1) false _ A32.out).mono ?_); rintro e w' ⟨rfl, ⟨nd, rfl⟩⟩; refine ⟨_, rfl, ?_⟩) | ((with_reducible refine gate_builtin (b := .append) (xs := #[.tmp 107, .tmp 114]) rfl ?_); (try (refine gate_guard (by rfl) ?_; dsimp only)); at_builtin; refine Kd.R_append Kd.string (w0 := w) w.heap.size rfl (.tmp 107) (.tmp 114) 68 9 (.string ⟨#[]⟩) 16 rfl Try.underlying68 info9 rfl (by decide) (by omega) u4 x4_1 (a0.extract (x5_1 : Int).toNat ((wrap64 (x5_1 + 1)) : Int).toNat) [.string (a0.extract (x5_1 : Int).toNat ((wrap64 (x5_1 + 1)) : Int).toNat)] (fun _ => True) (fun _ => False) rfl rfl ?aP (fun _ hk => hk.elim) ?aF ?aO ?aB ?aS ?aL ?_; (case aP => exact rfl); (case aB => exact (by repeat (first | (with_reducible first | exact HB.out | apply below_alloc | apply pw_below_drewN | apply below_drew1) | exact HB.out))); (case aF => exact (fun _ _ => trivial)); (case aO => exact (by (with_reducible repeat (first | apply Kd.R_alloc | apply Kd.R_drewN | apply Kd.R_drew)); exact HO_4.out)); (case aS => exact (below_size (by repeat (first | (with_reducible first | exact HB.out | apply below_alloc | apply pw_below_drewN | apply below_drew1) | exact HB.out)))); (case aL => have := LMc60.out; omega); intro v122 w61 ho hb hg hat; rw [← Ny121.out] at ho; have n0_ := Aside0.mk (hb); have n1_ := Aside0.mk (ho); clear HB; clear HO_4; have HB := n0_; have HO123 := n1_; clear n0_ n1_; clear ho hb hg hat))
                                    go_roundg kj16
                                    case measure => have := HK1.out; have := HJ10.out; have := HJ16.out; omega
                                    case rel => exact ⟨(y121), (wrap64 (x5_1 + 1)), (by first | rfl | (simp; done) | (simp [*]; done)), H', ⟨by have := HK1.out; have := HJ10.out; have := HJ16.out; omega⟩, ⟨by (with_reducible repeat (first | apply Kd.R_alloc | apply Kd.R_drewN | apply Kd.R_drew)); exact HO123.out⟩, ⟨by repeat (first | (with_reducible first | exact HB.out | apply below_alloc | apply pw_below_drewN | apply below_drew1) | exact HB.out)⟩⟩
                                  · rw [if_neg c60] at H
                                    exact absurd H (by simp)
                                · rw [if_neg c59] at H
                                  exact absurd H (by simp)
                              · rw [if_neg c58] at H
                                exact absurd H (by simp)
                            · rw [if_neg c57] at H
                              exact absurd H (by simp)
                          · rw [if_neg c56] at H
                            have c56b0 : ((bt a0 x5_1) == 43) = false := beq_eq_false_iff_ne.mpr c56
                            have c56b1 : ((bt a0 x5_1) != 43) = true := bne_iff_ne.mpr c56
                            by_cases c62 : (bt a0 x5_1) = 45
                            · rw [if_pos c62] at H
                              have c62b0 : ((bt a0 x5_1) == 45) = true := beq_iff_eq.mpr c62
                              have c62b1 : ((bt a0 x5_1) != 45) = false := bne_eq_false_iff_eq.mpr c62
                              clear c62
                              by_cases c63 : 0 ≤ x5_1
                              · rw [if_pos c63] at H
                                have c63b0 := eq_true c63
                                have c63b1 : decide (0 ≤ x5_1) = true := decide_eq_true c63
                                clear c63
                                by_cases c64 : x5_1 ≤ (wrap64 (x5_1 + 1))
                                · rw [if_pos c64] at H
                                  have c64b0 := eq_true c64
                                  have c64b1 : decide (x5_1 ≤ (wrap64 (x5_1 + 1))) = true := decide_eq_true c64
                                  by_cases c65 : (wrap64 (x5_1 + 1)) ≤ (a0.size : Int)
                                  · rw [if_pos c65] at H
                                    have c65b0 := eq_true c65
                                    have c65b1 : decide ((wrap64 (x5_1 + 1)) ≤ (a0.size : Int)) = true := decide_eq_true c65
                                    by_cases c66 : x4_1.length < 8796093022208
                                    · rw [if_pos c66] at H
                                      have LMc66 := Aside0.mk c66
                                      clear c66
                                      obtain ⟨y124, hy124⟩ : ∃ y_ : List ByteArray, y_ = (x4_1 ++ [a0.extract (x5_1 : Int).toNat ((wrap64 (x5_1 + 1)) : Int).toNat]) := ⟨_, rfl⟩
                                      replace H : (spec_StatementTokens.l0 kj16 a0 y124 (wrap64 (x5_1 + 1))) = some (r1, r2) := by first | (rw [hy124]; with_reducible exact H) | (have H2_ := (Option.bind_some _ _).symm.trans H; rw [hy124]; with_reducible exact H2_) | (have H2_ := (Option.bind_some _ _).symm.trans H; with_reducible exact H2_) | with_reducible exact H | (rw [hy124]; exact H) | exact H
                                      have Ny124 := Aside0.mk hy124
                                      clear hy124
                                      have H' := Aside0.mk H
                                      clear H
                                      go_wp2_with (first | ((with_reducible refine gate_callee (f := 75) rfl ?_); refine goesL_ (some 67) rfl rfl Try.func75 (by kernel_rfl) rfl #[.int .u8 (bt a0 x5_1)] rfl (by (try simp only [List.map_toArray, List.map_cons, List.map_nil]); first | done | rfl | (simp only [List.length_drop, List.length_take]; rfl)) ?_; (with_reducible refine (spec_l10Digit.calls (bt a0 x5_1) false _ A32.out).mono ?_); rintro e w' ⟨rfl, ⟨nd, rfl⟩⟩; refine ⟨_, rfl, ?_⟩) | ((with_reducible refine gate_builtin (b := .append) (xs := #[.tmp 107, .tmp 114]) rfl ?_); (try (refine gate_guard (by rfl) ?_; dsimp only)); at_builtin; refine Kd.R_append Kd.string (w0 := w) w.heap.size rfl (.tmp 107) (.tmp 114) 68 9 (.string ⟨#[]⟩) 16 rfl Try.underlying68 info9 rfl (by decide) (by omega) u4 x4_1 (a0.extract (x5_1 : Int).toNat ((wrap64 (x5_1 + 1)) : Int).toNat) [.string (a0.extract (x5_1 : Int).toNat ((wrap64 (x5_1 + 1)) : Int).toNat)] (fun _ => True) (fun _ => False) rfl rfl ?aP (fun _ hk => hk.elim) ?aF ?aO ?aB ?aS ?aL ?_; (case aP => exact rfl); (case aB => exact (by repeat (first | (with_reducible first | exact HB.out | apply below_alloc | apply pw_below_drewN | apply below_drew1) | exact HB.out))); (case aF => exact (fun _ _ => trivial)); (case aO => exact (by (with_reducible repeat (first | apply Kd.R_alloc | apply Kd.R_drewN | apply Kd.R_drew)); exact HO_4.out)); (case aS => exact (below_size (by repeat (first | (with_reducible first | exact HB.out | apply below_alloc | apply pw_below_drewN | apply below_drew1) | exact HB.out)))); (case aL => have := LMc66.out; omega); intro v125 w67 ho hb hg hat; rw [← Ny124.out] at ho; have n0_ := Aside0.mk (hb); have n1_ := Aside0.mk (ho); clear HB; clear HO_4; have HB := n0_; have HO126 := n1_; clear n0_ n1_; clear ho hb hg hat))
                                      go_roundg kj16
                                      case measure => have := HK1.out; have := HJ10.out; have := HJ16.out; omega
                                      case rel => exact ⟨(y124), (wrap64 (x5_1 + 1)), (by first | rfl | (simp; done) | (simp [*]; done)), H', ⟨by have := HK1.out; have := HJ10.out; have := HJ16.out; omega⟩, ⟨by (with_reducible repeat (first | apply Kd.R_alloc | apply Kd.R_drewN | apply Kd.R_drew)); exact HO126.out⟩, ⟨by repeat (first | (with_reducible first | exact HB.out | apply below_alloc | apply pw_below_drewN | apply below_drew1) | exact HB.out)⟩⟩
                                    · rw [if_neg c66] at H
                                      exact absurd H (by simp)
                                  · rw [if_neg c65] at H
                                    exact absurd H (by simp)
                                · rw [if_neg c64] at H
                                  exact absurd H (by simp)
                              · rw [if_neg c63] at H
                                exact absurd H (by simp)
                            · rw [if_neg c62] at H
                              have c62b0 : ((bt a0 x5_1) == 45) = false := beq_eq_false_iff_ne.mpr c62
                              have c62b1 : ((bt a0 x5_1) != 45) = true := bne_iff_ne.mpr c62
                              by_cases c68 : (bt a0 x5_1) = 42
                              · rw [if_pos c68] at H
                                have c68b0 : ((bt a0 x5_1) == 42) = true := beq_iff_eq.mpr c68
                                have c68b1 : ((bt a0 x5_1) != 42) = false := bne_eq_false_iff_eq.mpr c68
                                clear c68
                                by_cases c69 : 0 ≤ x5_1
                                · rw [if_pos c69] at H
                                  have c69b0 := eq_true c69
                                  have c69b1 : decide (0 ≤ x5_1) = true := decide_eq_true c69
                                  clear c69
                                  by_cases c70 : x5_1 ≤ (wrap64 (x5_1 + 1))
                                  · rw [if_pos c70] at H
                                    have c70b0 := eq_true c70
                                    have c70b1 : decide (x5_1 ≤ (wrap64 (x5_1 + 1))) = true := decide_eq_true c70
                                    by_cases c71 : (wrap64 (x5_1 + 1)) ≤ (a0.size : Int)
                                    · rw [if_pos c71] at H
                                      have c71b0 := eq_true c71
                                      have c71b1 : decide ((wrap64 (x5_1 + 1)) ≤ (a0.size : Int)) = true := decide_eq_true c71
                                      by_cases c72 : x4_1.length < 8796093022208
                                      · rw [if_pos c72] at H
                                        have LMc72 := Aside0.mk c72
                                        clear c72
                                        obtain ⟨y127, hy127⟩ : ∃ y_ : List ByteArray, y_ = (x4_1 ++ [a0.extract (x5_1 : Int).toNat ((wrap64 (x5_1 + 1)) : Int).toNat]) := ⟨_, rfl⟩
                                        replace H : (spec_StatementTokens.l0 kj16 a0 y127 (wrap64 (x5_1 + 1))) = some (r1, r2) := by first | (rw [hy127]; with_reducible exact H) | (have H2_ := (Option.bind_some _ _).symm.trans H; rw [hy127]; with_reducible exact H2_) | (have H2_ := (Option.bind_some _ _).symm.trans H; with_reducible exact H2_) | with_reducible exact H | (rw [hy127]; exact H) | exact H
                                        have Ny127 := Aside0.mk hy127
                                        clear hy127
                                        have H' := Aside0.mk H
                                        clear H
                                        go_wp2_with (first | ((with_reducible refine gate_callee (f := 75) rfl ?_); refine goesL_ (some 67) rfl rfl Try.func75 (by kernel_rfl) rfl #[.int .u8 (bt a0 x5_1)] rfl (by (try simp only [List.map_toArray, List.map_cons, List.map_nil]); first | done | rfl | (simp only [List.length_drop, List.length_take]; rfl)) ?_; (with_reducible refine (spec_l10Digit.calls (bt a0 x5_1) false _ A32.out).mono ?_); rintro e w' ⟨rfl, ⟨nd, rfl⟩⟩; refine ⟨_, rfl, ?_⟩) | ((with_reducible refine gate_builtin (b := .append) (xs := #[.tmp 107, .tmp 114]) rfl ?_); (try (refine gate_guard (by rfl) ?_; dsimp only)); at_builtin; refine Kd.R_append Kd.string (w0 := w) w.heap.size rfl (.tmp 107) (.tmp 114) 68 9 (.string ⟨#[]⟩) 16 rfl Try.underlying68 info9 rfl (by decide) (by omega) u4 x4_1 (a0.extract (x5_1 : Int).toNat ((wrap64 (x5_1 + 1)) : Int).toNat) [.string (a0.extract (x5_1 : Int).toNat ((wrap64 (x5_1 + 1)) : Int).toNat)] (fun _ => True) (fun _ => False) rfl rfl ?aP (fun _ hk => hk.elim) ?aF ?aO ?aB ?aS ?aL ?_; (case aP => exact rfl); (case aB => exact (by repeat (first | (with_reducible first | exact HB.out | apply below_alloc | apply pw_below_drewN | apply below_drew1) | exact HB.out))); (case aF => exact (fun _ _ => trivial)); (case aO => exact (by (with_reducible repeat (first | apply Kd.R_alloc | apply Kd.R_drewN | apply Kd.R_drew)); exact HO_4.out)); (case aS => exact (below_size (by repeat (first | (with_reducible first | exact HB.out | apply below_alloc | apply pw_below_drewN | apply below_drew1) | exact HB.out)))); (case aL => have := LMc72.out; omega); intro v128 w73 ho hb hg hat; rw [← Ny127.out] at ho; have n0_ := Aside0.mk (hb); have n1_ := Aside0.mk (ho); clear HB; clear HO_4; have HB := n0_; have HO129 := n1_; clear n0_ n1_; clear ho hb hg hat))
                                        go_roundg kj16
                                        case measure => have := HK1.out; have := HJ10.out; have := HJ16.out; omega
                                        case rel => exact ⟨(y127), (wrap64 (x5_1 + 1)), (by first | rfl | (simp; done) | (simp [*]; done)), H', ⟨by have := HK1.out; have := HJ10.out; have := HJ16.out; omega⟩, ⟨by (with_reducible repeat (first | apply Kd.R_alloc | apply Kd.R_drewN | apply Kd.R_drew)); exact HO129.out⟩, ⟨by repeat (first | (with_reducible first | exact HB.out | apply below_alloc | apply pw_below_drewN | apply below_drew1) | exact HB.out)⟩⟩
                                      · rw [if_neg c72] at H
                                        exact absurd H (by simp)
                                    · rw [if_neg c71] at H
                                      exact absurd H (by simp)
                                  · rw [if_neg c70] at H
                                    exact absurd H (by simp)
                                · rw [if_neg c69] at H
                                  exact absurd H (by simp)
                              · rw [if_neg c68] at H
                                have c68b0 : ((bt a0 x5_1) == 42) = false := beq_eq_false_iff_ne.mpr c68
                                have c68b1 : ((bt a0 x5_1) != 42) = true := bne_iff_ne.mpr c68
                                by_cases c74 : (bt a0 x5_1) = 40
                                · rw [if_pos c74] at H
                                  have c74b0 : ((bt a0 x5_1) == 40) = true := beq_iff_eq.mpr c74
                                  have c74b1 : ((bt a0 x5_1) != 40) = false := bne_eq_false_iff_eq.mpr c74
                                  clear c74
                                  by_cases c75 : 0 ≤ x5_1
                                  · rw [if_pos c75] at H
                                    have c75b0 := eq_true c75
                                    have c75b1 : decide (0 ≤ x5_1) = true := decide_eq_true c75
                                    clear c75
                                    by_cases c76 : x5_1 ≤ (wrap64 (x5_1 + 1))
                                    · rw [if_pos c76] at H
                                      have c76b0 := eq_true c76
                                      have c76b1 : decide (x5_1 ≤ (wrap64 (x5_1 + 1))) = true := decide_eq_true c76
                                      by_cases c77 : (wrap64 (x5_1 + 1)) ≤ (a0.size : Int)
                                      · rw [if_pos c77] at H
                                        have c77b0 := eq_true c77
                                        have c77b1 : decide ((wrap64 (x5_1 + 1)) ≤ (a0.size : Int)) = true := decide_eq_true c77
                                        by_cases c78 : x4_1.length < 8796093022208
                                        · rw [if_pos c78] at H
                                          have LMc78 := Aside0.mk c78
                                          clear c78
                                          obtain ⟨y130, hy130⟩ : ∃ y_ : List ByteArray, y_ = (x4_1 ++ [a0.extract (x5_1 : Int).toNat ((wrap64 (x5_1 + 1)) : Int).toNat]) := ⟨_, rfl⟩
                                          replace H : (spec_StatementTokens.l0 kj16 a0 y130 (wrap64 (x5_1 + 1))) = some (r1, r2) := by first | (rw [hy130]; with_reducible exact H) | (have H2_ := (Option.bind_some _ _).symm.trans H; rw [hy130]; with_reducible exact H2_) | (have H2_ := (Option.bind_some _ _).symm.trans H; with_reducible exact H2_) | with_reducible exact H | (rw [hy130]; exact H) | exact H
                                          have Ny130 := Aside0.mk hy130
                                          clear hy130
                                          have H' := Aside0.mk H
                                          clear H
                                          go_wp2_with (first | ((with_reducible refine gate_callee (f := 75) rfl ?_); refine goesL_ (some 67) rfl rfl Try.func75 (by kernel_rfl) rfl #[.int .u8 (bt a0 x5_1)] rfl (by (try simp only [List.map_toArray, List.map_cons, List.map_nil]); first | done | rfl | (simp only [List.length_drop, List.length_take]; rfl)) ?_; (with_reducible refine (spec_l10Digit.calls (bt a0 x5_1) false _ A32.out).mono ?_); rintro e w' ⟨rfl, ⟨nd, rfl⟩⟩; refine ⟨_, rfl, ?_⟩) | ((with_reducible refine gate_builtin (b := .append) (xs := #[.tmp 107, .tmp 114]) rfl ?_); (try (refine gate_guard (by rfl) ?_; dsimp only)); at_builtin; refine Kd.R_append Kd.string (w0 := w) w.heap.size rfl (.tmp 107) (.tmp 114) 68 9 (.string ⟨#[]⟩) 16 rfl Try.underlying68 info9 rfl (by decide) (by omega) u4 x4_1 (a0.extract (x5_1 : Int).toNat ((wrap64 (x5_1 + 1)) : Int).toNat) [.string (a0.extract (x5_1 : Int).toNat ((wrap64 (x5_1 + 1)) : Int).toNat)] (fun _ => True) (fun _ => False) rfl rfl ?aP (fun _ hk => hk.elim) ?aF ?aO ?aB ?aS ?aL ?_; (case aP => exact rfl); (case aB => exact (by repeat (first | (with_reducible first | exact HB.out | apply below_alloc | apply pw_below_drewN | apply below_drew1) | exact HB.out))); (case aF => exact (fun _ _ => trivial)); (case aO => exact (by (with_reducible repeat (first | apply Kd.R_alloc | apply Kd.R_drewN | apply Kd.R_drew)); exact HO_4.out)); (case aS => exact (below_size (by repeat (first | (with_reducible first | exact HB.out | apply below_alloc | apply pw_below_drewN | apply below_drew1) | exact HB.out)))); (case aL => have := LMc78.out; omega); intro v131 w79 ho hb hg hat; rw [← Ny130.out] at ho; have n0_ := Aside0.mk (hb); have n1_ := Aside0.mk (ho); clear HB; clear HO_4; have HB := n0_; have HO132 := n1_; clear n0_ n1_; clear ho hb hg hat))
                                          go_roundg kj16
                                          case measure => have := HK1.out; have := HJ10.out; have := HJ16.out; omega
                                          case rel => exact ⟨(y130), (wrap64 (x5_1 + 1)), (by first | rfl | (simp; done) | (simp [*]; done)), H', ⟨by have := HK1.out; have := HJ10.out; have := HJ16.out; omega⟩, ⟨by (with_reducible repeat (first | apply Kd.R_alloc | apply Kd.R_drewN | apply Kd.R_drew)); exact HO132.out⟩, ⟨by repeat (first | (with_reducible first | exact HB.out | apply below_alloc | apply pw_below_drewN | apply below_drew1) | exact HB.out)⟩⟩
                                        · rw [if_neg c78] at H
                                          exact absurd H (by simp)
                                      · rw [if_neg c77] at H
                                        exact absurd H (by simp)
                                    · rw [if_neg c76] at H
                                      exact absurd H (by simp)
                                  · rw [if_neg c75] at H
                                    exact absurd H (by simp)
                                · rw [if_neg c74] at H
                                  have c74b0 : ((bt a0 x5_1) == 40) = false := beq_eq_false_iff_ne.mpr c74
                                  have c74b1 : ((bt a0 x5_1) != 40) = true := bne_iff_ne.mpr c74
                                  by_cases c80 : (bt a0 x5_1) = 41
                                  · rw [if_pos c80] at H
                                    have c80b0 : ((bt a0 x5_1) == 41) = true := beq_iff_eq.mpr c80
                                    have c80b1 : ((bt a0 x5_1) != 41) = false := bne_eq_false_iff_eq.mpr c80
                                    clear c80
                                    by_cases c81 : 0 ≤ x5_1
                                    · rw [if_pos c81] at H
                                      have c81b0 := eq_true c81
                                      have c81b1 : decide (0 ≤ x5_1) = true := decide_eq_true c81
                                      clear c81
                                      by_cases c82 : x5_1 ≤ (wrap64 (x5_1 + 1))
                                      · rw [if_pos c82] at H
                                        have c82b0 := eq_true c82
                                        have c82b1 : decide (x5_1 ≤ (wrap64 (x5_1 + 1))) = true := decide_eq_true c82
                                        by_cases c83 : (wrap64 (x5_1 + 1)) ≤ (a0.size : Int)
                                        · rw [if_pos c83] at H
                                          have c83b0 := eq_true c83
                                          have c83b1 : decide ((wrap64 (x5_1 + 1)) ≤ (a0.size : Int)) = true := decide_eq_true c83
                                          by_cases c84 : x4_1.length < 8796093022208
                                          · rw [if_pos c84] at H
                                            have LMc84 := Aside0.mk c84
                                            clear c84
                                            obtain ⟨y133, hy133⟩ : ∃ y_ : List ByteArray, y_ = (x4_1 ++ [a0.extract (x5_1 : Int).toNat ((wrap64 (x5_1 + 1)) : Int).toNat]) := ⟨_, rfl⟩
                                            replace H : (spec_StatementTokens.l0 kj16 a0 y133 (wrap64 (x5_1 + 1))) = some (r1, r2) := by first | (rw [hy133]; with_reducible exact H) | (have H2_ := (Option.bind_some _ _).symm.trans H; rw [hy133]; with_reducible exact H2_) | (have H2_ := (Option.bind_some _ _).symm.trans H; with_reducible exact H2_) | with_reducible exact H | (rw [hy133]; exact H) | exact H
                                            have Ny133 := Aside0.mk hy133
                                            clear hy133
                                            have H' := Aside0.mk H
                                            clear H
                                            go_wp2_with (first | ((with_reducible refine gate_callee (f := 75) rfl ?_); refine goesL_ (some 67) rfl rfl Try.func75 (by kernel_rfl) rfl #[.int .u8 (bt a0 x5_1)] rfl (by (try simp only [List.map_toArray, List.map_cons, List.map_nil]); first | done | rfl | (simp only [List.length_drop, List.length_take]; rfl)) ?_; (with_reducible refine (spec_l10Digit.calls (bt a0 x5_1) false _ A32.out).mono ?_); rintro e w' ⟨rfl, ⟨nd, rfl⟩⟩; refine ⟨_, rfl, ?_⟩) | ((with_reducible refine gate_builtin (b := .append) (xs := #[.tmp 107, .tmp 114]) rfl ?_); (try (refine gate_guard (by rfl) ?_; dsimp only)); at_builtin; refine Kd.R_append Kd.string (w0 := w) w.heap.size rfl (.tmp 107) (.tmp 114) 68 9 (.string ⟨#[]⟩) 16 rfl Try.underlying68 info9 rfl (by decide) (by omega) u4 x4_1 (a0.extract (x5_1 : Int).toNat ((wrap64 (x5_1 + 1)) : Int).toNat) [.string (a0.extract (x5_1 : Int).toNat ((wrap64 (x5_1 + 1)) : Int).toNat)] (fun _ => True) (fun _ => False) rfl rfl ?aP (fun _ hk => hk.elim) ?aF ?aO ?aB ?aS ?aL ?_; (case aP => exact rfl); (case aB => exact (by repeat (first | (with_reducible first | exact HB.out | apply below_alloc | apply pw_below_drewN | apply below_drew1) | exact HB.out))); (case aF => exact (fun _ _ => trivial)); (case aO => exact (by (with_reducible repeat (first | apply Kd.R_alloc | apply Kd.R_drewN | apply Kd.R_drew)); exact HO_4.out)); (case aS => exact (below_size (by repeat (first | (with_reducible first | exact HB.out | apply below_alloc | apply pw_below_drewN | apply below_drew1) | exact HB.out)))); (case aL => have := LMc84.out; omega); intro v134 w85 ho hb hg hat; rw [← Ny133.out] at ho; have n0_ := Aside0.mk (hb); have n1_ := Aside0.mk (ho); clear HB; clear HO_4; have HB := n0_; have HO135 := n1_; clear n0_ n1_; clear ho hb hg hat))
                                            go_roundg kj16
                                            case measure => have := HK1.out; have := HJ10.out; have := HJ16.out; omega
                                            case rel => exact ⟨(y133), (wrap64 (x5_1 + 1)), (by first | rfl | (simp; done) | (simp [*]; done)), H', ⟨by have := HK1.out; have := HJ10.out; have := HJ16.out; omega⟩, ⟨by (with_reducible repeat (first | apply Kd.R_alloc | apply Kd.R_drewN | apply Kd.R_drew)); exact HO135.out⟩, ⟨by repeat (first | (with_reducible first | exact HB.out | apply below_alloc | apply pw_below_drewN | apply below_drew1) | exact HB.out)⟩⟩
                                          · rw [if_neg c84] at H
                                            exact absurd H (by simp)
                                        · rw [if_neg c83] at H
                                          exact absurd H (by simp)
                                      · rw [if_neg c82] at H
                                        exact absurd H (by simp)
                                    · rw [if_neg c81] at H
                                      exact absurd H (by simp)
                                  · rw [if_neg c80] at H
                                    have c80b0 : ((bt a0 x5_1) == 41) = false := beq_eq_false_iff_ne.mpr c80
                                    have c80b1 : ((bt a0 x5_1) != 41) = true := bne_iff_ne.mpr c80
                                    obtain ⟨y136, hy136⟩ : ∃ y_ : List ByteArray, y_ = (([] : List ByteArray)) := ⟨_, rfl⟩
                                    replace H : (some (y136, false)) = some (r1, r2) := by first | (rw [hy136]; with_reducible exact H) | (have H2_ := (Option.bind_some _ _).symm.trans H; rw [hy136]; with_reducible exact H2_) | (have H2_ := (Option.bind_some _ _).symm.trans H; with_reducible exact H2_) | with_reducible exact H | (rw [hy136]; exact H) | exact H
                                    have Ny136 := Aside0.mk hy136
                                    clear hy136
                                    simp only [Option.some.injEq, Prod.mk.injEq] at H
                                    obtain ⟨rfl, rfl⟩ := H
                                    go_wp2_with (first | ((with_reducible refine gate_callee (f := 75) rfl ?_); refine goesL_ (some 67) rfl rfl Try.func75 (by kernel_rfl) rfl #[.int .u8 (bt a0 x5_1)] rfl (by (try simp only [List.map_toArray, List.map_cons, List.map_nil]); first | done | rfl | (simp only [List.length_drop, List.length_take]; rfl)) ?_; (with_reducible refine (spec_l10Digit.calls (bt a0 x5_1) false _ A32.out).mono ?_); rintro e w' ⟨rfl, ⟨nd, rfl⟩⟩; refine ⟨_, rfl, ?_⟩) | ((with_reducible refine gate_dst (N := 106) rfl ?_); (try (refine gate_guard (by rfl) ?_; dsimp only)); refine Kd.R_lit Kd.string _ 9 ?hg (N := 106) ?hd (xs := ([] : List ByteArray)) (inner := []) (ok := fun _ => True) (okp := fun _ => True) ?hr ?hp (fun _ hk => hk) trivial (Below.refl _ _) (Nat.le_refl _) (by simp) ?_; (case hd => rfl); (case hg => rfl); (case hr => first | (go_simp; done) | (go_simp; rfl)); (case hp => exact (Reps.none _ _)); intro v137 w86 ho87 hb hg_ hnew_; clear hg_ hnew_; (first | rw [← Ny136.out] at ho87 | (simp only [Int.reduceToNat] at ho87; rw [← Ny136.out] at ho87)); have n0_ := Aside0.mk (Kd.R_elder' (by (with_reducible repeat (first | apply Kd.R_alloc | apply Kd.R_drewN | apply Kd.R_drew)); exact HO_4.out) (Kd.R_base ho87) hb); have n1_ := Aside0.mk (Kd.R_lower (Kd.R_new' ho87 (Kd.R_lt (by (with_reducible repeat (first | apply Kd.R_alloc | apply Kd.R_drewN | apply Kd.R_drew)); exact HO_4.out))) (below_size (by repeat (first | (with_reducible first | exact HB.out | apply below_alloc | apply pw_below_drewN | apply below_drew1) | exact HB.out)))); have n2_ := Aside0.mk (below_step (by repeat (first | (with_reducible first | exact HB.out | apply below_alloc | apply pw_below_drewN | apply below_drew1) | exact HB.out)) hb); clear HO_4; clear HB; have HO_4 := n0_; have HO138 := n1_; have HB := n2_; clear n0_ n1_ n2_; clear hb ho87))
                                    go_ret2
                                    exact ⟨_, by first | rfl | (simp [errW_none, errW_some] <;> rfl) | (simp [*, errW_none, errW_some] <;> rfl), by (with_reducible repeat (first | apply Kd.R_alloc | apply Kd.R_drewN | apply Kd.R_drew)); exact Kd.R_mono HO138.out (fun _ hk => trivial), by repeat (first | (with_reducible first | exact HB.out | apply below_alloc | apply pw_below_drewN | apply below_drew1) | exact HB.out)⟩
          · rw [if_neg c8] at H
            exact absurd H (by simp)
        · rw [if_neg c7] at H
          have c7b0 : decide (x5_1 < (a0.size : Int)) = false := decide_eq_false c7
          clear c7
          simp only [Option.some.injEq, Prod.mk.injEq] at H
          obtain ⟨rfl, rfl⟩ := H
          go_wp2
          go_ret2
          exact ⟨_, by first | rfl | (simp [errW_none, errW_some] <;> rfl) | (simp [*, errW_none, errW_some] <;> rfl), by (with_reducible repeat (first | apply Kd.R_alloc | apply Kd.R_drewN | apply Kd.R_drew)); exact HO_4.out, by repeat (first | (with_reducible first | exact HB.out | apply below_alloc | apply pw_below_drewN | apply below_drew1) | exact HB.out)⟩

end Go.Proofs.Ytflemeaaiokjmaa.GFnExactStatementTokens

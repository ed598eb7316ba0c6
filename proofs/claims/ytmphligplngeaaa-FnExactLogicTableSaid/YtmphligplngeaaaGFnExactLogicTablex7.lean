/- Functions of the program as Lean functions, with proofs that the machine comes to their answers; written by this session's program mkprint.py; no condition beyond each theorem's own. -/
import Derived.Test.YtmphligplngeaaaGFnExactLogicTablex0
import Derived.Test.YtmphligplngeaaaGFnExactLogicTablex1
import Derived.Test.YtmphligplngeaaaGFnExactLogicTablex4
import Derived.Test.YtmphligplngeaaaGFnExactLogicTablex6
namespace Go.Proofs.Ytmphligplngeaaa.GFnExactLogicTable
open Go.RowKit Go.Proofs.YtmphligplngeaaaV.PrintWords Go.Proofs.YtmphligplngeaaaV.PrintLast Go.Proofs.YtmphligplngeaaaV.PrintMore
attribute [local go_sem] max2_int min2_int max_two min_two max_three min_three max_four min_four   -- for this text's walks alone
set_option linter.unusedVariables false
set_option linter.unusedSimpArgs false

/-! ### laws_markNodeS: function 30 -/
def laws_markNodeS.l0 : Nat → List (S69) → Int → Int → Option (Int × (List (S69)))
  | 0, _, _, _ => none
  | k + 1, x0, x1, x5 => if x5 < (x0.length : Int) then (if 0 ≤ x5 then ((some (x0.set (x5 : Int).toNat (⟨x1, (rd_T69 x0 x5).f1⟩ : S69) : List (S69))).bind fun y157 => (laws_markNodeS.l0 k (y157.set (x5 : Int).toNat (⟨(rd_T69 y157 x5).f0, wrap64 (x1 + 1)⟩ : S69)) (wrap64 ((wrap64 (x1 + 1)) + 1)) (wrap64 (x5 + 1)))) else (none)) else (some (x1, x0))
def laws_markNodeS.f (k : Nat) (l0 : List (S69)) (a1 : Int) : Option (Int × (List (S69))) := laws_markNodeS.l0 k l0 a1 0
theorem laws_markNodeS.mono_l : ∀ k, (∀ y0 y1 y2, LeO (laws_markNodeS.l0 k y0 y1 y2) (laws_markNodeS.l0 (k + 1) y0 y1 y2))
  | 0 => fun _ _ _ r h => by simp [laws_markNodeS.l0] at h
  | k + 1 => by
    have ih0 := laws_markNodeS.mono_l k
    · intro y0 y1 y2
      unfold laws_markNodeS.l0
      repeat' first
      | (with_reducible exact ih0 _ _ _)
      | (with_reducible exact LeO.refl _)
      | (with_reducible exact LeO.none _)
      | (with_reducible refine LeO.ite ?_ ?_)
      | (with_reducible refine LeO.bind ?_ (fun _ => ?_))
      | exact ih0 _ _ _
      | exact LeO.none _
      | refine LeO.ite ?_ ?_
      | refine LeO.bind ?_ (fun _ => ?_)
theorem laws_markNodeS.mono : ∀ a0 a1 k, LeO (laws_markNodeS.f k a0 a1) (laws_markNodeS.f (k + 1) a0 a1) := by
  intro a0 a1 k
  have ih0 := laws_markNodeS.mono_l k
  unfold laws_markNodeS.f
  repeat' first
      | (with_reducible exact ih0 _ _ _)
      | (with_reducible exact LeO.refl _)
      | (with_reducible exact LeO.none _)
      | (with_reducible refine LeO.ite ?_ ?_)
      | (with_reducible refine LeO.bind ?_ (fun _ => ?_))
      | exact ih0 _ _ _
      | exact LeO.none _
      | refine LeO.ite ?_ ?_
      | refine LeO.bind ?_ (fun _ => ?_)
set_option maxHeartbeats 8000000 in
set_option maxRecDepth 100000 in
theorem laws_markNodeS.calls (k : Nat) (P0_ : Nat → Prop) (u9000_ : Value) (l0 : List (S69)) (a1 : Int) (r1 : Int) (r2 : List (S69)) (w0 w : World) (hB : Below w0.heap.size w0 w) (ho0 : Kd.Q k69 69 w w0.heap.size P0_ u9000_ l0) (h : laws_markNodeS.f k l0 a1 = some (r1, r2)) :
    Calls Try.prog 30 #[u9000_, .int .i64 a1] w fun e w' => e = .returned (.int .i64 r1) ∧ Kd.Q k69 69 w' w0.heap.size (fun k_ => (P0_ k_ ∨ w.heap.size ≤ k_)) u9000_ r2 ∧ Below w0.heap.size w0 w' ∧ Kept w w' (fun k_ => P0_ k_) := by
  have HO0 := Aside0.mk (show Kd.Q k69 69 w w0.heap.size (fun k_ => (P0_ k_ ∨ w.heap.size ≤ k_)) u9000_ l0 from Kd.Q_mono ho0 (fun k_ hk => (.inl hk)))
  have HK := Aside0.mk (Kept.refl w (fun k_ => P0_ k_))
  have HW0 := Aside0.mk hB.size
  have HB := Aside0.mk hB
  clear hB
  have H : (laws_markNodeS.l0 k l0 a1 0) = some (r1, r2) := h
  clear h
  have H' := Aside0.mk H
  clear H
  go_enter Try.func30, Try.ntmps30
  go_wp2
  go_loopg [1, 5] k (fun kq v1 v5 w' => ∃ (x0_1 : List (S69)) (x1_1 : Int) (x5_1 : Int), v1 = .int .i64 x1_1 ∧ v5 = .int .i64 x5_1 ∧ Aside0 (laws_markNodeS.l0 kq x0_1 x1_1 x5_1 = some (r1, r2)) ∧ Aside0 (kq ≤ k) ∧ Aside0 (Kd.Q k69 69 w' w0.heap.size (fun k_ => (P0_ k_ ∨ w.heap.size ≤ k_)) u9000_ x0_1) ∧ Aside0 (Kept w w' (fun k_ => P0_ k_)) ∧ Aside0 (Below w0.heap.size w0 w'))
  case atStart => exact ⟨(l0), (a1), (0), (by first | rfl | (simp; done) | (simp [*]; done)), (by first | rfl | (simp; done) | (simp [*]; done)), H', ⟨Nat.le_refl _⟩, ⟨by (with_reducible repeat (first | apply Kd.Q_alloc | apply Kd.Q_drewN | apply Kd.Q_drew)); exact HO0.out⟩, ⟨by repeat (first | (with_reducible first | exact HK.out | apply Kept.alloc | apply Kept.drewN | apply Kept.drew) | exact HK.out)⟩, ⟨by repeat (first | (with_reducible first | exact HB.out | apply below_alloc | apply pw_below_drewN | apply below_drew1) | exact HB.out)⟩⟩
  case round =>
    clear H'
    try clear p2
    obtain ⟨x0_1, x1_1, x5_1, rfl, rfl, HA, HK1, HO_0, HK, HB⟩ := hrel
    cases gk with
    | zero => exact absurd HA.out (by simp [laws_markNodeS.l0])
    | succ k1 =>
      have H := HA.out
      clear HA
      simp only [laws_markNodeS.l0] at H
      by_cases c3 : x5_1 < (x0_1.length : Int)
      · rw [if_pos c3] at H
        have c3b0 : decide (x5_1 < (x0_1.length : Int)) = true := decide_eq_true c3
        clear c3
        by_cases c4 : 0 ≤ x5_1
        · rw [if_pos c4] at H
          have c4b0 : decide (0 ≤ x5_1) = true := decide_eq_true c4
          clear c4
          obtain ⟨y157, hy157⟩ : ∃ y_ : List (S69), y_ = (x0_1.set (x5_1 : Int).toNat (⟨x1_1, (rd_T69 x0_1 x5_1).f1⟩ : S69)) := ⟨_, rfl⟩
          replace H : (laws_markNodeS.l0 k1 (y157.set (x5_1 : Int).toNat (⟨(rd_T69 y157 x5_1).f0, wrap64 (x1_1 + 1)⟩ : S69)) (wrap64 ((wrap64 (x1_1 + 1)) + 1)) (wrap64 (x5_1 + 1))) = some (r1, r2) := by first | (rw [hy157]; with_reducible exact H) | (have H2_ := (Option.bind_some _ _).symm.trans H; rw [hy157]; with_reducible exact H2_) | (have H2_ := (Option.bind_some _ _).symm.trans H; with_reducible exact H2_) | with_reducible exact H | (rw [hy157]; exact H) | exact H
          have Ny157 := Aside0.mk hy157
          clear hy157
          obtain ⟨y158, hy158⟩ : ∃ y_ : List (S69), y_ = (y157.set (x5_1 : Int).toNat (⟨(rd_T69 y157 x5_1).f0, wrap64 (x1_1 + 1)⟩ : S69)) := ⟨_, rfl⟩
          replace H : (laws_markNodeS.l0 k1 y158 (wrap64 ((wrap64 (x1_1 + 1)) + 1)) (wrap64 (x5_1 + 1))) = some (r1, r2) := by first | (rw [hy158]; with_reducible exact H) | (have H2_ := (Option.bind_some _ _).symm.trans H; rw [hy158]; with_reducible exact H2_) | (have H2_ := (Option.bind_some _ _).symm.trans H; with_reducible exact H2_) | with_reducible exact H | (rw [hy158]; exact H) | exact H
          have Ny158 := Aside0.mk hy158
          clear hy158
          have H' := Aside0.mk H
          clear H
          obtain ⟨Ao7, co7, eo7, _⟩ := Kd.Q_slice HO_0.out
          subst eo7
          have p5 : 0 ≤ (x5_1 : Int) := of_decide_eq_true (by first | (with_reducible assumption) | assumption)
          have q5 : (x5_1 : Int) < ((x0_1.length : Int) : Int) := of_decide_eq_true (by first | (with_reducible assumption) | assumption)
          obtain ⟨go5, oo5, co5, eo5, gb5, gl5, cl5, HG5⟩ := Kd.Q_form HO_0.out (by omega)
          (first | cases eo5 | (injection eo5 with ea_ en_ ec_; (first | subst ea_ | (injection ea_ with ea_; subst ea_)); subst ec_; clear en_))
          have GB5 := Aside0.mk gb5
          have GG5 := Aside0.mk HG5
          clear gb5 gl5 HG5
          have HMgo5 := Aside0.mk (show (P0_ go5 ∨ w.heap.size ≤ go5) from (HO_0.out.1 _ rfl))
          obtain ⟨ce5, hcl5, hM5, hcc5, hfr5⟩ := Kd.Q_elem HO_0.out z69 (x5_1 : Int) p5 q5
          obtain rfl := k69_openM hM5
          have hx5_0 : wr.cell? ⟨go5, oo5 + (x5_1 : Int).toNat * 2, none⟩ = some (.int .i64 ((rd_T69 x0_1 x5_1).f0)) := hcc5 0 _ rfl
          have hx5_1 : wr.cell? ⟨go5, oo5 + (x5_1 : Int).toNat * 2 + 1, none⟩ = some (.int .i64 ((rd_T69 x0_1 x5_1).f1)) := hcc5 1 _ rfl
          have hf5_0 : wr.frozen? ⟨go5, oo5 + (x5_1 : Int).toNat * 2, none⟩ = false := hfr5 0
          have hf5_1 : wr.frozen? ⟨go5, oo5 + (x5_1 : Int).toNat * 2 + 1, none⟩ = false := hfr5 1
          clear hcl5 hcc5 hfr5 hM5
          replace p5 := eq_true p5
          replace q5 := eq_true q5
          have HX8 := Aside0.mk (show Kd.Q k69 69 wr w0.heap.size (fun k_ => (P0_ k_ ∨ w.heap.size ≤ k_)) (.slice (some ⟨go5, oo5, none⟩) x0_1.length co7) x0_1 from (by (with_reducible repeat (first | apply Kd.Q_alloc | apply Kd.Q_drewN | apply Kd.Q_drew)); exact HO_0.out))
          obtain ⟨ce8, hcl8, hM8, hcc8, hfr8⟩ := Kd.Q_elem HX8.out z69 (x5_1 : Int) (of_decide_eq_true (by first | (with_reducible assumption) | assumption)) (by have h_ : (x5_1 : Int) < ((x0_1.length : Int) : Int) := of_decide_eq_true (by first | (with_reducible assumption) | assumption); first | exact h_ | (have e_ := (Kd.Q_reads' HO_0.out).1; omega) | simpa using h_)
          obtain rfl := k69_openM hM8
          have HP8 := Kd.Q_seg HX8.out (x5_1 : Int) (of_decide_eq_true (by first | (with_reducible assumption) | assumption)) (by have h_ : (x5_1 : Int) < ((x0_1.length : Int) : Int) := of_decide_eq_true (by first | (with_reducible assumption) | assumption); first | exact h_ | (have e_ := (Kd.Q_reads' HO_0.out).1; omega) | simpa using h_) (seg := [.int .i64 x1_1]) (j := 0) hcl8 hcc8 (show 1 ≤ 2 from by decide) (x' := (⟨x1_1, (rd_T69 x0_1 x5_1).f1⟩ : S69)) (k69_mkM _ _ _ (⟨x1_1, (rd_T69 x0_1 x5_1).f1⟩ : S69) ) (fun _ hk => hk)
          have hx8_0 := hcc8 0 _ rfl
          (try simp only [show (k69).sz = 2 from rfl, Nat.mul_one, Nat.add_zero] at hx8_0)
          have hf8_0 := hfr8 0
          (try simp only [show (k69).sz = 2 from rfl, Nat.mul_one, Nat.add_zero] at hf8_0)
          clear hcl8 hcc8 hfr8 hM8
          go_wp2_with (first | ((with_reducible refine gate_store (t := 3) (p := 16) rfl ?_); refine store_event (t := 3) (p := 16) (v := ?vo_w9) (w1 := (wr.setCell ⟨go5, oo5 + (x5_1 : Int).toNat * 2, none⟩ (.int .i64 x1_1))) ?hg ?ho ?hn ?hr ?_; (case ho => rfl); (case hg => rfl); (case hn => rfl); (case hr => first | (go_simp; done) | (go_simp; rfl)); intro w9 hw; have hg : wr.grownBy w9 (some go5) := (by rw [hw]; exact HP8.2); have hp_ : Kd.Q k69 69 w9 w0.heap.size (fun k_ => (P0_ k_ ∨ w.heap.size ≤ k_)) (.slice (some ⟨go5, oo5, none⟩) x0_1.length co7) y157 := (by rw [hw, Ny157.out]; exact HP8.1); clear HP8; have n0_ := Aside0.mk (hp_); have n1_ := Aside0.mk ((by rw [hw]; exact below_set (HB.out) GB5.out : Below w0.heap.size w0 w9)); have n2_ := Aside0.mk (Kept.of_grown (S := (fun k_ => P0_ k_)) hg (by repeat (first | (with_reducible first | exact HK.out | apply Kept.alloc | apply Kept.drewN | apply Kept.drew) | exact HK.out)) (fun k_ e_ => (HO_0.out.1 k_ e_))); clear HO_0; clear HB; clear HK; have HO_0 := n0_; have HB := n1_; have HK := n2_; clear n0_ n1_ n2_; clear hg hw hp_; have p6 : 0 ≤ (x5_1 : Int) := of_decide_eq_true (by first | (with_reducible assumption) | assumption); have q6 : (x5_1 : Int) < ((x0_1.length : Int) : Int) := of_decide_eq_true (by first | (with_reducible assumption) | assumption); obtain ⟨ce6, hcl6, hM6, hcc6, hfr6⟩ := Kd.Q_elem HO_0.out z69 (x5_1 : Int) p6 q6; obtain rfl := k69_openM hM6; have hx6_0 : w9.cell? ⟨go5, oo5 + (x5_1 : Int).toNat * 2, none⟩ = some (.int .i64 ((rd_T69 y157 x5_1).f0)) := hcc6 0 _ rfl; have hx6_1 : w9.cell? ⟨go5, oo5 + (x5_1 : Int).toNat * 2 + 1, none⟩ = some (.int .i64 ((rd_T69 y157 x5_1).f1)) := hcc6 1 _ rfl; have hf6_0 : w9.frozen? ⟨go5, oo5 + (x5_1 : Int).toNat * 2, none⟩ = false := hfr6 0; have hf6_1 : w9.frozen? ⟨go5, oo5 + (x5_1 : Int).toNat * 2 + 1, none⟩ = false := hfr6 1; clear hcl6 hcc6 hfr6 hM6; replace p6 := eq_true p6; replace q6 := eq_true q6; have HX10 := Aside0.mk (show Kd.Q k69 69 w9 w0.heap.size (fun k_ => (P0_ k_ ∨ w.heap.size ≤ k_)) (.slice (some ⟨go5, oo5, none⟩) x0_1.length co7) y157 from (by (with_reducible repeat (first | apply Kd.Q_alloc | apply Kd.Q_drewN | apply Kd.Q_drew)); exact HO_0.out)); obtain ⟨ce10, hcl10, hM10, hcc10, hfr10⟩ := Kd.Q_elem HX10.out z69 (x5_1 : Int) (of_decide_eq_true (by first | (with_reducible assumption) | assumption)) (by have h_ : (x5_1 : Int) < ((x0_1.length : Int) : Int) := of_decide_eq_true (by first | (with_reducible assumption) | assumption); first | exact h_ | (have e_ := (Kd.Q_reads' HO_0.out).1; omega) | simpa using h_); obtain rfl := k69_openM hM10; have HP10 := Kd.Q_seg HX10.out (x5_1 : Int) (of_decide_eq_true (by first | (with_reducible assumption) | assumption)) (by have h_ : (x5_1 : Int) < ((x0_1.length : Int) : Int) := of_decide_eq_true (by first | (with_reducible assumption) | assumption); first | exact h_ | (have e_ := (Kd.Q_reads' HO_0.out).1; omega) | simpa using h_) (seg := [.int .i64 (wrap64 (x1_1 + 1))]) (j := 1) hcl10 hcc10 (show 2 ≤ 2 from by decide) (x' := (⟨(rd_T69 y157 x5_1).f0, wrap64 (x1_1 + 1)⟩ : S69)) (k69_mkM _ _ _ (⟨(rd_T69 y157 x5_1).f0, wrap64 (x1_1 + 1)⟩ : S69) ) (fun _ hk => hk); have hx10_1 := hcc10 1 _ rfl; (try simp only [show (k69).sz = 2 from rfl, Nat.mul_one, Nat.add_zero] at hx10_1); have hf10_1 := hfr10 1; (try simp only [show (k69).sz = 2 from rfl, Nat.mul_one, Nat.add_zero] at hf10_1); clear hcl10 hcc10 hfr10 hM10) | ((with_reducible refine gate_store (t := 3) (p := 23) rfl ?_); refine store_event (t := 3) (p := 23) (v := ?vo_w11) (w1 := (w9.setCell ⟨go5, oo5 + (x5_1 : Int).toNat * 2 + 1, none⟩ (.int .i64 (wrap64 (x1_1 + 1))))) ?hg ?ho ?hn ?hr ?_; (case ho => rfl); (case hg => rfl); (case hn => rfl); (case hr => first | (go_simp; done) | (go_simp; rfl)); intro w11 hw; have hg : w9.grownBy w11 (some go5) := (by rw [hw]; exact HP10.2); have hp_ : Kd.Q k69 69 w11 w0.heap.size (fun k_ => (P0_ k_ ∨ w.heap.size ≤ k_)) (.slice (some ⟨go5, oo5, none⟩) x0_1.length co7) y158 := (by rw [hw, Ny158.out]; exact HP10.1); clear HP10; have n0_ := Aside0.mk (hp_); have n1_ := Aside0.mk ((by rw [hw]; exact below_set (HB.out) GB5.out : Below w0.heap.size w0 w11)); have n2_ := Aside0.mk (Kept.of_grown (S := (fun k_ => P0_ k_)) hg (by repeat (first | (with_reducible first | exact HK.out | apply Kept.alloc | apply Kept.drewN | apply Kept.drew) | exact HK.out)) (fun k_ e_ => (HO_0.out.1 k_ e_))); clear HO_0; clear HB; clear HK; have HO_0 := n0_; have HB := n1_; have HK := n2_; clear n0_ n1_ n2_; clear hg hw hp_))
          go_roundg k1
          case measure => have := HK1.out; omega
          case rel => exact ⟨(y158), (wrap64 ((wrap64 (x1_1 + 1)) + 1)), (wrap64 (x5_1 + 1)), (by first | rfl | (simp; done) | (simp [*]; done)), (by first | rfl | (simp; done) | (simp [*]; done)), H', ⟨by have := HK1.out; omega⟩, ⟨by (with_reducible repeat (first | apply Kd.Q_alloc | apply Kd.Q_drewN | apply Kd.Q_drew)); exact HO_0.out⟩, ⟨by repeat (first | (with_reducible first | exact HK.out | apply Kept.alloc | apply Kept.drewN | apply Kept.drew) | exact HK.out)⟩, ⟨by repeat (first | (with_reducible first | exact HB.out | apply below_alloc | apply pw_below_drewN | apply below_drew1) | exact HB.out)⟩⟩
        · rw [if_neg c4] at H
          exact absurd H (by simp)
      · rw [if_neg c3] at H
        have c3b0 : decide (x5_1 < (x0_1.length : Int)) = false := decide_eq_false c3
        clear c3
        simp only [Option.some.injEq, Prod.mk.injEq] at H
        obtain ⟨rfl, rfl⟩ := H
        obtain ⟨Ao12, co12, eo12, _⟩ := Kd.Q_slice HO_0.out
        subst eo12
        go_wp2
        go_ret
        exact ⟨by first | rfl | (simp [errW_none, errW_some] <;> rfl) | (simp [*, errW_none, errW_some] <;> rfl), by (with_reducible repeat (first | apply Kd.Q_alloc | apply Kd.Q_drewN | apply Kd.Q_drew)); exact HO_0.out, by repeat (first | (with_reducible first | exact HB.out | apply below_alloc | apply pw_below_drewN | apply below_drew1) | exact HB.out), by repeat (first | (with_reducible first | exact HK.out | apply Kept.alloc | apply Kept.drewN | apply Kept.drew) | exact HK.out)⟩

/-! ### laws_markBoolS: function 31 -/
def laws_markBoolS.l0 : Nat → List Bool → Int → Int → Option (Int × List Bool)
  | 0, _, _, _ => none
  | k + 1, x0, x1, x5 => if x5 < (x0.length : Int) then (if 0 ≤ x5 then (laws_markBoolS.l0 k (x0.set (x5 : Int).toNat ((Int.tmod x1 3) == 0)) (wrap64 (x1 + 1)) (wrap64 (x5 + 1))) else (none)) else (some (x1, x0))
def laws_markBoolS.f (k : Nat) (l0 : List Bool) (a1 : Int) : Option (Int × List Bool) := laws_markBoolS.l0 k l0 a1 0
theorem laws_markBoolS.mono_l : ∀ k, (∀ y0 y1 y2, LeO (laws_markBoolS.l0 k y0 y1 y2) (laws_markBoolS.l0 (k + 1) y0 y1 y2))
  | 0 => fun _ _ _ r h => by simp [laws_markBoolS.l0] at h
  | k + 1 => by
    have ih0 := laws_markBoolS.mono_l k
    · intro y0 y1 y2
      unfold laws_markBoolS.l0
      repeat' first
      | (with_reducible exact ih0 _ _ _)
      | (with_reducible exact LeO.refl _)
      | (with_reducible exact LeO.none _)
      | (with_reducible refine LeO.ite ?_ ?_)
      | (with_reducible refine LeO.bind ?_ (fun _ => ?_))
      | exact ih0 _ _ _
      | exact LeO.none _
      | refine LeO.ite ?_ ?_
      | refine LeO.bind ?_ (fun _ => ?_)
theorem laws_markBoolS.mono : ∀ a0 a1 k, LeO (laws_markBoolS.f k a0 a1) (laws_markBoolS.f (k + 1) a0 a1) := by
  intro a0 a1 k
  have ih0 := laws_markBoolS.mono_l k
  unfold laws_markBoolS.f
  repeat' first
      | (with_reducible exact ih0 _ _ _)
      | (with_reducible exact LeO.refl _)
      | (with_reducible exact LeO.none _)
      | (with_reducible refine LeO.ite ?_ ?_)
      | (with_reducible refine LeO.bind ?_ (fun _ => ?_))
      | exact ih0 _ _ _
      | exact LeO.none _
      | refine LeO.ite ?_ ?_
      | refine LeO.bind ?_ (fun _ => ?_)
set_option maxHeartbeats 8000000 in
set_option maxRecDepth 100000 in
theorem laws_markBoolS.calls (k : Nat) (P0_ : Nat → Prop) (u9000_ : Value) (l0 : List Bool) (a1 : Int) (r1 : Int) (r2 : List Bool) (w0 w : World) (hB : Below w0.heap.size w0 w) (ho0 : Kd.Q Kd.bool 4 w w0.heap.size P0_ u9000_ l0) (h : laws_markBoolS.f k l0 a1 = some (r1, r2)) :
    Calls Try.prog 31 #[u9000_, .int .i64 a1] w fun e w' => e = .returned (.int .i64 r1) ∧ Kd.Q Kd.bool 4 w' w0.heap.size (fun k_ => (P0_ k_ ∨ w.heap.size ≤ k_)) u9000_ r2 ∧ Below w0.heap.size w0 w' ∧ Kept w w' (fun k_ => P0_ k_) := by
  have HO0 := Aside0.mk (show Kd.Q Kd.bool 4 w w0.heap.size (fun k_ => (P0_ k_ ∨ w.heap.size ≤ k_)) u9000_ l0 from Kd.Q_mono ho0 (fun k_ hk => (.inl hk)))
  have HK := Aside0.mk (Kept.refl w (fun k_ => P0_ k_))
  have HW0 := Aside0.mk hB.size
  have HB := Aside0.mk hB
  clear hB
  have H : (laws_markBoolS.l0 k l0 a1 0) = some (r1, r2) := h
  clear h
  have H' := Aside0.mk H
  clear H
  go_enter Try.func31, Try.ntmps31
  go_wp2
  go_loopg [1, 5] k (fun kq v1 v5 w' => ∃ (x0_1 : List Bool) (x1_1 : Int) (x5_1 : Int), v1 = .int .i64 x1_1 ∧ v5 = .int .i64 x5_1 ∧ Aside0 (laws_markBoolS.l0 kq x0_1 x1_1 x5_1 = some (r1, r2)) ∧ Aside0 (kq ≤ k) ∧ Aside0 (Kd.Q Kd.bool 4 w' w0.heap.size (fun k_ => (P0_ k_ ∨ w.heap.size ≤ k_)) u9000_ x0_1) ∧ Aside0 (Kept w w' (fun k_ => P0_ k_)) ∧ Aside0 (Below w0.heap.size w0 w'))
  case atStart => exact ⟨(l0), (a1), (0), (by first | rfl | (simp; done) | (simp [*]; done)), (by first | rfl | (simp; done) | (simp [*]; done)), H', ⟨Nat.le_refl _⟩, ⟨by (with_reducible repeat (first | apply Kd.Q_alloc | apply Kd.Q_drewN | apply Kd.Q_drew)); exact HO0.out⟩, ⟨by repeat (first | (with_reducible first | exact HK.out | apply Kept.alloc | apply Kept.drewN | apply Kept.drew) | exact HK.out)⟩, ⟨by repeat (first | (with_reducible first | exact HB.out | apply below_alloc | apply pw_below_drewN | apply below_drew1) | exact HB.out)⟩⟩
  case round =>
    clear H'
    try clear p2
    obtain ⟨x0_1, x1_1, x5_1, rfl, rfl, HA, HK1, HO_0, HK, HB⟩ := hrel
    cases gk with
    | zero => exact absurd HA.out (by simp [laws_markBoolS.l0])
    | succ k1 =>
      have H := HA.out
      clear HA
      simp only [laws_markBoolS.l0] at H
      by_cases c3 : x5_1 < (x0_1.length : Int)
      · rw [if_pos c3] at H
        have c3b0 : decide (x5_1 < (x0_1.length : Int)) = true := decide_eq_true c3
        clear c3
        by_cases c4 : 0 ≤ x5_1
        · rw [if_pos c4] at H
          have c4b0 : decide (0 ≤ x5_1) = true := decide_eq_true c4
          clear c4
          obtain ⟨y159, hy159⟩ : ∃ y_ : List Bool, y_ = (x0_1.set (x5_1 : Int).toNat ((Int.tmod x1_1 3) == 0)) := ⟨_, rfl⟩
          replace H : (laws_markBoolS.l0 k1 y159 (wrap64 (x1_1 + 1)) (wrap64 (x5_1 + 1))) = some (r1, r2) := by first | (rw [hy159]; with_reducible exact H) | (have H2_ := (Option.bind_some _ _).symm.trans H; rw [hy159]; with_reducible exact H2_) | (have H2_ := (Option.bind_some _ _).symm.trans H; with_reducible exact H2_) | with_reducible exact H | (rw [hy159]; exact H) | exact H
          have Ny159 := Aside0.mk hy159
          clear hy159
          have H' := Aside0.mk H
          clear H
          obtain ⟨Ao6, co6, eo6, _⟩ := Kd.Q_slice HO_0.out
          subst eo6
          have p5 : 0 ≤ (x5_1 : Int) := of_decide_eq_true (by first | (with_reducible assumption) | assumption)
          have q5 : (x5_1 : Int) < ((x0_1.length : Int) : Int) := of_decide_eq_true (by first | (with_reducible assumption) | assumption)
          obtain ⟨go5, oo5, co5, eo5, gb5, gl5, cl5, HG5⟩ := Kd.Q_form HO_0.out (by omega)
          (first | cases eo5 | (injection eo5 with ea_ en_ ec_; (first | subst ea_ | (injection ea_ with ea_; subst ea_)); subst ec_; clear en_))
          have GB5 := Aside0.mk gb5
          have GG5 := Aside0.mk HG5
          clear gb5 gl5 HG5
          have HMgo5 := Aside0.mk (show (P0_ go5 ∨ w.heap.size ≤ go5) from (HO_0.out.1 _ rfl))
          obtain ⟨hx5_0, hf5_0⟩ := Kd.Q_cell false HO_0.out (x5_1 : Int) p5 q5
          replace p5 := eq_true p5
          replace q5 := eq_true q5
          have HP7 := Kd.Q_putg HO_0.out (x5_1 : Int) (of_decide_eq_true (by first | (with_reducible assumption) | assumption)) (by have h_ : (x5_1 : Int) < ((x0_1.length : Int) : Int) := of_decide_eq_true (by first | (with_reducible assumption) | assumption); first | exact h_ | (have e_ := (Kd.Q_reads' HO_0.out).1; omega) | simpa using h_) ((Int.tmod x1_1 3) == 0)
          go_wp2_with (first | ((with_reducible refine gate_store (t := 4) (p := 17) rfl ?_); refine store_event (t := 4) (p := 17) (v := ?vo_w8) (w1 := (wr.setCell ⟨go5, oo5 + (x5_1 : Int).toNat, none⟩ (.bool ((Int.tmod x1_1 3) == 0)))) ?hg ?ho ?hn ?hr ?_; (case ho => rfl); (case hg => rfl); (case hn => rfl); (case hr => first | (go_simp; done) | (go_simp; rfl)); intro w8 hw; have hg : wr.grownBy w8 (some go5) := (by rw [hw]; exact HP7.2); have hp_ : Kd.Q Kd.bool 4 w8 w0.heap.size (fun k_ => (P0_ k_ ∨ w.heap.size ≤ k_)) (.slice (some ⟨go5, oo5, none⟩) x0_1.length co6) y159 := (by rw [hw, Ny159.out]; exact HP7.1); clear HP7; have n0_ := Aside0.mk (hp_); have n1_ := Aside0.mk ((by rw [hw]; exact below_set (HB.out) GB5.out : Below w0.heap.size w0 w8)); have n2_ := Aside0.mk (Kept.of_grown (S := (fun k_ => P0_ k_)) hg (by repeat (first | (with_reducible first | exact HK.out | apply Kept.alloc | apply Kept.drewN | apply Kept.drew) | exact HK.out)) (fun k_ e_ => (HO_0.out.1 k_ e_))); clear HO_0; clear HB; clear HK; have HO_0 := n0_; have HB := n1_; have HK := n2_; clear n0_ n1_ n2_; clear hg hw hp_))
          go_roundg k1
          case measure => have := HK1.out; omega
          case rel => exact ⟨(y159), (wrap64 (x1_1 + 1)), (wrap64 (x5_1 + 1)), (by first | rfl | (simp; done) | (simp [*]; done)), (by first | rfl | (simp; done) | (simp [*]; done)), H', ⟨by have := HK1.out; omega⟩, ⟨by (with_reducible repeat (first | apply Kd.Q_alloc | apply Kd.Q_drewN | apply Kd.Q_drew)); exact HO_0.out⟩, ⟨by repeat (first | (with_reducible first | exact HK.out | apply Kept.alloc | apply Kept.drewN | apply Kept.drew) | exact HK.out)⟩, ⟨by repeat (first | (with_reducible first | exact HB.out | apply below_alloc | apply pw_below_drewN | apply below_drew1) | exact HB.out)⟩⟩
        · rw [if_neg c4] at H
          exact absurd H (by simp)
      · rw [if_neg c3] at H
        have c3b0 : decide (x5_1 < (x0_1.length : Int)) = false := decide_eq_false c3
        clear c3
        simp only [Option.some.injEq, Prod.mk.injEq] at H
        obtain ⟨rfl, rfl⟩ := H
        obtain ⟨Ao9, co9, eo9, _⟩ := Kd.Q_slice HO_0.out
        subst eo9
        go_wp2
        go_ret
        exact ⟨by first | rfl | (simp [errW_none, errW_some] <;> rfl) | (simp [*, errW_none, errW_some] <;> rfl), by (with_reducible repeat (first | apply Kd.Q_alloc | apply Kd.Q_drewN | apply Kd.Q_drew)); exact HO_0.out, by repeat (first | (with_reducible first | exact HB.out | apply below_alloc | apply pw_below_drewN | apply below_drew1) | exact HB.out), by repeat (first | (with_reducible first | exact HK.out | apply Kept.alloc | apply Kept.drewN | apply Kept.drew) | exact HK.out)⟩

/-! ### laws_heldBoolS: function 32 -/
def laws_heldBoolS.l0 : Nat → List Bool → Int → Int → Option (Int)
  | 0, _, _, _ => none
  | k + 1, x0, x1, x5 => if x5 < (x0.length : Int) then (if 0 ≤ x5 then (if ((rdOf false x0 x5) != ((Int.tmod x1 3) == 0)) = true then (some (-1)) else (laws_heldBoolS.l0 k x0 (wrap64 (x1 + 1)) (wrap64 (x5 + 1)))) else (none)) else (some x1)
def laws_heldBoolS.f (k : Nat) (l0 : List Bool) (a1 : Int) : Option (Int) := laws_heldBoolS.l0 k l0 a1 0
theorem laws_heldBoolS.mono_l : ∀ k, (∀ y0 y1 y2, LeO (laws_heldBoolS.l0 k y0 y1 y2) (laws_heldBoolS.l0 (k + 1) y0 y1 y2))
  | 0 => fun _ _ _ r h => by simp [laws_heldBoolS.l0] at h
  | k + 1 => by
    have ih0 := laws_heldBoolS.mono_l k
    · intro y0 y1 y2
      unfold laws_heldBoolS.l0
      repeat' first
      | (with_reducible exact ih0 _ _ _)
      | (with_reducible exact LeO.refl _)
      | (with_reducible exact LeO.none _)
      | (with_reducible refine LeO.ite ?_ ?_)
      | (with_reducible refine LeO.bind ?_ (fun _ => ?_))
      | exact ih0 _ _ _
      | exact LeO.none _
      | refine LeO.ite ?_ ?_
      | refine LeO.bind ?_ (fun _ => ?_)
theorem laws_heldBoolS.mono : ∀ a0 a1 k, LeO (laws_heldBoolS.f k a0 a1) (laws_heldBoolS.f (k + 1) a0 a1) := by
  intro a0 a1 k
  have ih0 := laws_heldBoolS.mono_l k
  unfold laws_heldBoolS.f
  repeat' first
      | (with_reducible exact ih0 _ _ _)
      | (with_reducible exact LeO.refl _)
      | (with_reducible exact LeO.none _)
      | (with_reducible refine LeO.ite ?_ ?_)
      | (with_reducible refine LeO.bind ?_ (fun _ => ?_))
      | exact ih0 _ _ _
      | exact LeO.none _
      | refine LeO.ite ?_ ?_
      | refine LeO.bind ?_ (fun _ => ?_)
set_option maxHeartbeats 8000000 in
set_option maxRecDepth 100000 in
theorem laws_heldBoolS.calls (k : Nat) (A0 : Option Addr) (c0 : Nat) (l0 : List Bool) (a1 : Int) (r : Int) (w : World) (hr0 : Kd.C Kd.bool w A0 l0.length l0) (hc0 : l0.length ≤ c0) (h : laws_heldBoolS.f k l0 a1 = some r) :
    Calls Try.prog 32 #[.slice A0 l0.length c0, .int .i64 a1] w fun e w' => e = .returned (.int .i64 r) ∧ Drawn0 w w' := by
  have HR0 := Aside0.mk hr0
  have HC0 := Aside0.mk hc0
  clear hr0 hc0
  have H : (laws_heldBoolS.l0 k l0 a1 0) = some r := h
  clear h
  have H' := Aside0.mk H
  clear H
  go_enter Try.func32, Try.ntmps32
  go_wp2
  go_loopg [1, 5] k (fun kq v1 v5 w' => ∃ (x1_1 : Int) (x5_1 : Int), v1 = .int .i64 x1_1 ∧ v5 = .int .i64 x5_1 ∧ Aside0 (laws_heldBoolS.l0 kq l0 x1_1 x5_1 = some r) ∧ Aside0 (kq ≤ k) ∧ Drawn0 w w')
  case atStart => exact ⟨(a1), (0), (by first | rfl | (simp; done) | (simp [*]; done)), (by first | rfl | (simp; done) | (simp [*]; done)), H', ⟨Nat.le_refl _⟩, by repeat (first | exact Drawn0.refl _ | apply Drawn0.step)⟩
  case round =>
    clear H'
    try clear p2
    obtain ⟨x1_1, x5_1, rfl, rfl, HA, HK1, ⟨m1, rfl⟩⟩ := hrel
    cases gk with
    | zero => exact absurd HA.out (by simp [laws_heldBoolS.l0])
    | succ k1 =>
      have H := HA.out
      clear HA
      simp only [laws_heldBoolS.l0] at H
      by_cases c3 : x5_1 < (l0.length : Int)
      · rw [if_pos c3] at H
        have c3b0 : decide (x5_1 < (l0.length : Int)) = true := decide_eq_true c3
        clear c3
        by_cases c4 : 0 ≤ x5_1
        · rw [if_pos c4] at H
          have c4b0 : decide (0 ≤ x5_1) = true := decide_eq_true c4
          clear c4
          by_cases c5 : ((rdOf false l0 x5_1) != ((Int.tmod x1_1 3) == 0)) = true
          · rw [if_pos c5] at H
            have c5b0 : ((rdOf false l0 x5_1) != ((Int.tmod x1_1 3) == 0)) = true := c5
            (try (have c5b1 : decide ((rdOf false l0 x5_1) = ((Int.tmod x1_1 3) == 0)) = false := by simpa using c5))
            (try (have c5b2 : ((rdOf false l0 x5_1) == ((Int.tmod x1_1 3) == 0)) = false := by simpa using c5))
            (try (have c5b3 : ¬ ((rdOf false l0 x5_1) = ((Int.tmod x1_1 3) == 0)) := by simpa using c5))
            clear c5
            obtain rfl := Option.some.inj H
            have p160 : 0 ≤ (x5_1 : Int) := of_decide_eq_true (by first | (with_reducible assumption) | assumption)
            have q160 : x5_1 < (l0.length : Int) := of_decide_eq_true (by first | (with_reducible assumption) | assumption)
            obtain ⟨ad160, e160, hx160_0⟩ := Kd.at_bool HR0.out x5_1 p160 q160
            cases e160
            replace p160 := eq_true p160
            replace q160 := eq_true q160
            go_wp2
            go_ret
            exact ⟨by first | rfl | (simp; done) | (simp [*]; done), by repeat (first | exact Drawn0.refl _ | apply Drawn0.step)⟩
          · rw [if_neg c5] at H
            have c5b0 : ((rdOf false l0 x5_1) != ((Int.tmod x1_1 3) == 0)) = false := by simpa using c5
            (try (have c5b1 : decide ((rdOf false l0 x5_1) = ((Int.tmod x1_1 3) == 0)) = true := by simpa using c5))
            (try (have c5b2 : ((rdOf false l0 x5_1) == ((Int.tmod x1_1 3) == 0)) = true := by simpa using c5))
            clear c5
            have H' := Aside0.mk H
            clear H
            have p160 : 0 ≤ (x5_1 : Int) := of_decide_eq_true (by first | (with_reducible assumption) | assumption)
            have q160 : x5_1 < (l0.length : Int) := of_decide_eq_true (by first | (with_reducible assumption) | assumption)
            obtain ⟨ad160, e160, hx160_0⟩ := Kd.at_bool HR0.out x5_1 p160 q160
            cases e160
            replace p160 := eq_true p160
            replace q160 := eq_true q160
            go_wp2
            go_roundg k1
            case measure => have := HK1.out; omega
            case rel => exact ⟨(wrap64 (x1_1 + 1)), (wrap64 (x5_1 + 1)), (by first | rfl | (simp; done) | (simp [*]; done)), (by first | rfl | (simp; done) | (simp [*]; done)), H', ⟨by have := HK1.out; omega⟩, by repeat (first | exact Drawn0.refl _ | apply Drawn0.step)⟩
        · rw [if_neg c4] at H
          exact absurd H (by simp)
      · rw [if_neg c3] at H
        have c3b0 : decide (x5_1 < (l0.length : Int)) = false := decide_eq_false c3
        clear c3
        obtain rfl := Option.some.inj H
        go_wp2
        go_ret
        exact ⟨by first | rfl | (simp; done) | (simp [*]; done), by repeat (first | exact Drawn0.refl _ | apply Drawn0.step)⟩

/-! ### laws_FnExactLogicTable: function 7 -/
def laws_FnExactLogicTable.j0 : Nat → List (S71) → Int → List Bool → List Bool → Bool → Option (Bool)
  | 0, _, _, _, _, _ => none
  | k + 1, x0, x1, x6, x8, x46 => if x46 = true then (none) else ((laws_markBoolS.f k x8 1).bind fun bt182 => ((laws_heldBoolS.f k bt182.2 1).bind fun t184 => (if t184 < 0 then (none) else (if t184 = bt182.1 then ((laws_toNodeS.f k x0).bind fun t185 => ((impl_LogicTable.f k t185 x1).bind fun t188 => ((laws_eqBoolS.f k t188 x6).bind fun t191 => (if t191 = true then ((laws_heldBoolS.f k bt182.2 1).bind fun t192 => (if t192 < 0 then (none) else (if t192 = bt182.1 then (some true) else (none)))) else (none))))) else (none)))))
def laws_FnExactLogicTable.f (k : Nat) (l0 : List (S71)) (a1 : Int) : Option (Bool) := (laws_szNodeS.f l0 1048576).bind fun t161 => (if t161 < 0 then (some true) else ((laws_toNodeS.f k l0).bind fun t162 => ((spec_LogicTable.f k t162 a1).bind fun t165 => ((laws_toNodeS.f k l0).bind fun t168 => ((impl_LogicTable.f k t168 a1).bind fun t171 => ((laws_eqBoolS.f k t171 t165).bind fun t174 => (if t174 = true then ((laws_toNodeS.f k l0).bind fun t175 => ((laws_eqNodeS.f k t168 t175).bind fun t178 => (if t178 = true then ((laws_markNodeS.f k t168 1).bind fun bt179 => (if bt179.1 < 0 then (laws_FnExactLogicTable.j0 k l0 a1 t165 t171 true) else ((laws_eqBoolS.f k t171 t165).bind fun t181 => (laws_FnExactLogicTable.j0 k l0 a1 t165 t171 (!t181))))) else (none)))) else (none))))))))
theorem laws_FnExactLogicTable.mono_l : ∀ k, (∀ y0 y1 y2 y3 y4, LeO (laws_FnExactLogicTable.j0 k y0 y1 y2 y3 y4) (laws_FnExactLogicTable.j0 (k + 1) y0 y1 y2 y3 y4))
  | 0 => fun _ _ _ _ _ r h => by simp [laws_FnExactLogicTable.j0] at h
  | k + 1 => by
    have ih0 := laws_FnExactLogicTable.mono_l k
    · intro y0 y1 y2 y3 y4
      unfold laws_FnExactLogicTable.j0
      repeat' first
      | (with_reducible exact ih0 _ _ _ _ _)
      | (with_reducible exact impl_LogicTable.mono _ _ _)
      | (with_reducible exact laws_eqBoolS.mono _ _ _)
      | (with_reducible exact laws_eqNodeS.mono _ _ _)
      | (with_reducible exact laws_heldBoolS.mono _ _ _)
      | (with_reducible exact laws_markBoolS.mono _ _ _)
      | (with_reducible exact laws_markNodeS.mono _ _ _)
      | (with_reducible exact laws_toNodeS.mono _ _)
      | (with_reducible exact spec_LogicTable.mono _ _ _)
      | (with_reducible exact LeO.refl _)
      | (with_reducible exact LeO.none _)
      | (with_reducible refine LeO.ite ?_ ?_)
      | (with_reducible refine LeO.bind ?_ (fun _ => ?_))
      | exact ih0 _ _ _ _ _
      | exact impl_LogicTable.mono _ _ _
      | exact laws_eqBoolS.mono _ _ _
      | exact laws_eqNodeS.mono _ _ _
      | exact laws_heldBoolS.mono _ _ _
      | exact laws_markBoolS.mono _ _ _
      | exact laws_markNodeS.mono _ _ _
      | exact laws_toNodeS.mono _ _
      | exact spec_LogicTable.mono _ _ _
      | exact LeO.none _
      | refine LeO.ite ?_ ?_
      | refine LeO.bind ?_ (fun _ => ?_)
theorem laws_FnExactLogicTable.mono : ∀ a0 a1 k, LeO (laws_FnExactLogicTable.f k a0 a1) (laws_FnExactLogicTable.f (k + 1) a0 a1) := by
  intro a0 a1 k
  have ih0 := laws_FnExactLogicTable.mono_l k
  unfold laws_FnExactLogicTable.f
  repeat' first
      | (with_reducible exact ih0 _ _ _ _ _)
      | (with_reducible exact impl_LogicTable.mono _ _ _)
      | (with_reducible exact laws_eqBoolS.mono _ _ _)
      | (with_reducible exact laws_eqNodeS.mono _ _ _)
      | (with_reducible exact laws_heldBoolS.mono _ _ _)
      | (with_reducible exact laws_markBoolS.mono _ _ _)
      | (with_reducible exact laws_markNodeS.mono _ _ _)
      | (with_reducible exact laws_toNodeS.mono _ _)
      | (with_reducible exact spec_LogicTable.mono _ _ _)
      | (with_reducible exact LeO.refl _)
      | (with_reducible exact LeO.none _)
      | (with_reducible refine LeO.ite ?_ ?_)
      | (with_reducible refine LeO.bind ?_ (fun _ => ?_))
      | exact ih0 _ _ _ _ _
      | exact impl_LogicTable.mono _ _ _
      | exact laws_eqBoolS.mono _ _ _
      | exact laws_eqNodeS.mono _ _ _
      | exact laws_heldBoolS.mono _ _ _
      | exact laws_markBoolS.mono _ _ _
      | exact laws_markNodeS.mono _ _ _
      | exact laws_toNodeS.mono _ _
      | exact spec_LogicTable.mono _ _ _
      | exact LeO.none _
      | refine LeO.ite ?_ ?_
      | refine LeO.bind ?_ (fun _ => ?_)
set_option maxHeartbeats 8000000 in
set_option maxRecDepth 100000 in
theorem laws_FnExactLogicTable.calls (k : Nat) (A0 : Option Addr) (c0 : Nat) (l0 : List (S71)) (a1 : Int) (r : Bool) (w : World) (hr0 : Kd.C k71 w A0 l0.length l0) (hc0 : l0.length ≤ c0) (h : laws_FnExactLogicTable.f k l0 a1 = some r) :
    Calls Try.prog 7 #[.slice A0 l0.length c0, .int .i64 a1] w fun e w' => e = .returned (.bool r) ∧ Below w.heap.size w w' := by
  have HR0 := Aside0.mk hr0
  have HC0 := Aside0.mk hc0
  clear hr0 hc0
  have HB := Aside0.mk (Below.refl w.heap.size w)
  have H : ((laws_szNodeS.f l0 1048576).bind fun t161 => (if t161 < 0 then (some true) else ((laws_toNodeS.f k l0).bind fun t162 => ((spec_LogicTable.f k t162 a1).bind fun t165 => ((laws_toNodeS.f k l0).bind fun t168 => ((impl_LogicTable.f k t168 a1).bind fun t171 => ((laws_eqBoolS.f k t171 t165).bind fun t174 => (if t174 = true then ((laws_toNodeS.f k l0).bind fun t175 => ((laws_eqNodeS.f k t168 t175).bind fun t178 => (if t178 = true then ((laws_markNodeS.f k t168 1).bind fun bt179 => (if bt179.1 < 0 then (laws_FnExactLogicTable.j0 k l0 a1 t165 t171 true) else ((laws_eqBoolS.f k t171 t165).bind fun t181 => (laws_FnExactLogicTable.j0 k l0 a1 t165 t171 (!t181))))) else (none)))) else (none))))))))) = some r := h
  clear h
  replace H := Option.bind_eq_some_iff.mp H
  obtain ⟨t161, A30, H⟩ := H
  replace H : (if t161 < 0 then (some true) else ((laws_toNodeS.f k l0).bind fun t162 => ((spec_LogicTable.f k t162 a1).bind fun t165 => ((laws_toNodeS.f k l0).bind fun t168 => ((impl_LogicTable.f k t168 a1).bind fun t171 => ((laws_eqBoolS.f k t171 t165).bind fun t174 => (if t174 = true then ((laws_toNodeS.f k l0).bind fun t175 => ((laws_eqNodeS.f k t168 t175).bind fun t178 => (if t178 = true then ((laws_markNodeS.f k t168 1).bind fun bt179 => (if bt179.1 < 0 then (laws_FnExactLogicTable.j0 k l0 a1 t165 t171 true) else ((laws_eqBoolS.f k t171 t165).bind fun t181 => (laws_FnExactLogicTable.j0 k l0 a1 t165 t171 (!t181))))) else (none)))) else (none)))))))) = some r := H
  have A3 := Aside0.mk A30
  clear A30
  by_cases c4 : t161 < 0
  · rw [if_pos c4] at H
    have c4b0 : decide (t161 < 0) = true := decide_eq_true c4
    clear c4
    obtain rfl := Option.some.inj H
    go_enter Try.func7, Try.ntmps7
    go_wp2_with (first | ((with_reducible refine gate_callee (f := 20) rfl ?_); refine goesL_ (some 15) rfl rfl Try.func20 (by kernel_rfl) rfl #[.slice A0 l0.length c0, .int .i64 1048576] rfl (by (try simp only [List.map_toArray, List.map_cons, List.map_nil]); first | done | rfl | (simp only [List.length_drop, List.length_take]; rfl)) ?_; (with_reducible refine (laws_szNodeS.calls _ _ l0 1048576 t161 _ ?side1 ?side2 A3.out).mono ?_); (case side1 => repeat (first | exact HR0.out | (with_reducible refine Kd.C_alloc ?_ _) | (with_reducible refine Kd.C_drewN ?_ _) | (with_reducible refine Kd.C_drew ?_))); (case side2 => exact HC0.out); rintro e w' ⟨rfl, ⟨nd, rfl⟩⟩; refine ⟨_, rfl, ?_⟩))
    go_ret
    exact ⟨by first | rfl | (simp [errW_none, errW_some] <;> rfl) | (simp [*, errW_none, errW_some] <;> rfl), by repeat (first | (with_reducible first | exact HB.out | apply below_alloc | apply pw_below_drewN | apply below_drew1) | exact HB.out)⟩
  · rw [if_neg c4] at H
    have c4b0 : decide (t161 < 0) = false := decide_eq_false c4
    clear c4
    replace H := Option.bind_eq_some_iff.mp H
    obtain ⟨t162, A50, H⟩ := H
    replace H : ((spec_LogicTable.f k t162 a1).bind fun t165 => ((laws_toNodeS.f k l0).bind fun t168 => ((impl_LogicTable.f k t168 a1).bind fun t171 => ((laws_eqBoolS.f k t171 t165).bind fun t174 => (if t174 = true then ((laws_toNodeS.f k l0).bind fun t175 => ((laws_eqNodeS.f k t168 t175).bind fun t178 => (if t178 = true then ((laws_markNodeS.f k t168 1).bind fun bt179 => (if bt179.1 < 0 then (laws_FnExactLogicTable.j0 k l0 a1 t165 t171 true) else ((laws_eqBoolS.f k t171 t165).bind fun t181 => (laws_FnExactLogicTable.j0 k l0 a1 t165 t171 (!t181))))) else (none)))) else (none)))))) = some r := H
    have A5 := Aside0.mk A50
    clear A50
    replace H := Option.bind_eq_some_iff.mp H
    obtain ⟨t165, A60, H⟩ := H
    replace H : ((laws_toNodeS.f k l0).bind fun t168 => ((impl_LogicTable.f k t168 a1).bind fun t171 => ((laws_eqBoolS.f k t171 t165).bind fun t174 => (if t174 = true then ((laws_toNodeS.f k l0).bind fun t175 => ((laws_eqNodeS.f k t168 t175).bind fun t178 => (if t178 = true then ((laws_markNodeS.f k t168 1).bind fun bt179 => (if bt179.1 < 0 then (laws_FnExactLogicTable.j0 k l0 a1 t165 t171 true) else ((laws_eqBoolS.f k t171 t165).bind fun t181 => (laws_FnExactLogicTable.j0 k l0 a1 t165 t171 (!t181))))) else (none)))) else (none))))) = some r := H
    have A6 := Aside0.mk A60
    clear A60
    replace H := Option.bind_eq_some_iff.mp H
    obtain ⟨t168, A70, H⟩ := H
    replace H : ((impl_LogicTable.f k t168 a1).bind fun t171 => ((laws_eqBoolS.f k t171 t165).bind fun t174 => (if t174 = true then ((laws_toNodeS.f k l0).bind fun t175 => ((laws_eqNodeS.f k t168 t175).bind fun t178 => (if t178 = true then ((laws_markNodeS.f k t168 1).bind fun bt179 => (if bt179.1 < 0 then (laws_FnExactLogicTable.j0 k l0 a1 t165 t171 true) else ((laws_eqBoolS.f k t171 t165).bind fun t181 => (laws_FnExactLogicTable.j0 k l0 a1 t165 t171 (!t181))))) else (none)))) else (none)))) = some r := H
    have A7 := Aside0.mk A70
    clear A70
    replace H := Option.bind_eq_some_iff.mp H
    obtain ⟨t171, A80, H⟩ := H
    replace H : ((laws_eqBoolS.f k t171 t165).bind fun t174 => (if t174 = true then ((laws_toNodeS.f k l0).bind fun t175 => ((laws_eqNodeS.f k t168 t175).bind fun t178 => (if t178 = true then ((laws_markNodeS.f k t168 1).bind fun bt179 => (if bt179.1 < 0 then (laws_FnExactLogicTable.j0 k l0 a1 t165 t171 true) else ((laws_eqBoolS.f k t171 t165).bind fun t181 => (laws_FnExactLogicTable.j0 k l0 a1 t165 t171 (!t181))))) else (none)))) else (none))) = some r := H
    have A8 := Aside0.mk A80
    clear A80
    replace H := Option.bind_eq_some_iff.mp H
    obtain ⟨t174, A90, H⟩ := H
    replace H : (if t174 = true then ((laws_toNodeS.f k l0).bind fun t175 => ((laws_eqNodeS.f k t168 t175).bind fun t178 => (if t178 = true then ((laws_markNodeS.f k t168 1).bind fun bt179 => (if bt179.1 < 0 then (laws_FnExactLogicTable.j0 k l0 a1 t165 t171 true) else ((laws_eqBoolS.f k t171 t165).bind fun t181 => (laws_FnExactLogicTable.j0 k l0 a1 t165 t171 (!t181))))) else (none)))) else (none)) = some r := H
    have A9 := Aside0.mk A90
    clear A90
    by_cases c10 : t174 = true
    · subst c10
      have H1 : ((laws_toNodeS.f k l0).bind fun t175 => ((laws_eqNodeS.f k t168 t175).bind fun t178 => (if t178 = true then ((laws_markNodeS.f k t168 1).bind fun bt179 => (if bt179.1 < 0 then (laws_FnExactLogicTable.j0 k l0 a1 t165 t171 true) else ((laws_eqBoolS.f k t171 t165).bind fun t181 => (laws_FnExactLogicTable.j0 k l0 a1 t165 t171 (!t181))))) else (none)))) = some r := by rw [if_pos rfl] at H; exact H
      clear H
      have H := H1
      clear H1
      replace H := Option.bind_eq_some_iff.mp H
      obtain ⟨t175, A110, H⟩ := H
      replace H : ((laws_eqNodeS.f k t168 t175).bind fun t178 => (if t178 = true then ((laws_markNodeS.f k t168 1).bind fun bt179 => (if bt179.1 < 0 then (laws_FnExactLogicTable.j0 k l0 a1 t165 t171 true) else ((laws_eqBoolS.f k t171 t165).bind fun t181 => (laws_FnExactLogicTable.j0 k l0 a1 t165 t171 (!t181))))) else (none))) = some r := H
      have A11 := Aside0.mk A110
      clear A110
      replace H := Option.bind_eq_some_iff.mp H
      obtain ⟨t178, A120, H⟩ := H
      replace H : (if t178 = true then ((laws_markNodeS.f k t168 1).bind fun bt179 => (if bt179.1 < 0 then (laws_FnExactLogicTable.j0 k l0 a1 t165 t171 true) else ((laws_eqBoolS.f k t171 t165).bind fun t181 => (laws_FnExactLogicTable.j0 k l0 a1 t165 t171 (!t181))))) else (none)) = some r := H
      have A12 := Aside0.mk A120
      clear A120
      by_cases c13 : t178 = true
      · subst c13
        have H1 : ((laws_markNodeS.f k t168 1).bind fun bt179 => (if bt179.1 < 0 then (laws_FnExactLogicTable.j0 k l0 a1 t165 t171 true) else ((laws_eqBoolS.f k t171 t165).bind fun t181 => (laws_FnExactLogicTable.j0 k l0 a1 t165 t171 (!t181))))) = some r := by rw [if_pos rfl] at H; exact H
        clear H
        have H := H1
        clear H1
        replace H := Option.bind_eq_some_iff.mp H
        obtain ⟨⟨t179, t180⟩, A140, H⟩ := H
        replace H : (if t179 < 0 then (laws_FnExactLogicTable.j0 k l0 a1 t165 t171 true) else ((laws_eqBoolS.f k t171 t165).bind fun t181 => (laws_FnExactLogicTable.j0 k l0 a1 t165 t171 (!t181)))) = some r := H
        have A14 := Aside0.mk A140
        clear A140
        have HC15 := Aside0.mk H
        clear H
        go_enter Try.func7, Try.ntmps7
        go_upto_region 14 with (first | ((with_reducible refine gate_callee (f := 20) rfl ?_); refine goesL_ (some 15) rfl rfl Try.func20 (by kernel_rfl) rfl #[.slice A0 l0.length c0, .int .i64 1048576] rfl (by (try simp only [List.map_toArray, List.map_cons, List.map_nil]); first | done | rfl | (simp only [List.length_drop, List.length_take]; rfl)) ?_; (with_reducible refine (laws_szNodeS.calls _ _ l0 1048576 t161 _ ?side1 ?side2 A3.out).mono ?_); (case side1 => repeat (first | exact HR0.out | (with_reducible refine Kd.C_alloc ?_ _) | (with_reducible refine Kd.C_drewN ?_ _) | (with_reducible refine Kd.C_drew ?_))); (case side2 => exact HC0.out); rintro e w' ⟨rfl, ⟨nd, rfl⟩⟩; refine ⟨_, rfl, ?_⟩) | ((with_reducible refine gate_callee (f := 22) rfl ?_); refine goesL_ (some 19) rfl rfl Try.func22 (by kernel_rfl) rfl #[.slice A0 l0.length c0] rfl (by (try simp only [List.map_toArray, List.map_cons, List.map_nil]); first | done | rfl | (simp only [List.length_drop, List.length_take]; rfl)) ?_; (with_reducible refine (laws_toNodeS.calls k _ _ l0 t162 _ ?side1 ?side2 A5.out).mono ?_); (case side1 => repeat (first | exact HR0.out | (with_reducible refine Kd.C_alloc ?_ _) | (with_reducible refine Kd.C_drewN ?_ _) | (with_reducible refine Kd.C_drew ?_))); (case side2 => exact HC0.out); rintro e w16 ⟨v163, rfl, ho0, hb⟩; refine ⟨_, rfl, ?_⟩; have n0_ := Aside0.mk (Kd.R_lower ho0 (below_size (by repeat (first | (with_reducible first | exact HB.out | apply below_alloc | apply pw_below_drewN | apply below_drew1) | exact HB.out)))); have n1_ := Aside0.mk (below_step (by repeat (first | (with_reducible first | exact HB.out | apply below_alloc | apply pw_below_drewN | apply below_drew1) | exact HB.out)) hb); clear HB; have HO164 := n0_; have HB := n1_; clear n0_ n1_; (try clear hb); (try clear hb2); (try clear hk); (try clear hi); (try clear ho0); obtain ⟨Ao17, co17, eo17⟩ := Kd.R_slice HO164.out; subst eo17) | ((with_reducible refine gate_callee (f := 27) rfl ?_); refine goesL_ (some 21) rfl rfl Try.func27 (by kernel_rfl) rfl #[.slice Ao17 t162.length co17, .int .i64 a1] rfl (by (try simp only [List.map_toArray, List.map_cons, List.map_nil]); first | done | rfl | (simp only [List.length_drop, List.length_take]; rfl)) ?_; (with_reducible refine (spec_LogicTable.calls k _ _ t162 a1 t165 _ ?side1 ?side2 A6.out).mono ?_); (case side1 => repeat (first | exact (Kd.R_reads' HO164.out).2.2 | (with_reducible refine Kd.C_alloc ?_ _) | (with_reducible refine Kd.C_drewN ?_ _) | (with_reducible refine Kd.C_drew ?_))); (case side2 => exact (Kd.R_reads' HO164.out).2.1); rintro e w18 ⟨v166, rfl, ho0, hb⟩; refine ⟨_, rfl, ?_⟩; have n0_ := Aside0.mk (Kd.R_below (by (with_reducible repeat (first | apply Kd.R_alloc | apply Kd.R_drewN | apply Kd.R_drew)); exact HO164.out) hb); have n1_ := Aside0.mk (Kd.R_lower ho0 (below_size (by repeat (first | (with_reducible first | exact HB.out | apply below_alloc | apply pw_below_drewN | apply below_drew1) | exact HB.out)))); have n2_ := Aside0.mk (below_step (by repeat (first | (with_reducible first | exact HB.out | apply below_alloc | apply pw_below_drewN | apply below_drew1) | exact HB.out)) hb); clear HO164; clear HB; have HO164 := n0_; have HO167 := n1_; have HB := n2_; clear n0_ n1_ n2_; (try clear hb); (try clear hb2); (try clear hk); (try clear hi); (try clear ho0)) | ((with_reducible refine gate_callee (f := 22) rfl ?_); refine goesL_ (some 23) rfl rfl Try.func22 (by kernel_rfl) rfl #[.slice A0 l0.length c0] rfl (by (try simp only [List.map_toArray, List.map_cons, List.map_nil]); first | done | rfl | (simp only [List.length_drop, List.length_take]; rfl)) ?_; (with_reducible refine (laws_toNodeS.calls k _ _ l0 t168 _ ?side1 ?side2 A7.out).mono ?_); (case side1 => repeat (first | exact (Kd.C_below HR0.out HB.out) | (with_reducible refine Kd.C_alloc ?_ _) | (with_reducible refine Kd.C_drewN ?_ _) | (with_reducible refine Kd.C_drew ?_))); (case side2 => exact HC0.out); rintro e w19 ⟨v169, rfl, ho0, hb⟩; refine ⟨_, rfl, ?_⟩; have n0_ := Aside0.mk (Kd.R_elder' (by (with_reducible repeat (first | apply Kd.R_alloc | apply Kd.R_drewN | apply Kd.R_drew)); exact HO164.out) (Kd.R_base ho0) hb); have n1_ := Aside0.mk (Kd.R_below (by (with_reducible repeat (first | apply Kd.R_alloc | apply Kd.R_drewN | apply Kd.R_drew)); exact HO167.out) hb); have n2_ := Aside0.mk (Kd.R_lower (Kd.R_new' ho0 (Kd.R_lt (by (with_reducible repeat (first | apply Kd.R_alloc | apply Kd.R_drewN | apply Kd.R_drew)); exact HO164.out))) (below_size (by repeat (first | (with_reducible first | exact HB.out | apply below_alloc | apply pw_below_drewN | apply below_drew1) | exact HB.out)))); have n3_ := Aside0.mk (below_step (by repeat (first | (with_reducible first | exact HB.out | apply below_alloc | apply pw_below_drewN | apply below_drew1) | exact HB.out)) hb); clear HO164; clear HO167; clear HB; have HO164 := n0_; have HO167 := n1_; have HO170 := n2_; have HB := n3_; clear n0_ n1_ n2_ n3_; (try clear hb); (try clear hb2); (try clear hk); (try clear hi); (try clear ho0); obtain ⟨Ao20, co20, eo20⟩ := Kd.R_slice HO170.out; subst eo20) | ((with_reducible refine gate_callee (f := 28) rfl ?_); refine goesL_ (some 26) rfl rfl Try.func28 (by kernel_rfl) rfl #[.slice Ao20 t168.length co20, .int .i64 a1] rfl (by (try simp only [List.map_toArray, List.map_cons, List.map_nil]); first | done | rfl | (simp only [List.length_drop, List.length_take]; rfl)) ?_; (with_reducible refine (impl_LogicTable.calls k _ _ t168 a1 t171 _ ?side1 ?side2 A8.out).mono ?_); (case side1 => repeat (first | exact (Kd.R_reads' HO170.out).2.2 | (with_reducible refine Kd.C_alloc ?_ _) | (with_reducible refine Kd.C_drewN ?_ _) | (with_reducible refine Kd.C_drew ?_))); (case side2 => exact (Kd.R_reads' HO170.out).2.1); rintro e w21 ⟨v172, rfl, ho0, hb⟩; refine ⟨_, rfl, ?_⟩; have n0_ := Aside0.mk (Kd.R_below (by (with_reducible repeat (first | apply Kd.R_alloc | apply Kd.R_drewN | apply Kd.R_drew)); exact HO164.out) hb); have n1_ := Aside0.mk (Kd.R_elder' (by (with_reducible repeat (first | apply Kd.R_alloc | apply Kd.R_drewN | apply Kd.R_drew)); exact HO167.out) (Kd.R_base ho0) hb); have n2_ := Aside0.mk (Kd.R_below (by (with_reducible repeat (first | apply Kd.R_alloc | apply Kd.R_drewN | apply Kd.R_drew)); exact HO170.out) hb); have n3_ := Aside0.mk (Kd.R_lower (Kd.R_new' ho0 (Kd.R_lt (by (with_reducible repeat (first | apply Kd.R_alloc | apply Kd.R_drewN | apply Kd.R_drew)); exact HO167.out))) (below_size (by repeat (first | (with_reducible first | exact HB.out | apply below_alloc | apply pw_below_drewN | apply below_drew1) | exact HB.out)))); have n4_ := Aside0.mk (below_step (by repeat (first | (with_reducible first | exact HB.out | apply below_alloc | apply pw_below_drewN | apply below_drew1) | exact HB.out)) hb); clear HO164; clear HO167; clear HO170; clear HB; have HO164 := n0_; have HO167 := n1_; have HO170 := n2_; have HO173 := n3_; have HB := n4_; clear n0_ n1_ n2_ n3_ n4_; (try clear hb); (try clear hb2); (try clear hk); (try clear hi); (try clear ho0); obtain ⟨Ao22, co22, eo22⟩ := Kd.R_slice HO173.out; subst eo22; obtain ⟨Ao23, co23, eo23⟩ := Kd.R_slice HO167.out; subst eo23) | ((with_reducible refine gate_callee (f := 29) rfl ?_); refine goesL_ (some 29) rfl rfl Try.func29 (by kernel_rfl) rfl #[.slice Ao22 t171.length co22, .slice Ao23 t165.length co23] rfl (by (try simp only [List.map_toArray, List.map_cons, List.map_nil]); first | done | rfl | (simp only [List.length_drop, List.length_take]; rfl)) ?_; (with_reducible refine (laws_eqBoolS.calls k _ _ t171 _ _ t165 true _ ?side1 ?side2 ?side3 ?side4 A9.out).mono ?_); (case side1 => repeat (first | exact (Kd.R_reads' HO173.out).2.2 | (with_reducible refine Kd.C_alloc ?_ _) | (with_reducible refine Kd.C_drewN ?_ _) | (with_reducible refine Kd.C_drew ?_))); (case side2 => exact (Kd.R_reads' HO173.out).2.1); (case side3 => repeat (first | exact (Kd.R_reads' HO167.out).2.2 | (with_reducible refine Kd.C_alloc ?_ _) | (with_reducible refine Kd.C_drewN ?_ _) | (with_reducible refine Kd.C_drew ?_))); (case side4 => exact (Kd.R_reads' HO167.out).2.1); rintro e w' ⟨rfl, ⟨nd, rfl⟩⟩; refine ⟨_, rfl, ?_⟩) | ((with_reducible refine gate_callee (f := 22) rfl ?_); refine goesL_ (some 33) rfl rfl Try.func22 (by kernel_rfl) rfl #[.slice A0 l0.length c0] rfl (by (try simp only [List.map_toArray, List.map_cons, List.map_nil]); first | done | rfl | (simp only [List.length_drop, List.length_take]; rfl)) ?_; (with_reducible refine (laws_toNodeS.calls k _ _ l0 t175 _ ?side1 ?side2 A11.out).mono ?_); (case side1 => repeat (first | exact (Kd.C_below HR0.out (by repeat (first | (with_reducible first | exact HB.out | apply below_alloc | apply pw_below_drewN | apply below_drew1) | exact HB.out))) | (with_reducible refine Kd.C_alloc ?_ _) | (with_reducible refine Kd.C_drewN ?_ _) | (with_reducible refine Kd.C_drew ?_))); (case side2 => exact HC0.out); rintro e w24 ⟨v176, rfl, ho0, hb⟩; refine ⟨_, rfl, ?_⟩; have n0_ := Aside0.mk (Kd.R_elder' (by (with_reducible repeat (first | apply Kd.R_alloc | apply Kd.R_drewN | apply Kd.R_drew)); exact HO164.out) (Kd.R_base ho0) hb); have n1_ := Aside0.mk (Kd.R_below (by (with_reducible repeat (first | apply Kd.R_alloc | apply Kd.R_drewN | apply Kd.R_drew)); exact HO167.out) hb); have n2_ := Aside0.mk (Kd.R_elder' (by (with_reducible repeat (first | apply Kd.R_alloc | apply Kd.R_drewN | apply Kd.R_drew)); exact HO170.out) (Kd.R_base ho0) hb); have n3_ := Aside0.mk (Kd.R_below (by (with_reducible repeat (first | apply Kd.R_alloc | apply Kd.R_drewN | apply Kd.R_drew)); exact HO173.out) hb); have n4_ := Aside0.mk (Kd.R_lower (Kd.R_new' (Kd.R_new' ho0 (Kd.R_lt (by (with_reducible repeat (first | apply Kd.R_alloc | apply Kd.R_drewN | apply Kd.R_drew)); exact HO164.out))) (Kd.R_lt (by (with_reducible repeat (first | apply Kd.R_alloc | apply Kd.R_drewN | apply Kd.R_drew)); exact HO170.out))) (below_size (by repeat (first | (with_reducible first | exact HB.out | apply below_alloc | apply pw_below_drewN | apply below_drew1) | exact HB.out)))); have n5_ := Aside0.mk (below_step (by repeat (first | (with_reducible first | exact HB.out | apply below_alloc | apply pw_below_drewN | apply below_drew1) | exact HB.out)) hb); clear HO164; clear HO167; clear HO170; clear HO173; clear HB; have HO164 := n0_; have HO167 := n1_; have HO170 := n2_; have HO173 := n3_; have HO177 := n4_; have HB := n5_; clear n0_ n1_ n2_ n3_ n4_ n5_; (try clear hb); (try clear hb2); (try clear hk); (try clear hi); (try clear ho0); obtain ⟨Ao25, co25, eo25⟩ := Kd.R_slice HO177.out; subst eo25) | ((with_reducible refine gate_callee (f := 24) rfl ?_); refine goesL_ (some 34) rfl rfl Try.func24 (by kernel_rfl) rfl #[.slice Ao20 t168.length co20, .slice Ao25 t175.length co25] rfl (by (try simp only [List.map_toArray, List.map_cons, List.map_nil]); first | done | rfl | (simp only [List.length_drop, List.length_take]; rfl)) ?_; (with_reducible refine (laws_eqNodeS.calls k _ _ t168 _ _ t175 true _ ?side1 ?side2 ?side3 ?side4 A12.out).mono ?_); (case side1 => repeat (first | exact (Kd.R_reads' HO170.out).2.2 | (with_reducible refine Kd.C_alloc ?_ _) | (with_reducible refine Kd.C_drewN ?_ _) | (with_reducible refine Kd.C_drew ?_))); (case side2 => exact (Kd.R_reads' HO170.out).2.1); (case side3 => repeat (first | exact (Kd.R_reads' HO177.out).2.2 | (with_reducible refine Kd.C_alloc ?_ _) | (with_reducible refine Kd.C_drewN ?_ _) | (with_reducible refine Kd.C_drew ?_))); (case side4 => exact (Kd.R_reads' HO177.out).2.1); rintro e w26 ⟨rfl, hb⟩; refine ⟨_, rfl, ?_⟩; have n0_ := Aside0.mk (Kd.R_below (by (with_reducible repeat (first | apply Kd.R_alloc | apply Kd.R_drewN | apply Kd.R_drew)); exact HO164.out) hb); have n1_ := Aside0.mk (Kd.R_below (by (with_reducible repeat (first | apply Kd.R_alloc | apply Kd.R_drewN | apply Kd.R_drew)); exact HO167.out) hb); have n2_ := Aside0.mk (Kd.R_below (by (with_reducible repeat (first | apply Kd.R_alloc | apply Kd.R_drewN | apply Kd.R_drew)); exact HO170.out) hb); have n3_ := Aside0.mk (Kd.R_below (by (with_reducible repeat (first | apply Kd.R_alloc | apply Kd.R_drewN | apply Kd.R_drew)); exact HO173.out) hb); have n4_ := Aside0.mk (Kd.R_below (by (with_reducible repeat (first | apply Kd.R_alloc | apply Kd.R_drewN | apply Kd.R_drew)); exact HO177.out) hb); have n5_ := Aside0.mk (below_step (by repeat (first | (with_reducible first | exact HB.out | apply below_alloc | apply pw_below_drewN | apply below_drew1) | exact HB.out)) hb); clear HO164; clear HO167; clear HO170; clear HO173; clear HO177; clear HB; have HO164 := n0_; have HO167 := n1_; have HO170 := n2_; have HO173 := n3_; have HO177 := n4_; have HB := n5_; clear n0_ n1_ n2_ n3_ n4_ n5_; (try clear hb); (try clear hb2); (try clear hk); (try clear hi)) | ((with_reducible refine gate_callee (f := 30) rfl ?_); refine goesL_ (some 38) rfl rfl Try.func30 (by kernel_rfl) rfl #[.slice Ao20 t168.length co20, .int .i64 1] rfl (by (try simp only [List.map_toArray, List.map_cons, List.map_nil]); first | done | rfl | (simp only [List.length_drop, List.length_take]; rfl)) ?_; (with_reducible refine (laws_markNodeS.calls k (fun k_ => some k_ = (.slice Ao20 t168.length co20 : Value).ownBlock) (.slice Ao20 t168.length co20) t168 1 t179 t180 w _ ?side1 ?side2 A14.out).mono ?_); (case side1 => repeat (first | (with_reducible first | exact HB.out | apply below_alloc | apply pw_below_drewN | apply below_drew1) | exact HB.out)); (case side2 => exact Kd.Q_tight rfl (Kd.Q_of_R (HO170.out))); rintro e w27 ⟨rfl, hy0, hb, hkp⟩; refine ⟨_, rfl, ?_⟩; have n0_ := Aside0.mk (Kd.R_mono (ok' := fun k_ => some k_ ≠ (.slice Ao20 t168.length co20 : Value).ownBlock ∧ some k_ ≠ (.slice Ao25 t175.length co25 : Value).ownBlock) (Kd.R_keptB (HO164.out) hkp (fun k_ hk_ hs_ => (hk_.1.2) hs_)) (fun k_ hk_ => ⟨hk_.1.1.2, hk_.1.2⟩)); have n1_ := Aside0.mk (Kd.R_mono (ok' := fun k_ => some k_ ≠ (.slice Ao22 t171.length co22 : Value).ownBlock) (Kd.R_keptB ((Kd.R_apart' HO167.out (Kd.R_typed HO170.out) (by decide))) hkp (fun k_ hk_ hs_ => (hk_.2) hs_)) (fun k_ hk_ => hk_.1.1.2)); have n2_ := Aside0.mk (Kd.Q_reok rfl hy0 (fun k_ e_ => HO170.out.1 k_ e_)); have n3_ := Aside0.mk (Kd.R_mono (ok' := fun k_ => some k_ ≠ (.slice Ao23 t165.length co23 : Value).ownBlock) (Kd.R_keptB ((Kd.R_apart' HO173.out (Kd.R_typed HO170.out) (by decide))) hkp (fun k_ hk_ hs_ => (hk_.2) hs_)) (fun k_ hk_ => hk_.1.1.2)); have n4_ := Aside0.mk (Kd.R_mono (ok' := fun k_ => some k_ ≠ (.slice Ao17 t162.length co17 : Value).ownBlock ∧ some k_ ≠ (.slice Ao20 t168.length co20 : Value).ownBlock) (Kd.R_keptB (HO177.out) hkp (fun k_ hk_ hs_ => (hk_.2) hs_)) (fun k_ hk_ => ⟨hk_.1.1.2, hk_.1.2⟩)); have n5_ := Aside0.mk (hb); clear HO164; clear HO167; clear HO170; clear HO173; clear HO177; clear HB; have HO164 := n0_; have HO167 := n1_; have HO170 := n2_; have HO173 := n3_; have HO177 := n4_; have HB := n5_; clear n0_ n1_ n2_ n3_ n4_ n5_; (try clear hb); (try clear hkp); (try clear hy0)))
        (try simp only [Act.put, List.setIfInBounds_toArray, List.set_cons_zero, List.set_cons_succ])
        go_cut [46] (fun v46 wc => ∃ (kq : Nat) (x46_14 : Bool), v46 = .bool x46_14 ∧ Aside0 (laws_FnExactLogicTable.j0 kq l0 a1 t165 t171 x46_14 = some r) ∧ Aside0 (kq ≤ k) ∧ Aside0 (Kd.R Kd.bool 4 wc w.heap.size (fun k_ => some k_ ≠ ((.slice Ao22 t171.length co22) : Value).ownBlock) (.slice Ao23 t165.length co23) t165) ∧ Aside0 (Kd.R Kd.bool 4 wc w.heap.size (fun k_ => some k_ ≠ ((.slice Ao23 t165.length co23) : Value).ownBlock) (.slice Ao22 t171.length co22) t171) ∧ Aside0 (Below w.heap.size w wc))
        case first =>
          have H := HC15.out
          clear HC15
          by_cases c28 : t179 < 0
          · rw [if_pos c28] at H
            have c28b0 : decide (t179 < 0) = true := decide_eq_true c28
            clear c28
            (first | rw [c28b0] | (simp only [i64_w, i32_w]; rw [c28b0]) | skip)
            have H' := Aside0.mk H
            clear H
            go_wp2
            go_meet
            case rel => exact ⟨_, (true), (by first | rfl | (simp; done) | (simp [*]; done)), H', ⟨by first | omega | exact Nat.le_refl _⟩, ⟨by (with_reducible repeat (first | apply Kd.R_alloc | apply Kd.R_drewN | apply Kd.R_drew)); exact HO167.out⟩, ⟨by (with_reducible repeat (first | apply Kd.R_alloc | apply Kd.R_drewN | apply Kd.R_drew)); exact HO173.out⟩, ⟨by repeat (first | (with_reducible first | exact HB.out | apply below_alloc | apply pw_below_drewN | apply below_drew1) | exact HB.out)⟩⟩
          · rw [if_neg c28] at H
            have c28b0 : decide (t179 < 0) = false := decide_eq_false c28
            clear c28
            (first | rw [c28b0] | (simp only [i64_w, i32_w]; rw [c28b0]) | skip)
            replace H := Option.bind_eq_some_iff.mp H
            obtain ⟨t181, A290, H⟩ := H
            replace H : (laws_FnExactLogicTable.j0 k l0 a1 t165 t171 (!t181)) = some r := H
            have A29 := Aside0.mk A290
            clear A290
            have H' := Aside0.mk H
            clear H
            go_wp2_with (first | (go_at_call 29; (with_reducible refine (laws_eqBoolS.calls k _ _ t171 _ _ t165 t181 _ ?side1 ?side2 ?side3 ?side4 A29.out).mono ?_); (case side1 => repeat (first | exact (Kd.R_reads' HO173.out).2.2 | (with_reducible refine Kd.C_alloc ?_ _) | (with_reducible refine Kd.C_drewN ?_ _) | (with_reducible refine Kd.C_drew ?_))); (case side2 => exact (Kd.R_reads' HO173.out).2.1); (case side3 => repeat (first | exact (Kd.R_reads' HO167.out).2.2 | (with_reducible refine Kd.C_alloc ?_ _) | (with_reducible refine Kd.C_drewN ?_ _) | (with_reducible refine Kd.C_drew ?_))); (case side4 => exact (Kd.R_reads' HO167.out).2.1); rintro e w' ⟨rfl, ⟨nd, rfl⟩⟩))
            go_meet
            case rel => exact ⟨_, (!t181), (by first | rfl | (simp; done) | (simp [*]; done)), H', ⟨by first | omega | exact Nat.le_refl _⟩, ⟨by (with_reducible repeat (first | apply Kd.R_alloc | apply Kd.R_drewN | apply Kd.R_drew)); exact HO167.out⟩, ⟨by (with_reducible repeat (first | apply Kd.R_alloc | apply Kd.R_drewN | apply Kd.R_drew)); exact HO173.out⟩, ⟨by repeat (first | (with_reducible first | exact HB.out | apply below_alloc | apply pw_below_drewN | apply below_drew1) | exact HB.out)⟩⟩
        case rest =>
          clear HC15
          try clear c1
          try clear c2
          try clear p2
          try clear c3
          try clear c4
          try clear c4b0
          try clear c7
          try clear c10
          try clear c13
          try clear c20
          try clear c22
          try clear c24
          try clear c27
          try clear c28
          try clear c28b0
          try clear c29
          obtain ⟨kq, x46_14, rfl, HA, HJ14, HO_6, HO_8, HB⟩ := hcut
          cases kq with
          | zero => exact absurd HA.out (by simp [laws_FnExactLogicTable.j0])
          | succ kj14 =>
            have H := HA.out
            clear HA
            simp only [laws_FnExactLogicTable.j0] at H
            by_cases c30 : x46_14 = true
            · subst c30
              have H1 : (none) = some r := by rw [if_pos rfl] at H; exact H
              clear H
              have H := H1
              clear H1
              exact absurd H (by simp)
            · replace c30 := Bool.eq_false_iff.mpr c30
              subst c30
              have H1 : ((laws_markBoolS.f kj14 t171 1).bind fun bt182 => ((laws_heldBoolS.f kj14 bt182.2 1).bind fun t184 => (if t184 < 0 then (none) else (if t184 = bt182.1 then ((laws_toNodeS.f kj14 l0).bind fun t185 => ((impl_LogicTable.f kj14 t185 a1).bind fun t188 => ((laws_eqBoolS.f kj14 t188 t165).bind fun t191 => (if t191 = true then ((laws_heldBoolS.f kj14 bt182.2 1).bind fun t192 => (if t192 < 0 then (none) else (if t192 = bt182.1 then (some true) else (none)))) else (none))))) else (none))))) = some r := by rw [if_neg (show ¬ (false = true) by decide)] at H; exact H
              clear H
              have H := H1
              clear H1
              replace H := Option.bind_eq_some_iff.mp H
              obtain ⟨⟨t182, t183⟩, A310, H⟩ := H
              replace H : ((laws_heldBoolS.f kj14 t183 1).bind fun t184 => (if t184 < 0 then (none) else (if t184 = t182 then ((laws_toNodeS.f kj14 l0).bind fun t185 => ((impl_LogicTable.f kj14 t185 a1).bind fun t188 => ((laws_eqBoolS.f kj14 t188 t165).bind fun t191 => (if t191 = true then ((laws_heldBoolS.f kj14 t183 1).bind fun t192 => (if t192 < 0 then (none) else (if t192 = t182 then (some true) else (none)))) else (none))))) else (none)))) = some r := H
              have A31 := Aside0.mk A310
              clear A310
              replace H := Option.bind_eq_some_iff.mp H
              obtain ⟨t184, A320, H⟩ := H
              replace H : (if t184 < 0 then (none) else (if t184 = t182 then ((laws_toNodeS.f kj14 l0).bind fun t185 => ((impl_LogicTable.f kj14 t185 a1).bind fun t188 => ((laws_eqBoolS.f kj14 t188 t165).bind fun t191 => (if t191 = true then ((laws_heldBoolS.f kj14 t183 1).bind fun t192 => (if t192 < 0 then (none) else (if t192 = t182 then (some true) else (none)))) else (none))))) else (none))) = some r := H
              have A32 := Aside0.mk A320
              clear A320
              by_cases c33 : t184 < 0
              · rw [if_pos c33] at H
                exact absurd H (by simp)
              · rw [if_neg c33] at H
                have c33b0 : decide (t184 < 0) = false := decide_eq_false c33
                clear c33
                by_cases c34 : t184 = t182
                · rw [if_pos c34] at H
                  have c34b0 : (t184 == t182) = true := beq_iff_eq.mpr c34
                  have c34b1 : (t184 != t182) = false := bne_eq_false_iff_eq.mpr c34
                  clear c34
                  replace H := Option.bind_eq_some_iff.mp H
                  obtain ⟨t185, A350, H⟩ := H
                  replace H : ((impl_LogicTable.f kj14 t185 a1).bind fun t188 => ((laws_eqBoolS.f kj14 t188 t165).bind fun t191 => (if t191 = true then ((laws_heldBoolS.f kj14 t183 1).bind fun t192 => (if t192 < 0 then (none) else (if t192 = t182 then (some true) else (none)))) else (none)))) = some r := H
                  have A35 := Aside0.mk A350
                  clear A350
                  replace H := Option.bind_eq_some_iff.mp H
                  obtain ⟨t188, A360, H⟩ := H
                  replace H : ((laws_eqBoolS.f kj14 t188 t165).bind fun t191 => (if t191 = true then ((laws_heldBoolS.f kj14 t183 1).bind fun t192 => (if t192 < 0 then (none) else (if t192 = t182 then (some true) else (none)))) else (none))) = some r := H
                  have A36 := Aside0.mk A360
                  clear A360
                  replace H := Option.bind_eq_some_iff.mp H
                  obtain ⟨t191, A370, H⟩ := H
                  replace H : (if t191 = true then ((laws_heldBoolS.f kj14 t183 1).bind fun t192 => (if t192 < 0 then (none) else (if t192 = t182 then (some true) else (none)))) else (none)) = some r := H
                  have A37 := Aside0.mk A370
                  clear A370
                  by_cases c38 : t191 = true
                  · subst c38
                    have H1 : ((laws_heldBoolS.f kj14 t183 1).bind fun t192 => (if t192 < 0 then (none) else (if t192 = t182 then (some true) else (none)))) = some r := by rw [if_pos rfl] at H; exact H
                    clear H
                    have H := H1
                    clear H1
                    replace H := Option.bind_eq_some_iff.mp H
                    obtain ⟨t192, A390, H⟩ := H
                    replace H : (if t192 < 0 then (none) else (if t192 = t182 then (some true) else (none))) = some r := H
                    have A39 := Aside0.mk A390
                    clear A390
                    by_cases c40 : t192 < 0
                    · rw [if_pos c40] at H
                      exact absurd H (by simp)
                    · rw [if_neg c40] at H
                      have c40b0 : decide (t192 < 0) = false := decide_eq_false c40
                      clear c40
                      by_cases c41 : t192 = t182
                      · rw [if_pos c41] at H
                        have c41b0 : (t192 == t182) = true := beq_iff_eq.mpr c41
                        have c41b1 : (t192 != t182) = false := bne_eq_false_iff_eq.mpr c41
                        clear c41
                        obtain rfl := Option.some.inj H
                        go_wp2_with (first | ((with_reducible refine gate_callee (f := 31) rfl ?_); refine goesL_ (some 49) rfl rfl Try.func31 (by kernel_rfl) rfl #[.slice Ao22 t171.length co22, .int .i64 1] rfl (by (try simp only [List.map_toArray, List.map_cons, List.map_nil]); first | done | rfl | (simp only [List.length_drop, List.length_take]; rfl)) ?_; (with_reducible refine (laws_markBoolS.calls kj14 (fun k_ => some k_ = (.slice Ao22 t171.length co22 : Value).ownBlock) (.slice Ao22 t171.length co22) t171 1 t182 t183 w _ ?side1 ?side2 A31.out).mono ?_); (case side1 => repeat (first | (with_reducible first | exact HB.out | apply below_alloc | apply pw_below_drewN | apply below_drew1) | exact HB.out)); (case side2 => exact Kd.Q_tight rfl (Kd.Q_of_R (HO_8.out))); rintro e w42 ⟨rfl, hy0, hb, hkp⟩; refine ⟨_, rfl, ?_⟩; have n0_ := Aside0.mk (Kd.R_mono (ok' := fun k_ => some k_ ≠ (.slice Ao22 t171.length co22 : Value).ownBlock) (Kd.R_keptB (HO_6.out) hkp (fun k_ hk_ hs_ => (hk_) hs_)) (fun k_ hk_ => hk_.1)); have n1_ := Aside0.mk (Kd.Q_reok rfl hy0 (fun k_ e_ => HO_8.out.1 k_ e_)); have n2_ := Aside0.mk (hb); clear HO_6; clear HO_8; clear HB; have HO_6 := n0_; have HO_8 := n1_; have HB := n2_; clear n0_ n1_ n2_; (try clear hb); (try clear hkp); (try clear hy0)) | ((with_reducible refine gate_callee (f := 32) rfl ?_); refine goesL_ (some 52) rfl rfl Try.func32 (by kernel_rfl) rfl #[.slice Ao22 t183.length co22, .int .i64 1] rfl (by (try simp only [List.map_toArray, List.map_cons, List.map_nil]); first | done | (rw [show t183.length = t171.length from (Kd.Q_reads' HO_8.out).1.symm] <;> rfl) | rfl | (simp only [List.length_drop, List.length_take]; rfl)) ?_; (with_reducible refine (laws_heldBoolS.calls kj14 _ _ t183 1 t184 _ ?side1 ?side2 A32.out).mono ?_); (case side1 => repeat (first | exact (Kd.Q_reads' HO_8.out).2.2 | (with_reducible refine Kd.C_alloc ?_ _) | (with_reducible refine Kd.C_drewN ?_ _) | (with_reducible refine Kd.C_drew ?_))); (case side2 => rw [show t183.length = t171.length from (Kd.Q_reads' HO_8.out).1.symm]; exact (Kd.Q_reads' HO_8.out).2.1); rintro e w' ⟨rfl, ⟨nd, rfl⟩⟩; refine ⟨_, rfl, ?_⟩) | ((with_reducible refine gate_callee (f := 22) rfl ?_); refine goesL_ (some 59) rfl rfl Try.func22 (by kernel_rfl) rfl #[.slice A0 l0.length c0] rfl (by (try simp only [List.map_toArray, List.map_cons, List.map_nil]); first | done | rfl | (simp only [List.length_drop, List.length_take]; rfl)) ?_; (with_reducible refine (laws_toNodeS.calls kj14 _ _ l0 t185 _ ?side1 ?side2 A35.out).mono ?_); (case side1 => repeat (first | exact (Kd.C_below HR0.out (by repeat (first | (with_reducible first | exact HB.out | apply below_alloc | apply pw_below_drewN | apply below_drew1) | exact HB.out))) | (with_reducible refine Kd.C_alloc ?_ _) | (with_reducible refine Kd.C_drewN ?_ _) | (with_reducible refine Kd.C_drew ?_))); (case side2 => exact HC0.out); rintro e w43 ⟨v186, rfl, ho0, hb⟩; refine ⟨_, rfl, ?_⟩; have n0_ := Aside0.mk (Kd.R_below (by (with_reducible repeat (first | apply Kd.R_alloc | apply Kd.R_drewN | apply Kd.R_drew)); exact HO_6.out) hb); have n1_ := Aside0.mk (Kd.Q_below (by (with_reducible repeat (first | apply Kd.Q_alloc | apply Kd.Q_drewN | apply Kd.Q_drew)); exact HO_8.out) hb); have n2_ := Aside0.mk (Kd.R_lower ho0 (below_size (by repeat (first | (with_reducible first | exact HB.out | apply below_alloc | apply pw_below_drewN | apply below_drew1) | exact HB.out)))); have n3_ := Aside0.mk (below_step (by repeat (first | (with_reducible first | exact HB.out | apply below_alloc | apply pw_below_drewN | apply below_drew1) | exact HB.out)) hb); clear HO_6; clear HO_8; clear HB; have HO_6 := n0_; have HO_8 := n1_; have HO187 := n2_; have HB := n3_; clear n0_ n1_ n2_ n3_; (try clear hb); (try clear hb2); (try clear hk); (try clear hi); (try clear ho0); obtain ⟨Ao44, co44, eo44⟩ := Kd.R_slice HO187.out; subst eo44) | ((with_reducible refine gate_callee (f := 28) rfl ?_); refine goesL_ (some 61) rfl rfl Try.func28 (by kernel_rfl) rfl #[.slice Ao44 t185.length co44, .int .i64 a1] rfl (by (try simp only [List.map_toArray, List.map_cons, List.map_nil]); first | done | rfl | (simp only [List.length_drop, List.length_take]; rfl)) ?_; (with_reducible refine (impl_LogicTable.calls kj14 _ _ t185 a1 t188 _ ?side1 ?side2 A36.out).mono ?_); (case side1 => repeat (first | exact (Kd.R_reads' HO187.out).2.2 | (with_reducible refine Kd.C_alloc ?_ _) | (with_reducible refine Kd.C_drewN ?_ _) | (with_reducible refine Kd.C_drew ?_))); (case side2 => exact (Kd.R_reads' HO187.out).2.1); rintro e w45 ⟨v189, rfl, ho0, hb⟩; refine ⟨_, rfl, ?_⟩; have n0_ := Aside0.mk (Kd.R_elder' (by (with_reducible repeat (first | apply Kd.R_alloc | apply Kd.R_drewN | apply Kd.R_drew)); exact HO_6.out) (Kd.R_base ho0) hb); have n1_ := Aside0.mk (Kd.Q_elder' (by (with_reducible repeat (first | apply Kd.Q_alloc | apply Kd.Q_drewN | apply Kd.Q_drew)); exact HO_8.out) (Kd.R_base ho0) hb); have n2_ := Aside0.mk (Kd.R_below (by (with_reducible repeat (first | apply Kd.R_alloc | apply Kd.R_drewN | apply Kd.R_drew)); exact HO187.out) hb); have n3_ := Aside0.mk (Kd.R_lower (Kd.R_new' (Kd.R_new' ho0 (Kd.R_lt (by (with_reducible repeat (first | apply Kd.R_alloc | apply Kd.R_drewN | apply Kd.R_drew)); exact HO_6.out))) (Kd.Q_lt (by (with_reducible repeat (first | apply Kd.Q_alloc | apply Kd.Q_drewN | apply Kd.Q_drew)); exact HO_8.out))) (below_size (by repeat (first | (with_reducible first | exact HB.out | apply below_alloc | apply pw_below_drewN | apply below_drew1) | exact HB.out)))); have n4_ := Aside0.mk (below_step (by repeat (first | (with_reducible first | exact HB.out | apply below_alloc | apply pw_below_drewN | apply below_drew1) | exact HB.out)) hb); clear HO_6; clear HO_8; clear HO187; clear HB; have HO_6 := n0_; have HO_8 := n1_; have HO187 := n2_; have HO190 := n3_; have HB := n4_; clear n0_ n1_ n2_ n3_ n4_; (try clear hb); (try clear hb2); (try clear hk); (try clear hi); (try clear ho0); obtain ⟨Ao46, co46, eo46⟩ := Kd.R_slice HO190.out; subst eo46) | ((with_reducible refine gate_callee (f := 29) rfl ?_); refine goesL_ (some 64) rfl rfl Try.func29 (by kernel_rfl) rfl #[.slice Ao46 t188.length co46, .slice Ao23 t165.length co23] rfl (by (try simp only [List.map_toArray, List.map_cons, List.map_nil]); first | done | rfl | (simp only [List.length_drop, List.length_take]; rfl)) ?_; (with_reducible refine (laws_eqBoolS.calls kj14 _ _ t188 _ _ t165 true _ ?side1 ?side2 ?side3 ?side4 A37.out).mono ?_); (case side1 => repeat (first | exact (Kd.R_reads' HO190.out).2.2 | (with_reducible refine Kd.C_alloc ?_ _) | (with_reducible refine Kd.C_drewN ?_ _) | (with_reducible refine Kd.C_drew ?_))); (case side2 => exact (Kd.R_reads' HO190.out).2.1); (case side3 => repeat (first | exact (Kd.R_reads' HO_6.out).2.2 | (with_reducible refine Kd.C_alloc ?_ _) | (with_reducible refine Kd.C_drewN ?_ _) | (with_reducible refine Kd.C_drew ?_))); (case side4 => exact (Kd.R_reads' HO_6.out).2.1); rintro e w' ⟨rfl, ⟨nd, rfl⟩⟩; refine ⟨_, rfl, ?_⟩) | ((with_reducible refine gate_callee (f := 32) rfl ?_); refine goesL_ (some 68) rfl rfl Try.func32 (by kernel_rfl) rfl #[.slice Ao22 t183.length co22, .int .i64 1] rfl (by (try simp only [List.map_toArray, List.map_cons, List.map_nil]); first | done | (rw [show t183.length = t171.length from (Kd.Q_reads' HO_8.out).1.symm] <;> rfl) | rfl | (simp only [List.length_drop, List.length_take]; rfl)) ?_; (with_reducible refine (laws_heldBoolS.calls kj14 _ _ t183 1 t192 _ ?side1 ?side2 A39.out).mono ?_); (case side1 => repeat (first | exact (Kd.Q_reads' HO_8.out).2.2 | (with_reducible refine Kd.C_alloc ?_ _) | (with_reducible refine Kd.C_drewN ?_ _) | (with_reducible refine Kd.C_drew ?_))); (case side2 => rw [show t183.length = t171.length from (Kd.Q_reads' HO_8.out).1.symm]; exact (Kd.Q_reads' HO_8.out).2.1); rintro e w' ⟨rfl, ⟨nd, rfl⟩⟩; refine ⟨_, rfl, ?_⟩))
                        go_ret
                        exact ⟨by first | rfl | (simp [errW_none, errW_some] <;> rfl) | (simp [*, errW_none, errW_some] <;> rfl), by repeat (first | (with_reducible first | exact HB.out | apply below_alloc | apply pw_below_drewN | apply below_drew1) | exact HB.out)⟩
                      · rw [if_neg c41] at H
                        exact absurd H (by simp)
                  · replace c38 := Bool.eq_false_iff.mpr c38
                    subst c38
                    have H1 : (none) = some r := by rw [if_neg (show ¬ (false = true) by decide)] at H; exact H
                    clear H
                    have H := H1
                    clear H1
                    exact absurd H (by simp)
                · rw [if_neg c34] at H
                  exact absurd H (by simp)
      · replace c13 := Bool.eq_false_iff.mpr c13
        subst c13
        have H1 : (none) = some r := by rw [if_neg (show ¬ (false = true) by decide)] at H; exact H
        clear H
        have H := H1
        clear H1
        exact absurd H (by simp)
    · replace c10 := Bool.eq_false_iff.mpr c10
      subst c10
      have H1 : (none) = some r := by rw [if_neg (show ¬ (false = true) by decide)] at H; exact H
      clear H
      have H := H1
      clear H1
      exact absurd H (by simp)

end Go.Proofs.Ytmphligplngeaaa.GFnExactLogicTable

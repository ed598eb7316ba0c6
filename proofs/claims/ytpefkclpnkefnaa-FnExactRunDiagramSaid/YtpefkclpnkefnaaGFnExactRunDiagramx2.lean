/- Functions of the program as Lean functions, with proofs that the machine comes to their answers; written by this session's program mkprint.py; no condition beyond each theorem's own. -/
import Derived.Test.YtpefkclpnkefnaaGFnExactRunDiagramx0
namespace Go.Proofs.Ytpefkclpnkefnaa.GFnExactRunDiagram
open Go.RowKit Go.Proofs.YtpefkclpnkefnaaV.PrintWords Go.Proofs.YtpefkclpnkefnaaV.PrintLast Go.Proofs.YtpefkclpnkefnaaV.PrintMore
attribute [local go_sem] max2_int min2_int max_two min_two max_three min_three max_four min_four   -- for this text's walks alone
set_option linter.unusedVariables false
set_option linter.unusedSimpArgs false

/-! ### laws_markBlockS: function 16 -/
def laws_markBlockS.l0 : Nat → List (S52) → Int → Int → Option (Int × (List (S52)))
  | 0, _, _, _ => none
  | k + 1, x0, x1, x5 => if x5 < (x0.length : Int) then (if 0 ≤ x5 then ((some (x0.set (x5 : Int).toNat (⟨x1, (rd_T52 x0 x5).f1, (rd_T52 x0 x5).f2⟩ : S52) : List (S52))).bind fun y119 => ((some (y119.set (x5 : Int).toNat (⟨(rd_T52 y119 x5).f0, wrap64 (x1 + 1), (rd_T52 y119 x5).f2⟩ : S52) : List (S52))).bind fun y120 => (laws_markBlockS.l0 k (y120.set (x5 : Int).toNat (⟨(rd_T52 y120 x5).f0, (rd_T52 y120 x5).f1, wrap64 ((wrap64 (x1 + 1)) + 1)⟩ : S52)) (wrap64 ((wrap64 ((wrap64 (x1 + 1)) + 1)) + 1)) (wrap64 (x5 + 1))))) else (none)) else (some (x1, x0))
def laws_markBlockS.f (k : Nat) (l0 : List (S52)) (a1 : Int) : Option (Int × (List (S52))) := laws_markBlockS.l0 k l0 a1 0
theorem laws_markBlockS.mono_l : ∀ k, (∀ y0 y1 y2, LeO (laws_markBlockS.l0 k y0 y1 y2) (laws_markBlockS.l0 (k + 1) y0 y1 y2))
  | 0 => fun _ _ _ r h => by simp [laws_markBlockS.l0] at h
  | k + 1 => by
    have ih0 := laws_markBlockS.mono_l k
    · intro y0 y1 y2
      unfold laws_markBlockS.l0
      repeat' first
      | (with_reducible exact ih0 _ _ _)
      | (with_reducible exact LeO.refl _)
      | (with_reducible exact LeO.none _)
      | (with_reducible refine LeO.ite ?_ ?_)
      | (with_reducible refine LeO.bind ?_ (fun _ => ?_))
      | exact ih0 _ _ _
      | exact LeO.none _
      | refine LeO.ite ?_ ?_
      | refine LeO.bind ?_ (fun _ => ?_)
theorem laws_markBlockS.mono : ∀ a0 a1 k, LeO (laws_markBlockS.f k a0 a1) (laws_markBlockS.f (k + 1) a0 a1) := by
  intro a0 a1 k
  have ih0 := laws_markBlockS.mono_l k
  unfold laws_markBlockS.f
  repeat' first
      | (with_reducible exact ih0 _ _ _)
      | (with_reducible exact LeO.refl _)
      | (with_reducible exact LeO.none _)
      | (with_reducible refine LeO.ite ?_ ?_)
      | (with_reducible refine LeO.bind ?_ (fun _ => ?_))
      | exact ih0 _ _ _
      | exact LeO.none _
      | refine LeO.ite ?_ ?_
      | refine LeO.bind ?_ (fun _ => ?_)
set_option maxHeartbeats 8000000 in
set_option maxRecDepth 100000 in
theorem laws_markBlockS.calls (k : Nat) (P0_ : Nat → Prop) (u9000_ : Value) (l0 : List (S52)) (a1 : Int) (r1 : Int) (r2 : List (S52)) (w0 w : World) (hB : Below w0.heap.size w0 w) (ho0 : Kd.Q k52 52 w w0.heap.size P0_ u9000_ l0) (h : laws_markBlockS.f k l0 a1 = some (r1, r2)) :
    Calls Try.prog 16 #[u9000_, .int .i64 a1] w fun e w' => e = .returned (.int .i64 r1) ∧ Kd.Q k52 52 w' w0.heap.size (fun k_ => (P0_ k_ ∨ w.heap.size ≤ k_)) u9000_ r2 ∧ Below w0.heap.size w0 w' ∧ Kept w w' (fun k_ => P0_ k_) := by
  have HO0 := Aside0.mk (show Kd.Q k52 52 w w0.heap.size (fun k_ => (P0_ k_ ∨ w.heap.size ≤ k_)) u9000_ l0 from Kd.Q_mono ho0 (fun k_ hk => (.inl hk)))
  have HK := Aside0.mk (Kept.refl w (fun k_ => P0_ k_))
  have HW0 := Aside0.mk hB.size
  have HB := Aside0.mk hB
  clear hB
  have H : (laws_markBlockS.l0 k l0 a1 0) = some (r1, r2) := h
  clear h
  have H' := Aside0.mk H
  clear H
  go_enter Try.func16, Try.ntmps16
  go_wp2
  go_loopg [1, 5] k (fun kq v1 v5 w' => ∃ (x0_1 : List (S52)) (x1_1 : Int) (x5_1 : Int), v1 = .int .i64 x1_1 ∧ v5 = .int .i64 x5_1 ∧ Aside0 (laws_markBlockS.l0 kq x0_1 x1_1 x5_1 = some (r1, r2)) ∧ Aside0 (kq ≤ k) ∧ Aside0 (Kd.Q k52 52 w' w0.heap.size (fun k_ => (P0_ k_ ∨ w.heap.size ≤ k_)) u9000_ x0_1) ∧ Aside0 (Kept w w' (fun k_ => P0_ k_)) ∧ Aside0 (Below w0.heap.size w0 w'))
  case atStart => exact ⟨(l0), (a1), (0), (by first | rfl | (simp; done) | (simp [*]; done)), (by first | rfl | (simp; done) | (simp [*]; done)), H', ⟨Nat.le_refl _⟩, ⟨by (with_reducible repeat (first | apply Kd.Q_alloc | apply Kd.Q_drewN | apply Kd.Q_drew)); exact HO0.out⟩, ⟨by repeat (first | (with_reducible first | exact HK.out | apply Kept.alloc | apply Kept.drewN | apply Kept.drew) | exact HK.out)⟩, ⟨by repeat (first | (with_reducible first | exact HB.out | apply below_alloc | apply pw_below_drewN | apply below_drew1) | exact HB.out)⟩⟩
  case round =>
    clear H'
    try clear c1
    try clear p2
    obtain ⟨x0_1, x1_1, x5_1, rfl, rfl, HA, HK1, HO_0, HK, HB⟩ := hrel
    cases gk with
    | zero => exact absurd HA.out (by simp [laws_markBlockS.l0])
    | succ k1 =>
      have H := HA.out
      clear HA
      simp only [laws_markBlockS.l0] at H
      by_cases c3 : x5_1 < (x0_1.length : Int)
      · rw [if_pos c3] at H
        have c3b0 : decide (x5_1 < (x0_1.length : Int)) = true := decide_eq_true c3
        clear c3
        by_cases c4 : 0 ≤ x5_1
        · rw [if_pos c4] at H
          have c4b0 : decide (0 ≤ x5_1) = true := decide_eq_true c4
          clear c4
          obtain ⟨y119, hy119⟩ : ∃ y_ : List (S52), y_ = (x0_1.set (x5_1 : Int).toNat (⟨x1_1, (rd_T52 x0_1 x5_1).f1, (rd_T52 x0_1 x5_1).f2⟩ : S52)) := ⟨_, rfl⟩
          replace H : ((some (y119.set (x5_1 : Int).toNat (⟨(rd_T52 y119 x5_1).f0, wrap64 (x1_1 + 1), (rd_T52 y119 x5_1).f2⟩ : S52) : List (S52))).bind fun y120 => (laws_markBlockS.l0 k1 (y120.set (x5_1 : Int).toNat (⟨(rd_T52 y120 x5_1).f0, (rd_T52 y120 x5_1).f1, wrap64 ((wrap64 (x1_1 + 1)) + 1)⟩ : S52)) (wrap64 ((wrap64 ((wrap64 (x1_1 + 1)) + 1)) + 1)) (wrap64 (x5_1 + 1)))) = some (r1, r2) := by first | (rw [hy119]; with_reducible exact H) | (have H2_ := (Option.bind_some _ _).symm.trans H; rw [hy119]; with_reducible exact H2_) | (have H2_ := (Option.bind_some _ _).symm.trans H; with_reducible exact H2_) | with_reducible exact H | (rw [hy119]; exact H) | exact H
          have Ny119 := Aside0.mk hy119
          clear hy119
          obtain ⟨y120, hy120⟩ : ∃ y_ : List (S52), y_ = (y119.set (x5_1 : Int).toNat (⟨(rd_T52 y119 x5_1).f0, wrap64 (x1_1 + 1), (rd_T52 y119 x5_1).f2⟩ : S52)) := ⟨_, rfl⟩
          replace H : (laws_markBlockS.l0 k1 (y120.set (x5_1 : Int).toNat (⟨(rd_T52 y120 x5_1).f0, (rd_T52 y120 x5_1).f1, wrap64 ((wrap64 (x1_1 + 1)) + 1)⟩ : S52)) (wrap64 ((wrap64 ((wrap64 (x1_1 + 1)) + 1)) + 1)) (wrap64 (x5_1 + 1))) = some (r1, r2) := by first | (rw [hy120]; with_reducible exact H) | (have H2_ := (Option.bind_some _ _).symm.trans H; rw [hy120]; with_reducible exact H2_) | (have H2_ := (Option.bind_some _ _).symm.trans H; with_reducible exact H2_) | with_reducible exact H | (rw [hy120]; exact H) | exact H
          have Ny120 := Aside0.mk hy120
          clear hy120
          obtain ⟨y121, hy121⟩ : ∃ y_ : List (S52), y_ = (y120.set (x5_1 : Int).toNat (⟨(rd_T52 y120 x5_1).f0, (rd_T52 y120 x5_1).f1, wrap64 ((wrap64 (x1_1 + 1)) + 1)⟩ : S52)) := ⟨_, rfl⟩
          replace H : (laws_markBlockS.l0 k1 y121 (wrap64 ((wrap64 ((wrap64 (x1_1 + 1)) + 1)) + 1)) (wrap64 (x5_1 + 1))) = some (r1, r2) := by first | (rw [hy121]; with_reducible exact H) | (have H2_ := (Option.bind_some _ _).symm.trans H; rw [hy121]; with_reducible exact H2_) | (have H2_ := (Option.bind_some _ _).symm.trans H; with_reducible exact H2_) | with_reducible exact H | (rw [hy121]; exact H) | exact H
          have Ny121 := Aside0.mk hy121
          clear hy121
          have H' := Aside0.mk H
          clear H
          obtain ⟨Ao8, co8, eo8, _⟩ := Kd.Q_slice HO_0.out
          subst eo8
          have p5 : 0 ≤ (x5_1 : Int) := of_decide_eq_true (by first | (with_reducible assumption) | assumption)
          have q5 : (x5_1 : Int) < ((x0_1.length : Int) : Int) := of_decide_eq_true (by first | (with_reducible assumption) | assumption)
          obtain ⟨go5, oo5, co5, eo5, gb5, gl5, cl5, HG5⟩ := Kd.Q_form HO_0.out (by omega)
          (first | cases eo5 | (injection eo5 with ea_ en_ ec_; (first | subst ea_ | (injection ea_ with ea_; subst ea_)); subst ec_; clear en_))
          have GB5 := Aside0.mk gb5
          have GG5 := Aside0.mk HG5
          clear gb5 gl5 HG5
          have HMgo5 := Aside0.mk (show (P0_ go5 ∨ w.heap.size ≤ go5) from (HO_0.out.1 _ rfl))
          obtain ⟨ce5, hcl5, hM5, hcc5, hfr5⟩ := Kd.Q_elem HO_0.out z52 (x5_1 : Int) p5 q5
          obtain rfl := k52_openM hM5
          have hx5_0 : wr.cell? ⟨go5, oo5 + (x5_1 : Int).toNat * 3, none⟩ = some (.int .i64 ((rd_T52 x0_1 x5_1).f0)) := hcc5 0 _ rfl
          have hx5_1 : wr.cell? ⟨go5, oo5 + (x5_1 : Int).toNat * 3 + 1, none⟩ = some (.int .i64 ((rd_T52 x0_1 x5_1).f1)) := hcc5 1 _ rfl
          have hx5_2 : wr.cell? ⟨go5, oo5 + (x5_1 : Int).toNat * 3 + 2, none⟩ = some (.int .i64 ((rd_T52 x0_1 x5_1).f2)) := hcc5 2 _ rfl
          have hf5_0 : wr.frozen? ⟨go5, oo5 + (x5_1 : Int).toNat * 3, none⟩ = false := hfr5 0
          have hf5_1 : wr.frozen? ⟨go5, oo5 + (x5_1 : Int).toNat * 3 + 1, none⟩ = false := hfr5 1
          have hf5_2 : wr.frozen? ⟨go5, oo5 + (x5_1 : Int).toNat * 3 + 2, none⟩ = false := hfr5 2
          clear hcl5 hcc5 hfr5 hM5
          replace p5 := eq_true p5
          replace q5 := eq_true q5
          have HX9 := Aside0.mk (show Kd.Q k52 52 wr w0.heap.size (fun k_ => (P0_ k_ ∨ w.heap.size ≤ k_)) (.slice (some ⟨go5, oo5, none⟩) x0_1.length co8) x0_1 from (by (with_reducible repeat (first | apply Kd.Q_alloc | apply Kd.Q_drewN | apply Kd.Q_drew)); exact HO_0.out))
          obtain ⟨ce9, hcl9, hM9, hcc9, hfr9⟩ := Kd.Q_elem HX9.out z52 (x5_1 : Int) (of_decide_eq_true (by first | (with_reducible assumption) | assumption)) (by have h_ : (x5_1 : Int) < ((x0_1.length : Int) : Int) := of_decide_eq_true (by first | (with_reducible assumption) | assumption); first | exact h_ | (have e_ := (Kd.Q_reads' HO_0.out).1; omega) | simpa using h_)
          obtain rfl := k52_openM hM9
          have HP9 := Kd.Q_seg HX9.out (x5_1 : Int) (of_decide_eq_true (by first | (with_reducible assumption) | assumption)) (by have h_ : (x5_1 : Int) < ((x0_1.length : Int) : Int) := of_decide_eq_true (by first | (with_reducible assumption) | assumption); first | exact h_ | (have e_ := (Kd.Q_reads' HO_0.out).1; omega) | simpa using h_) (seg := [.int .i64 x1_1]) (j := 0) hcl9 hcc9 (show 1 ≤ 3 from by decide) (x' := (⟨x1_1, (rd_T52 x0_1 x5_1).f1, (rd_T52 x0_1 x5_1).f2⟩ : S52)) (k52_mkM _ _ _ (⟨x1_1, (rd_T52 x0_1 x5_1).f1, (rd_T52 x0_1 x5_1).f2⟩ : S52) ) (fun _ hk => hk)
          have hx9_0 := hcc9 0 _ rfl
          (try simp only [show (k52).sz = 3 from rfl, Nat.mul_one, Nat.add_zero] at hx9_0)
          have hf9_0 := hfr9 0
          (try simp only [show (k52).sz = 3 from rfl, Nat.mul_one, Nat.add_zero] at hf9_0)
          clear hcl9 hcc9 hfr9 hM9
          go_wp2_with (first | ((with_reducible refine gate_store (t := 3) (p := 16) rfl ?_); refine store_event (t := 3) (p := 16) (v := ?vo_w10) (w1 := (wr.setCell ⟨go5, oo5 + (x5_1 : Int).toNat * 3, none⟩ (.int .i64 x1_1))) ?hg ?ho ?hn ?hr ?_; (case ho => rfl); (case hg => rfl); (case hn => rfl); (case hr => first | (go_simp; done) | (go_simp; rfl)); intro w10 hw; have hg : wr.grownBy w10 (some go5) := (by rw [hw]; exact HP9.2); have hp_ : Kd.Q k52 52 w10 w0.heap.size (fun k_ => (P0_ k_ ∨ w.heap.size ≤ k_)) (.slice (some ⟨go5, oo5, none⟩) x0_1.length co8) y119 := (by rw [hw, Ny119.out]; exact HP9.1); clear HP9; have n0_ := Aside0.mk (hp_); have n1_ := Aside0.mk ((by rw [hw]; exact below_set (HB.out) GB5.out : Below w0.heap.size w0 w10)); have n2_ := Aside0.mk (Kept.of_grown (S := (fun k_ => P0_ k_)) hg (by repeat (first | (with_reducible first | exact HK.out | apply Kept.alloc | apply Kept.drewN | apply Kept.drew) | exact HK.out)) (fun k_ e_ => (HO_0.out.1 k_ e_))); clear HO_0; clear HB; clear HK; have HO_0 := n0_; have HB := n1_; have HK := n2_; clear n0_ n1_ n2_; clear hg hw hp_; have p6 : 0 ≤ (x5_1 : Int) := of_decide_eq_true (by first | (with_reducible assumption) | assumption); have q6 : (x5_1 : Int) < ((x0_1.length : Int) : Int) := of_decide_eq_true (by first | (with_reducible assumption) | assumption); obtain ⟨ce6, hcl6, hM6, hcc6, hfr6⟩ := Kd.Q_elem HO_0.out z52 (x5_1 : Int) p6 q6; obtain rfl := k52_openM hM6; have hx6_0 : w10.cell? ⟨go5, oo5 + (x5_1 : Int).toNat * 3, none⟩ = some (.int .i64 ((rd_T52 y119 x5_1).f0)) := hcc6 0 _ rfl; have hx6_1 : w10.cell? ⟨go5, oo5 + (x5_1 : Int).toNat * 3 + 1, none⟩ = some (.int .i64 ((rd_T52 y119 x5_1).f1)) := hcc6 1 _ rfl; have hx6_2 : w10.cell? ⟨go5, oo5 + (x5_1 : Int).toNat * 3 + 2, none⟩ = some (.int .i64 ((rd_T52 y119 x5_1).f2)) := hcc6 2 _ rfl; have hf6_0 : w10.frozen? ⟨go5, oo5 + (x5_1 : Int).toNat * 3, none⟩ = false := hfr6 0; have hf6_1 : w10.frozen? ⟨go5, oo5 + (x5_1 : Int).toNat * 3 + 1, none⟩ = false := hfr6 1; have hf6_2 : w10.frozen? ⟨go5, oo5 + (x5_1 : Int).toNat * 3 + 2, none⟩ = false := hfr6 2; clear hcl6 hcc6 hfr6 hM6; replace p6 := eq_true p6; replace q6 := eq_true q6; have HX11 := Aside0.mk (show Kd.Q k52 52 w10 w0.heap.size (fun k_ => (P0_ k_ ∨ w.heap.size ≤ k_)) (.slice (some ⟨go5, oo5, none⟩) x0_1.length co8) y119 from (by (with_reducible repeat (first | apply Kd.Q_alloc | apply Kd.Q_drewN | apply Kd.Q_drew)); exact HO_0.out)); obtain ⟨ce11, hcl11, hM11, hcc11, hfr11⟩ := Kd.Q_elem HX11.out z52 (x5_1 : Int) (of_decide_eq_true (by first | (with_reducible assumption) | assumption)) (by have h_ : (x5_1 : Int) < ((x0_1.length : Int) : Int) := of_decide_eq_true (by first | (with_reducible assumption) | assumption); first | exact h_ | (have e_ := (Kd.Q_reads' HO_0.out).1; omega) | simpa using h_); obtain rfl := k52_openM hM11; have HP11 := Kd.Q_seg HX11.out (x5_1 : Int) (of_decide_eq_true (by first | (with_reducible assumption) | assumption)) (by have h_ : (x5_1 : Int) < ((x0_1.length : Int) : Int) := of_decide_eq_true (by first | (with_reducible assumption) | assumption); first | exact h_ | (have e_ := (Kd.Q_reads' HO_0.out).1; omega) | simpa using h_) (seg := [.int .i64 (wrap64 (x1_1 + 1))]) (j := 1) hcl11 hcc11 (show 2 ≤ 3 from by decide) (x' := (⟨(rd_T52 y119 x5_1).f0, wrap64 (x1_1 + 1), (rd_T52 y119 x5_1).f2⟩ : S52)) (k52_mkM _ _ _ (⟨(rd_T52 y119 x5_1).f0, wrap64 (x1_1 + 1), (rd_T52 y119 x5_1).f2⟩ : S52) ) (fun _ hk => hk); have hx11_1 := hcc11 1 _ rfl; (try simp only [show (k52).sz = 3 from rfl, Nat.mul_one, Nat.add_zero] at hx11_1); have hf11_1 := hfr11 1; (try simp only [show (k52).sz = 3 from rfl, Nat.mul_one, Nat.add_zero] at hf11_1); clear hcl11 hcc11 hfr11 hM11) | ((with_reducible refine gate_store (t := 3) (p := 23) rfl ?_); refine store_event (t := 3) (p := 23) (v := ?vo_w12) (w1 := (w10.setCell ⟨go5, oo5 + (x5_1 : Int).toNat * 3 + 1, none⟩ (.int .i64 (wrap64 (x1_1 + 1))))) ?hg ?ho ?hn ?hr ?_; (case ho => rfl); (case hg => rfl); (case hn => rfl); (case hr => first | (go_simp; done) | (go_simp; rfl)); intro w12 hw; have hg : w10.grownBy w12 (some go5) := (by rw [hw]; exact HP11.2); have hp_ : Kd.Q k52 52 w12 w0.heap.size (fun k_ => (P0_ k_ ∨ w.heap.size ≤ k_)) (.slice (some ⟨go5, oo5, none⟩) x0_1.length co8) y120 := (by rw [hw, Ny120.out]; exact HP11.1); clear HP11; have n0_ := Aside0.mk (hp_); have n1_ := Aside0.mk ((by rw [hw]; exact below_set (HB.out) GB5.out : Below w0.heap.size w0 w12)); have n2_ := Aside0.mk (Kept.of_grown (S := (fun k_ => P0_ k_)) hg (by repeat (first | (with_reducible first | exact HK.out | apply Kept.alloc | apply Kept.drewN | apply Kept.drew) | exact HK.out)) (fun k_ e_ => (HO_0.out.1 k_ e_))); clear HO_0; clear HB; clear HK; have HO_0 := n0_; have HB := n1_; have HK := n2_; clear n0_ n1_ n2_; clear hg hw hp_; have p7 : 0 ≤ (x5_1 : Int) := of_decide_eq_true (by first | (with_reducible assumption) | assumption); have q7 : (x5_1 : Int) < ((x0_1.length : Int) : Int) := of_decide_eq_true (by first | (with_reducible assumption) | assumption); obtain ⟨ce7, hcl7, hM7, hcc7, hfr7⟩ := Kd.Q_elem HO_0.out z52 (x5_1 : Int) p7 q7; obtain rfl := k52_openM hM7; have hx7_0 : w12.cell? ⟨go5, oo5 + (x5_1 : Int).toNat * 3, none⟩ = some (.int .i64 ((rd_T52 y120 x5_1).f0)) := hcc7 0 _ rfl; have hx7_1 : w12.cell? ⟨go5, oo5 + (x5_1 : Int).toNat * 3 + 1, none⟩ = some (.int .i64 ((rd_T52 y120 x5_1).f1)) := hcc7 1 _ rfl; have hx7_2 : w12.cell? ⟨go5, oo5 + (x5_1 : Int).toNat * 3 + 2, none⟩ = some (.int .i64 ((rd_T52 y120 x5_1).f2)) := hcc7 2 _ rfl; have hf7_0 : w12.frozen? ⟨go5, oo5 + (x5_1 : Int).toNat * 3, none⟩ = false := hfr7 0; have hf7_1 : w12.frozen? ⟨go5, oo5 + (x5_1 : Int).toNat * 3 + 1, none⟩ = false := hfr7 1; have hf7_2 : w12.frozen? ⟨go5, oo5 + (x5_1 : Int).toNat * 3 + 2, none⟩ = false := hfr7 2; clear hcl7 hcc7 hfr7 hM7; replace p7 := eq_true p7; replace q7 := eq_true q7; have HX13 := Aside0.mk (show Kd.Q k52 52 w12 w0.heap.size (fun k_ => (P0_ k_ ∨ w.heap.size ≤ k_)) (.slice (some ⟨go5, oo5, none⟩) x0_1.length co8) y120 from (by (with_reducible repeat (first | apply Kd.Q_alloc | apply Kd.Q_drewN | apply Kd.Q_drew)); exact HO_0.out)); obtain ⟨ce13, hcl13, hM13, hcc13, hfr13⟩ := Kd.Q_elem HX13.out z52 (x5_1 : Int) (of_decide_eq_true (by first | (with_reducible assumption) | assumption)) (by have h_ : (x5_1 : Int) < ((x0_1.length : Int) : Int) := of_decide_eq_true (by first | (with_reducible assumption) | assumption); first | exact h_ | (have e_ := (Kd.Q_reads' HO_0.out).1; omega) | simpa using h_); obtain rfl := k52_openM hM13; have HP13 := Kd.Q_seg HX13.out (x5_1 : Int) (of_decide_eq_true (by first | (with_reducible assumption) | assumption)) (by have h_ : (x5_1 : Int) < ((x0_1.length : Int) : Int) := of_decide_eq_true (by first | (with_reducible assumption) | assumption); first | exact h_ | (have e_ := (Kd.Q_reads' HO_0.out).1; omega) | simpa using h_) (seg := [.int .i64 (wrap64 ((wrap64 (x1_1 + 1)) + 1))]) (j := 2) hcl13 hcc13 (show 3 ≤ 3 from by decide) (x' := (⟨(rd_T52 y120 x5_1).f0, (rd_T52 y120 x5_1).f1, wrap64 ((wrap64 (x1_1 + 1)) + 1)⟩ : S52)) (k52_mkM _ _ _ (⟨(rd_T52 y120 x5_1).f0, (rd_T52 y120 x5_1).f1, wrap64 ((wrap64 (x1_1 + 1)) + 1)⟩ : S52) ) (fun _ hk => hk); have hx13_2 := hcc13 2 _ rfl; (try simp only [show (k52).sz = 3 from rfl, Nat.mul_one, Nat.add_zero] at hx13_2); have hf13_2 := hfr13 2; (try simp only [show (k52).sz = 3 from rfl, Nat.mul_one, Nat.add_zero] at hf13_2); clear hcl13 hcc13 hfr13 hM13) | ((with_reducible refine gate_store (t := 3) (p := 30) rfl ?_); refine store_event (t := 3) (p := 30) (v := ?vo_w14) (w1 := (w12.setCell ⟨go5, oo5 + (x5_1 : Int).toNat * 3 + 2, none⟩ (.int .i64 (wrap64 ((wrap64 (x1_1 + 1)) + 1))))) ?hg ?ho ?hn ?hr ?_; (case ho => rfl); (case hg => rfl); (case hn => rfl); (case hr => first | (go_simp; done) | (go_simp; rfl)); intro w14 hw; have hg : w12.grownBy w14 (some go5) := (by rw [hw]; exact HP13.2); have hp_ : Kd.Q k52 52 w14 w0.heap.size (fun k_ => (P0_ k_ ∨ w.heap.size ≤ k_)) (.slice (some ⟨go5, oo5, none⟩) x0_1.length co8) y121 := (by rw [hw, Ny121.out]; exact HP13.1); clear HP13; have n0_ := Aside0.mk (hp_); have n1_ := Aside0.mk ((by rw [hw]; exact below_set (HB.out) GB5.out : Below w0.heap.size w0 w14)); have n2_ := Aside0.mk (Kept.of_grown (S := (fun k_ => P0_ k_)) hg (by repeat (first | (with_reducible first | exact HK.out | apply Kept.alloc | apply Kept.drewN | apply Kept.drew) | exact HK.out)) (fun k_ e_ => (HO_0.out.1 k_ e_))); clear HO_0; clear HB; clear HK; have HO_0 := n0_; have HB := n1_; have HK := n2_; clear n0_ n1_ n2_; clear hg hw hp_))
          go_roundg k1
          case measure => have := HK1.out; omega
          case rel => exact ⟨(y121), (wrap64 ((wrap64 ((wrap64 (x1_1 + 1)) + 1)) + 1)), (wrap64 (x5_1 + 1)), (by first | rfl | (simp; done) | (simp [*]; done)), (by first | rfl | (simp; done) | (simp [*]; done)), H', ⟨by have := HK1.out; omega⟩, ⟨by (with_reducible repeat (first | apply Kd.Q_alloc | apply Kd.Q_drewN | apply Kd.Q_drew)); exact HO_0.out⟩, ⟨by repeat (first | (with_reducible first | exact HK.out | apply Kept.alloc | apply Kept.drewN | apply Kept.drew) | exact HK.out)⟩, ⟨by repeat (first | (with_reducible first | exact HB.out | apply below_alloc | apply pw_below_drewN | apply below_drew1) | exact HB.out)⟩⟩
        · rw [if_neg c4] at H
          exact absurd H (by simp)
      · rw [if_neg c3] at H
        have c3b0 : decide (x5_1 < (x0_1.length : Int)) = false := decide_eq_false c3
        clear c3
        simp only [Option.some.injEq, Prod.mk.injEq] at H
        obtain ⟨rfl, rfl⟩ := H
        obtain ⟨Ao15, co15, eo15, _⟩ := Kd.Q_slice HO_0.out
        subst eo15
        go_wp2
        go_ret
        exact ⟨by first | rfl | (simp [errW_none, errW_some] <;> rfl) | (simp [*, errW_none, errW_some] <;> rfl), by (with_reducible repeat (first | apply Kd.Q_alloc | apply Kd.Q_drewN | apply Kd.Q_drew)); exact HO_0.out, by repeat (first | (with_reducible first | exact HB.out | apply below_alloc | apply pw_below_drewN | apply below_drew1) | exact HB.out), by repeat (first | (with_reducible first | exact HK.out | apply Kept.alloc | apply Kept.drewN | apply Kept.drew) | exact HK.out)⟩

/-! ### laws_markIntS: function 17 -/
def laws_markIntS.l0 : Nat → List Int → Int → Int → Option (Int × List Int)
  | 0, _, _, _ => none
  | k + 1, x0, x1, x5 => if x5 < (x0.length : Int) then (if 0 ≤ x5 then (laws_markIntS.l0 k (x0.set (x5 : Int).toNat x1) (wrap64 (x1 + 1)) (wrap64 (x5 + 1))) else (none)) else (some (x1, x0))
def laws_markIntS.f (k : Nat) (l0 : List Int) (a1 : Int) : Option (Int × List Int) := laws_markIntS.l0 k l0 a1 0
theorem laws_markIntS.mono_l : ∀ k, (∀ y0 y1 y2, LeO (laws_markIntS.l0 k y0 y1 y2) (laws_markIntS.l0 (k + 1) y0 y1 y2))
  | 0 => fun _ _ _ r h => by simp [laws_markIntS.l0] at h
  | k + 1 => by
    have ih0 := laws_markIntS.mono_l k
    · intro y0 y1 y2
      unfold laws_markIntS.l0
      repeat' first
      | (with_reducible exact ih0 _ _ _)
      | (with_reducible exact LeO.refl _)
      | (with_reducible exact LeO.none _)
      | (with_reducible refine LeO.ite ?_ ?_)
      | (with_reducible refine LeO.bind ?_ (fun _ => ?_))
      | exact ih0 _ _ _
      | exact LeO.none _
      | refine LeO.ite ?_ ?_
      | refine LeO.bind ?_ (fun _ => ?_)
theorem laws_markIntS.mono : ∀ a0 a1 k, LeO (laws_markIntS.f k a0 a1) (laws_markIntS.f (k + 1) a0 a1) := by
  intro a0 a1 k
  have ih0 := laws_markIntS.mono_l k
  unfold laws_markIntS.f
  repeat' first
      | (with_reducible exact ih0 _ _ _)
      | (with_reducible exact LeO.refl _)
      | (with_reducible exact LeO.none _)
      | (with_reducible refine LeO.ite ?_ ?_)
      | (with_reducible refine LeO.bind ?_ (fun _ => ?_))
      | exact ih0 _ _ _
      | exact LeO.none _
      | refine LeO.ite ?_ ?_
      | refine LeO.bind ?_ (fun _ => ?_)
set_option maxHeartbeats 8000000 in
set_option maxRecDepth 100000 in
theorem laws_markIntS.calls (k : Nat) (P0_ : Nat → Prop) (u9000_ : Value) (l0 : List Int) (a1 : Int) (r1 : Int) (r2 : List Int) (w0 w : World) (hB : Below w0.heap.size w0 w) (ho0 : Kd.Q (Kd.int .i64) 3 w w0.heap.size P0_ u9000_ l0) (h : laws_markIntS.f k l0 a1 = some (r1, r2)) :
    Calls Try.prog 17 #[u9000_, .int .i64 a1] w fun e w' => e = .returned (.int .i64 r1) ∧ Kd.Q (Kd.int .i64) 3 w' w0.heap.size (fun k_ => (P0_ k_ ∨ w.heap.size ≤ k_)) u9000_ r2 ∧ Below w0.heap.size w0 w' ∧ Kept w w' (fun k_ => P0_ k_) := by
  have HO0 := Aside0.mk (show Kd.Q (Kd.int .i64) 3 w w0.heap.size (fun k_ => (P0_ k_ ∨ w.heap.size ≤ k_)) u9000_ l0 from Kd.Q_mono ho0 (fun k_ hk => (.inl hk)))
  have HK := Aside0.mk (Kept.refl w (fun k_ => P0_ k_))
  have HW0 := Aside0.mk hB.size
  have HB := Aside0.mk hB
  clear hB
  have H : (laws_markIntS.l0 k l0 a1 0) = some (r1, r2) := h
  clear h
  have H' := Aside0.mk H
  clear H
  go_enter Try.func17, Try.ntmps17
  go_wp2
  go_loopg [1, 5] k (fun kq v1 v5 w' => ∃ (x0_1 : List Int) (x1_1 : Int) (x5_1 : Int), v1 = .int .i64 x1_1 ∧ v5 = .int .i64 x5_1 ∧ Aside0 (laws_markIntS.l0 kq x0_1 x1_1 x5_1 = some (r1, r2)) ∧ Aside0 (kq ≤ k) ∧ Aside0 (Kd.Q (Kd.int .i64) 3 w' w0.heap.size (fun k_ => (P0_ k_ ∨ w.heap.size ≤ k_)) u9000_ x0_1) ∧ Aside0 (Kept w w' (fun k_ => P0_ k_)) ∧ Aside0 (Below w0.heap.size w0 w'))
  case atStart => exact ⟨(l0), (a1), (0), (by first | rfl | (simp; done) | (simp [*]; done)), (by first | rfl | (simp; done) | (simp [*]; done)), H', ⟨Nat.le_refl _⟩, ⟨by (with_reducible repeat (first | apply Kd.Q_alloc | apply Kd.Q_drewN | apply Kd.Q_drew)); exact HO0.out⟩, ⟨by repeat (first | (with_reducible first | exact HK.out | apply Kept.alloc | apply Kept.drewN | apply Kept.drew) | exact HK.out)⟩, ⟨by repeat (first | (with_reducible first | exact HB.out | apply below_alloc | apply pw_below_drewN | apply below_drew1) | exact HB.out)⟩⟩
  case round =>
    clear H'
    try clear c1
    try clear p2
    obtain ⟨x0_1, x1_1, x5_1, rfl, rfl, HA, HK1, HO_0, HK, HB⟩ := hrel
    cases gk with
    | zero => exact absurd HA.out (by simp [laws_markIntS.l0])
    | succ k1 =>
      have H := HA.out
      clear HA
      simp only [laws_markIntS.l0] at H
      by_cases c3 : x5_1 < (x0_1.length : Int)
      · rw [if_pos c3] at H
        have c3b0 : decide (x5_1 < (x0_1.length : Int)) = true := decide_eq_true c3
        clear c3
        by_cases c4 : 0 ≤ x5_1
        · rw [if_pos c4] at H
          have c4b0 : decide (0 ≤ x5_1) = true := decide_eq_true c4
          clear c4
          obtain ⟨y122, hy122⟩ : ∃ y_ : List Int, y_ = (x0_1.set (x5_1 : Int).toNat x1_1) := ⟨_, rfl⟩
          replace H : (laws_markIntS.l0 k1 y122 (wrap64 (x1_1 + 1)) (wrap64 (x5_1 + 1))) = some (r1, r2) := by first | (rw [hy122]; with_reducible exact H) | (have H2_ := (Option.bind_some _ _).symm.trans H; rw [hy122]; with_reducible exact H2_) | (have H2_ := (Option.bind_some _ _).symm.trans H; with_reducible exact H2_) | with_reducible exact H | (rw [hy122]; exact H) | exact H
          have Ny122 := Aside0.mk hy122
          clear hy122
          have H' := Aside0.mk H
          clear H
          obtain ⟨Ao6, co6, eo6, _⟩ := Kd.Q_slice HO_0.out
          subst eo6
          have p5 : 0 ≤ (x5_1 : Int) := of_decide_eq_true (by first | (with_reducible assumption) | assumption)
          have q5 : (x5_1 : Int) < ((x0_1.length : Int) : Int) := of_decide_eq_true (by first | (with_reducible assumption) | assumption)
          obtain ⟨go5, oo5, co5, eo5, gb5, gl5, cl5, HG5⟩ := Kd.Q_form HO_0.out (by omega)
          (first | cases eo5 | (injection eo5 with ea_ en_ ec_; (first | subst ea_ | (injection ea_ with ea_; subst ea_)); subst ec_; clear en_))
          have GB5 := Aside0.mk gb5
          have GG5 := Aside0.mk HG5
          clear gb5 gl5 HG5
          have HMgo5 := Aside0.mk (show (P0_ go5 ∨ w.heap.size ≤ go5) from (HO_0.out.1 _ rfl))
          obtain ⟨hx5_0, hf5_0⟩ := Kd.Q_cell 0 HO_0.out (x5_1 : Int) p5 q5
          replace p5 := eq_true p5
          replace q5 := eq_true q5
          have HP7 := Kd.Q_putg HO_0.out (x5_1 : Int) (of_decide_eq_true (by first | (with_reducible assumption) | assumption)) (by have h_ : (x5_1 : Int) < ((x0_1.length : Int) : Int) := of_decide_eq_true (by first | (with_reducible assumption) | assumption); first | exact h_ | (have e_ := (Kd.Q_reads' HO_0.out).1; omega) | simpa using h_) x1_1
          go_wp2_with (first | ((with_reducible refine gate_store (t := 3) (p := 15) rfl ?_); refine store_event (t := 3) (p := 15) (v := ?vo_w8) (w1 := (wr.setCell ⟨go5, oo5 + (x5_1 : Int).toNat, none⟩ (.int .i64 x1_1))) ?hg ?ho ?hn ?hr ?_; (case ho => rfl); (case hg => rfl); (case hn => rfl); (case hr => first | (go_simp; done) | (go_simp; rfl)); intro w8 hw; have hg : wr.grownBy w8 (some go5) := (by rw [hw]; exact HP7.2); have hp_ : Kd.Q (Kd.int .i64) 3 w8 w0.heap.size (fun k_ => (P0_ k_ ∨ w.heap.size ≤ k_)) (.slice (some ⟨go5, oo5, none⟩) x0_1.length co6) y122 := (by rw [hw, Ny122.out]; exact HP7.1); clear HP7; have n0_ := Aside0.mk (hp_); have n1_ := Aside0.mk ((by rw [hw]; exact below_set (HB.out) GB5.out : Below w0.heap.size w0 w8)); have n2_ := Aside0.mk (Kept.of_grown (S := (fun k_ => P0_ k_)) hg (by repeat (first | (with_reducible first | exact HK.out | apply Kept.alloc | apply Kept.drewN | apply Kept.drew) | exact HK.out)) (fun k_ e_ => (HO_0.out.1 k_ e_))); clear HO_0; clear HB; clear HK; have HO_0 := n0_; have HB := n1_; have HK := n2_; clear n0_ n1_ n2_; clear hg hw hp_))
          go_roundg k1
          case measure => have := HK1.out; omega
          case rel => exact ⟨(y122), (wrap64 (x1_1 + 1)), (wrap64 (x5_1 + 1)), (by first | rfl | (simp; done) | (simp [*]; done)), (by first | rfl | (simp; done) | (simp [*]; done)), H', ⟨by have := HK1.out; omega⟩, ⟨by (with_reducible repeat (first | apply Kd.Q_alloc | apply Kd.Q_drewN | apply Kd.Q_drew)); exact HO_0.out⟩, ⟨by repeat (first | (with_reducible first | exact HK.out | apply Kept.alloc | apply Kept.drewN | apply Kept.drew) | exact HK.out)⟩, ⟨by repeat (first | (with_reducible first | exact HB.out | apply below_alloc | apply pw_below_drewN | apply below_drew1) | exact HB.out)⟩⟩
        · rw [if_neg c4] at H
          exact absurd H (by simp)
      · rw [if_neg c3] at H
        have c3b0 : decide (x5_1 < (x0_1.length : Int)) = false := decide_eq_false c3
        clear c3
        simp only [Option.some.injEq, Prod.mk.injEq] at H
        obtain ⟨rfl, rfl⟩ := H
        obtain ⟨Ao9, co9, eo9, _⟩ := Kd.Q_slice HO_0.out
        subst eo9
        go_wp2
        go_ret
        exact ⟨by first | rfl | (simp [errW_none, errW_some] <;> rfl) | (simp [*, errW_none, errW_some] <;> rfl), by (with_reducible repeat (first | apply Kd.Q_alloc | apply Kd.Q_drewN | apply Kd.Q_drew)); exact HO_0.out, by repeat (first | (with_reducible first | exact HB.out | apply below_alloc | apply pw_below_drewN | apply below_drew1) | exact HB.out), by repeat (first | (with_reducible first | exact HK.out | apply Kept.alloc | apply Kept.drewN | apply Kept.drew) | exact HK.out)⟩

/-! ### laws_heldIntS: function 18 -/
def laws_heldIntS.l0 : Nat → List Int → Int → Int → Option (Int)
  | 0, _, _, _ => none
  | k + 1, x0, x1, x5 => if x5 < (x0.length : Int) then (if 0 ≤ x5 then (if (rd x0 x5) = x1 then (laws_heldIntS.l0 k x0 (wrap64 (x1 + 1)) (wrap64 (x5 + 1))) else (some (-1))) else (none)) else (some x1)
def laws_heldIntS.f (k : Nat) (l0 : List Int) (a1 : Int) : Option (Int) := laws_heldIntS.l0 k l0 a1 0
theorem laws_heldIntS.mono_l : ∀ k, (∀ y0 y1 y2, LeO (laws_heldIntS.l0 k y0 y1 y2) (laws_heldIntS.l0 (k + 1) y0 y1 y2))
  | 0 => fun _ _ _ r h => by simp [laws_heldIntS.l0] at h
  | k + 1 => by
    have ih0 := laws_heldIntS.mono_l k
    · intro y0 y1 y2
      unfold laws_heldIntS.l0
      repeat' first
      | (with_reducible exact ih0 _ _ _)
      | (with_reducible exact LeO.refl _)
      | (with_reducible exact LeO.none _)
      | (with_reducible refine LeO.ite ?_ ?_)
      | (with_reducible refine LeO.bind ?_ (fun _ => ?_))
      | exact ih0 _ _ _
      | exact LeO.none _
      | refine LeO.ite ?_ ?_
      | refine LeO.bind ?_ (fun _ => ?_)
theorem laws_heldIntS.mono : ∀ a0 a1 k, LeO (laws_heldIntS.f k a0 a1) (laws_heldIntS.f (k + 1) a0 a1) := by
  intro a0 a1 k
  have ih0 := laws_heldIntS.mono_l k
  unfold laws_heldIntS.f
  repeat' first
      | (with_reducible exact ih0 _ _ _)
      | (with_reducible exact LeO.refl _)
      | (with_reducible exact LeO.none _)
      | (with_reducible refine LeO.ite ?_ ?_)
      | (with_reducible refine LeO.bind ?_ (fun _ => ?_))
      | exact ih0 _ _ _
      | exact LeO.none _
      | refine LeO.ite ?_ ?_
      | refine LeO.bind ?_ (fun _ => ?_)
set_option maxHeartbeats 8000000 in
set_option maxRecDepth 100000 in
theorem laws_heldIntS.calls (k : Nat) (A0 : Option Addr) (c0 : Nat) (l0 : List Int) (a1 : Int) (r : Int) (w : World) (hr0 : Kd.C (Kd.int .i64) w A0 l0.length l0) (hc0 : l0.length ≤ c0) (h : laws_heldIntS.f k l0 a1 = some r) :
    Calls Try.prog 18 #[.slice A0 l0.length c0, .int .i64 a1] w fun e w' => e = .returned (.int .i64 r) ∧ Drawn0 w w' := by
  have HR0 := Aside0.mk hr0
  have HC0 := Aside0.mk hc0
  clear hr0 hc0
  have H : (laws_heldIntS.l0 k l0 a1 0) = some r := h
  clear h
  have H' := Aside0.mk H
  clear H
  go_enter Try.func18, Try.ntmps18
  go_wp2
  go_loopg [1, 5] k (fun kq v1 v5 w' => ∃ (x1_1 : Int) (x5_1 : Int), v1 = .int .i64 x1_1 ∧ v5 = .int .i64 x5_1 ∧ Aside0 (laws_heldIntS.l0 kq l0 x1_1 x5_1 = some r) ∧ Aside0 (kq ≤ k) ∧ Drawn0 w w')
  case atStart => exact ⟨(a1), (0), (by first | rfl | (simp; done) | (simp [*]; done)), (by first | rfl | (simp; done) | (simp [*]; done)), H', ⟨Nat.le_refl _⟩, by repeat (first | exact Drawn0.refl _ | apply Drawn0.step)⟩
  case round =>
    clear H'
    try clear c1
    try clear p2
    obtain ⟨x1_1, x5_1, rfl, rfl, HA, HK1, ⟨m1, rfl⟩⟩ := hrel
    cases gk with
    | zero => exact absurd HA.out (by simp [laws_heldIntS.l0])
    | succ k1 =>
      have H := HA.out
      clear HA
      simp only [laws_heldIntS.l0] at H
      by_cases c3 : x5_1 < (l0.length : Int)
      · rw [if_pos c3] at H
        have c3b0 : decide (x5_1 < (l0.length : Int)) = true := decide_eq_true c3
        clear c3
        by_cases c4 : 0 ≤ x5_1
        · rw [if_pos c4] at H
          have c4b0 : decide (0 ≤ x5_1) = true := decide_eq_true c4
          clear c4
          by_cases c5 : (rd l0 x5_1) = x1_1
          · rw [if_pos c5] at H
            have c5b0 : ((rd l0 x5_1) == x1_1) = true := beq_iff_eq.mpr c5
            have c5b1 : ((rd l0 x5_1) != x1_1) = false := bne_eq_false_iff_eq.mpr c5
            clear c5
            have H' := Aside0.mk H
            clear H
            have p123 : 0 ≤ (x5_1 : Int) := of_decide_eq_true (by first | (with_reducible assumption) | assumption)
            have q123 : x5_1 < (l0.length : Int) := of_decide_eq_true (by first | (with_reducible assumption) | assumption)
            obtain ⟨ad123, e123, hx123_0⟩ := Kd.at_int HR0.out x5_1 p123 q123
            cases e123
            replace p123 := eq_true p123
            replace q123 := eq_true q123
            go_wp2
            go_roundg k1
            case measure => have := HK1.out; omega
            case rel => exact ⟨(wrap64 (x1_1 + 1)), (wrap64 (x5_1 + 1)), (by first | rfl | (simp; done) | (simp [*]; done)), (by first | rfl | (simp; done) | (simp [*]; done)), H', ⟨by have := HK1.out; omega⟩, by repeat (first | exact Drawn0.refl _ | apply Drawn0.step)⟩
          · rw [if_neg c5] at H
            have c5b0 : ((rd l0 x5_1) == x1_1) = false := beq_eq_false_iff_ne.mpr c5
            have c5b1 : ((rd l0 x5_1) != x1_1) = true := bne_iff_ne.mpr c5
            obtain rfl := Option.some.inj H
            have p123 : 0 ≤ (x5_1 : Int) := of_decide_eq_true (by first | (with_reducible assumption) | assumption)
            have q123 : x5_1 < (l0.length : Int) := of_decide_eq_true (by first | (with_reducible assumption) | assumption)
            obtain ⟨ad123, e123, hx123_0⟩ := Kd.at_int HR0.out x5_1 p123 q123
            cases e123
            replace p123 := eq_true p123
            replace q123 := eq_true q123
            go_wp2
            go_ret
            exact ⟨by first | rfl | (simp; done) | (simp [*]; done), by repeat (first | exact Drawn0.refl _ | apply Drawn0.step)⟩
        · rw [if_neg c4] at H
          exact absurd H (by simp)
      · rw [if_neg c3] at H
        have c3b0 : decide (x5_1 < (l0.length : Int)) = false := decide_eq_false c3
        clear c3
        obtain rfl := Option.some.inj H
        go_wp2
        go_ret
        exact ⟨by first | rfl | (simp; done) | (simp [*]; done), by repeat (first | exact Drawn0.refl _ | apply Drawn0.step)⟩

/-! ### laws_szIntS: function 40 -/
def laws_szIntS.f (l0 : List Int) (a1 : Int) : Option (Int) := if (wrap64 (a1 - (l0.length : Int))) < 0 then (some (-1)) else (some (wrap64 (a1 - (l0.length : Int))))
set_option maxHeartbeats 8000000 in
set_option maxRecDepth 100000 in
theorem laws_szIntS.calls (A0 : Option Addr) (c0 : Nat) (l0 : List Int) (a1 : Int) (r : Int) (w : World) (hr0 : Kd.C (Kd.int .i64) w A0 l0.length l0) (hc0 : l0.length ≤ c0) (h : laws_szIntS.f l0 a1 = some r) :
    Calls Try.prog 40 #[.slice A0 l0.length c0, .int .i64 a1] w fun e w' => e = .returned (.int .i64 r) ∧ Drawn0 w w' := by
  have HR0 := Aside0.mk hr0
  have HC0 := Aside0.mk hc0
  clear hr0 hc0
  have H : (if (wrap64 (a1 - (l0.length : Int))) < 0 then (some (-1)) else (some (wrap64 (a1 - (l0.length : Int))))) = some r := h
  clear h
  by_cases c3 : (wrap64 (a1 - (l0.length : Int))) < 0
  · rw [if_pos c3] at H
    have c3b0 : decide ((wrap64 (a1 - (l0.length : Int))) < 0) = true := decide_eq_true c3
    clear c3
    obtain rfl := Option.some.inj H
    go_enter Try.func40, Try.ntmps40
    go_wp2
    go_ret
    exact ⟨by first | rfl | (simp; done) | (simp [*]; done), by repeat (first | exact Drawn0.refl _ | apply Drawn0.step)⟩
  · rw [if_neg c3] at H
    have c3b0 : decide ((wrap64 (a1 - (l0.length : Int))) < 0) = false := decide_eq_false c3
    clear c3
    obtain rfl := Option.some.inj H
    go_enter Try.func40, Try.ntmps40
    go_wp2
    go_ret
    exact ⟨by first | rfl | (simp; done) | (simp [*]; done), by repeat (first | exact Drawn0.refl _ | apply Drawn0.step)⟩

/-! ### laws_szIntSS: function 19 -/
def laws_szIntSS.l0 : Nat → List (List Int) → Int → Int → Option (Int)
  | 0, _, _, _ => none
  | k + 1, x0, x1, x5 => if x5 < (x0.length : Int) then (if 0 ≤ x5 then ((laws_szIntS.f (rd_L3 x0 x5) x1).bind fun t125 => (if t125 < 0 then (some (-1)) else (laws_szIntSS.l0 k x0 t125 (wrap64 (x5 + 1))))) else (none)) else (some x1)
def laws_szIntSS.f (k : Nat) (l0 : List (List Int)) (a1 : Int) : Option (Int) := if (wrap64 (a1 - (l0.length : Int))) < 0 then (some (-1)) else (laws_szIntSS.l0 k l0 (wrap64 (a1 - (l0.length : Int))) 0)
theorem laws_szIntSS.mono_l : ∀ k, (∀ y0 y1 y2, LeO (laws_szIntSS.l0 k y0 y1 y2) (laws_szIntSS.l0 (k + 1) y0 y1 y2))
  | 0 => fun _ _ _ r h => by simp [laws_szIntSS.l0] at h
  | k + 1 => by
    have ih0 := laws_szIntSS.mono_l k
    · intro y0 y1 y2
      unfold laws_szIntSS.l0
      repeat' first
      | (with_reducible exact ih0 _ _ _)
      | (with_reducible exact LeO.refl _)
      | (with_reducible exact LeO.none _)
      | (with_reducible refine LeO.ite ?_ ?_)
      | (with_reducible refine LeO.bind ?_ (fun _ => ?_))
      | exact ih0 _ _ _
      | exact LeO.none _
      | refine LeO.ite ?_ ?_
      | refine LeO.bind ?_ (fun _ => ?_)
theorem laws_szIntSS.mono : ∀ a0 a1 k, LeO (laws_szIntSS.f k a0 a1) (laws_szIntSS.f (k + 1) a0 a1) := by
  intro a0 a1 k
  have ih0 := laws_szIntSS.mono_l k
  unfold laws_szIntSS.f
  repeat' first
      | (with_reducible exact ih0 _ _ _)
      | (with_reducible exact LeO.refl _)
      | (with_reducible exact LeO.none _)
      | (with_reducible refine LeO.ite ?_ ?_)
      | (with_reducible refine LeO.bind ?_ (fun _ => ?_))
      | exact ih0 _ _ _
      | exact LeO.none _
      | refine LeO.ite ?_ ?_
      | refine LeO.bind ?_ (fun _ => ?_)
set_option maxHeartbeats 8000000 in
set_option maxRecDepth 100000 in
theorem laws_szIntSS.calls (k : Nat) (A0 : Option Addr) (c0 : Nat) (l0 : List (List Int)) (a1 : Int) (r : Int) (w : World) (hr0 : Kd.C (Kd.slice 3 (Kd.int .i64)) w A0 l0.length l0) (hc0 : l0.length ≤ c0) (h : laws_szIntSS.f k l0 a1 = some r) :
    Calls Try.prog 19 #[.slice A0 l0.length c0, .int .i64 a1] w fun e w' => e = .returned (.int .i64 r) ∧ Drawn0 w w' := by
  have HR0 := Aside0.mk hr0
  have HC0 := Aside0.mk hc0
  clear hr0 hc0
  have H : (if (wrap64 (a1 - (l0.length : Int))) < 0 then (some (-1)) else (laws_szIntSS.l0 k l0 (wrap64 (a1 - (l0.length : Int))) 0)) = some r := h
  clear h
  by_cases c3 : (wrap64 (a1 - (l0.length : Int))) < 0
  · rw [if_pos c3] at H
    have c3b0 : decide ((wrap64 (a1 - (l0.length : Int))) < 0) = true := decide_eq_true c3
    clear c3
    obtain rfl := Option.some.inj H
    go_enter Try.func19, Try.ntmps19
    go_wp2
    go_ret
    exact ⟨by first | rfl | (simp; done) | (simp [*]; done), by repeat (first | exact Drawn0.refl _ | apply Drawn0.step)⟩
  · rw [if_neg c3] at H
    have c3b0 : decide ((wrap64 (a1 - (l0.length : Int))) < 0) = false := decide_eq_false c3
    clear c3
    have H' := Aside0.mk H
    clear H
    go_enter Try.func19, Try.ntmps19
    go_wp2
    go_loopg [1, 5] k (fun kq v1 v5 w' => ∃ (x1_1 : Int) (x5_1 : Int), v1 = .int .i64 x1_1 ∧ v5 = .int .i64 x5_1 ∧ Aside0 (laws_szIntSS.l0 kq l0 x1_1 x5_1 = some r) ∧ Aside0 (kq ≤ k) ∧ Drawn0 w w')
    case atStart => exact ⟨(wrap64 (a1 - (l0.length : Int))), (0), (by first | rfl | (simp; done) | (simp [*]; done)), (by first | rfl | (simp; done) | (simp [*]; done)), H', ⟨Nat.le_refl _⟩, by repeat (first | exact Drawn0.refl _ | apply Drawn0.step)⟩
    case round =>
      clear H'
      try clear c1
      try clear p2
      try clear c3
      try clear c3b0
      obtain ⟨x1_1, x5_1, rfl, rfl, HA, HK1, ⟨m1, rfl⟩⟩ := hrel
      cases gk with
      | zero => exact absurd HA.out (by simp [laws_szIntSS.l0])
      | succ k1 =>
        have H := HA.out
        clear HA
        simp only [laws_szIntSS.l0] at H
        by_cases c4 : x5_1 < (l0.length : Int)
        · rw [if_pos c4] at H
          have c4b0 : decide (x5_1 < (l0.length : Int)) = true := decide_eq_true c4
          clear c4
          by_cases c5 : 0 ≤ x5_1
          · rw [if_pos c5] at H
            have c5b0 : decide (0 ≤ x5_1) = true := decide_eq_true c5
            clear c5
            replace H := Option.bind_eq_some_iff.mp H
            obtain ⟨t125, A60, H⟩ := H
            replace H : (if t125 < 0 then (some (-1)) else (laws_szIntSS.l0 k1 l0 t125 (wrap64 (x5_1 + 1)))) = some r := H
            have A6 := Aside0.mk A60
            clear A60
            by_cases c7 : t125 < 0
            · rw [if_pos c7] at H
              have c7b0 : decide (t125 < 0) = true := decide_eq_true c7
              clear c7
              obtain rfl := Option.some.inj H
              have p124 : 0 ≤ (x5_1 : Int) := of_decide_eq_true (by first | (with_reducible assumption) | assumption)
              have q124 : x5_1 < (l0.length : Int) := of_decide_eq_true (by first | (with_reducible assumption) | assumption)
              obtain ⟨ad124, A124_0, c124_0, e124, hx124_0, hl124_0, hi124_0⟩ := at_L3 HR0.out x5_1 p124 q124
              cases e124
              have HR124_0 := Aside0.mk hi124_0
              have HC124_0 := Aside0.mk hl124_0
              clear hi124_0 hl124_0
              replace p124 := eq_true p124
              replace q124 := eq_true q124
              go_wp2_with (first | ((with_reducible refine gate_callee (f := 40) rfl ?_); refine goesL_ (some 23) rfl rfl Try.func40 (by kernel_rfl) rfl #[.slice A124_0 (rd_L3 l0 x5_1).length c124_0, .int .i64 x1_1] rfl (by (try simp only [List.map_toArray, List.map_cons, List.map_nil]); first | done | rfl | (simp only [List.length_drop, List.length_take]; rfl)) ?_; (with_reducible refine (laws_szIntS.calls _ _ (rd_L3 l0 x5_1) x1_1 t125 _ ?side1 ?side2 A6.out).mono ?_); (case side1 => repeat (first | exact HR124_0.out | (with_reducible refine Kd.C_alloc ?_ _) | (with_reducible refine Kd.C_drewN ?_ _) | (with_reducible refine Kd.C_drew ?_))); (case side2 => exact HC124_0.out); rintro e w' ⟨rfl, ⟨nd, rfl⟩⟩; refine ⟨_, rfl, ?_⟩))
              go_ret
              exact ⟨by first | rfl | (simp; done) | (simp [*]; done), by repeat (first | exact Drawn0.refl _ | apply Drawn0.step)⟩
            · rw [if_neg c7] at H
              have c7b0 : decide (t125 < 0) = false := decide_eq_false c7
              clear c7
              have H' := Aside0.mk H
              clear H
              have p124 : 0 ≤ (x5_1 : Int) := of_decide_eq_true (by first | (with_reducible assumption) | assumption)
              have q124 : x5_1 < (l0.length : Int) := of_decide_eq_true (by first | (with_reducible assumption) | assumption)
              obtain ⟨ad124, A124_0, c124_0, e124, hx124_0, hl124_0, hi124_0⟩ := at_L3 HR0.out x5_1 p124 q124
              cases e124
              have HR124_0 := Aside0.mk hi124_0
              have HC124_0 := Aside0.mk hl124_0
              clear hi124_0 hl124_0
              replace p124 := eq_true p124
              replace q124 := eq_true q124
              go_wp2_with (first | ((with_reducible refine gate_callee (f := 40) rfl ?_); refine goesL_ (some 23) rfl rfl Try.func40 (by kernel_rfl) rfl #[.slice A124_0 (rd_L3 l0 x5_1).length c124_0, .int .i64 x1_1] rfl (by (try simp only [List.map_toArray, List.map_cons, List.map_nil]); first | done | rfl | (simp only [List.length_drop, List.length_take]; rfl)) ?_; (with_reducible refine (laws_szIntS.calls _ _ (rd_L3 l0 x5_1) x1_1 t125 _ ?side1 ?side2 A6.out).mono ?_); (case side1 => repeat (first | exact HR124_0.out | (with_reducible refine Kd.C_alloc ?_ _) | (with_reducible refine Kd.C_drewN ?_ _) | (with_reducible refine Kd.C_drew ?_))); (case side2 => exact HC124_0.out); rintro e w' ⟨rfl, ⟨nd, rfl⟩⟩; refine ⟨_, rfl, ?_⟩))
              go_roundg k1
              case measure => have := HK1.out; omega
              case rel => exact ⟨(t125), (wrap64 (x5_1 + 1)), (by first | rfl | (simp; done) | (simp [*]; done)), (by first | rfl | (simp; done) | (simp [*]; done)), H', ⟨by have := HK1.out; omega⟩, by repeat (first | exact Drawn0.refl _ | apply Drawn0.step)⟩
          · rw [if_neg c5] at H
            exact absurd H (by simp)
        · rw [if_neg c4] at H
          have c4b0 : decide (x5_1 < (l0.length : Int)) = false := decide_eq_false c4
          clear c4
          obtain rfl := Option.some.inj H
          go_wp2
          go_ret
          exact ⟨by first | rfl | (simp; done) | (simp [*]; done), by repeat (first | exact Drawn0.refl _ | apply Drawn0.step)⟩

/-! ### spec_l1In: function 42 -/
def spec_l1In.f (a0 : Int) (a1 : Int) (a2 : Int) : Option (Bool) := if a0 ≥ a1 then (some (decide (a0 ≤ a2))) else (some false)
set_option maxHeartbeats 8000000 in
set_option maxRecDepth 100000 in
theorem spec_l1In.calls (a0 : Int) (a1 : Int) (a2 : Int) (r : Bool) (w : World) (h : spec_l1In.f a0 a1 a2 = some r) :
    Calls Try.prog 42 #[.int .i64 a0, .int .i64 a1, .int .i64 a2] w fun e w' => e = .returned (.bool r) ∧ Drawn0 w w' := by
  have H : (if a0 ≥ a1 then (some (decide (a0 ≤ a2))) else (some false)) = some r := h
  clear h
  by_cases c4 : a0 ≥ a1
  · rw [if_pos c4] at H
    have c4b0 : decide (a1 ≤ a0) = true := decide_eq_true c4
    clear c4
    obtain rfl := Option.some.inj H
    go_enter Try.func42, Try.ntmps42
    go_wp2
    go_ret
    exact ⟨by first | rfl | (simp; done) | (simp [*]; done), by repeat (first | exact Drawn0.refl _ | apply Drawn0.step)⟩
  · rw [if_neg c4] at H
    have c4b0 : decide (a1 ≤ a0) = false := decide_eq_false c4
    clear c4
    obtain rfl := Option.some.inj H
    go_enter Try.func42, Try.ntmps42
    go_wp2
    go_ret
    exact ⟨by first | rfl | (simp; done) | (simp [*]; done), by repeat (first | exact Drawn0.refl _ | apply Drawn0.step)⟩

/-! ### spec_l9Source: function 43 -/
def spec_l9Source.f (a0 : Int) (a1 : Int) (a2 : Int) : Option (Bool) := (spec_l1In.f a0 (wrap64 (-a2)) (wrap64 (a1 - 1))).bind fun t126 => (some t126)
set_option maxHeartbeats 8000000 in
set_option maxRecDepth 100000 in
theorem spec_l9Source.calls (a0 : Int) (a1 : Int) (a2 : Int) (r : Bool) (w : World) (h : spec_l9Source.f a0 a1 a2 = some r) :
    Calls Try.prog 43 #[.int .i64 a0, .int .i64 a1, .int .i64 a2] w fun e w' => e = .returned (.bool r) ∧ Drawn0 w w' := by
  have H : ((spec_l1In.f a0 (wrap64 (-a2)) (wrap64 (a1 - 1))).bind fun t126 => (some t126)) = some r := h
  clear h
  replace H := Option.bind_eq_some_iff.mp H
  obtain ⟨t126, A40, H⟩ := H
  replace H : (some t126) = some r := H
  have A4 := Aside0.mk A40
  clear A40
  obtain rfl := Option.some.inj H
  go_enter Try.func43, Try.ntmps43
  go_wp2_with (first | ((with_reducible refine gate_callee (f := 42) rfl ?_); refine goesL_ (some 12) rfl rfl Try.func42 (by kernel_rfl) rfl #[.int .i64 a0, .int .i64 (wrap64 (-a2)), .int .i64 (wrap64 (a1 - 1))] rfl (by (try simp only [List.map_toArray, List.map_cons, List.map_nil]); first | done | rfl | (simp only [List.length_drop, List.length_take]; rfl)) ?_; (with_reducible refine (spec_l1In.calls a0 (wrap64 (-a2)) (wrap64 (a1 - 1)) t126 _ A4.out).mono ?_); rintro e w' ⟨rfl, ⟨nd, rfl⟩⟩; refine ⟨_, rfl, ?_⟩))
  go_ret
  exact ⟨by first | rfl | (simp; done) | (simp [*]; done), by repeat (first | exact Drawn0.refl _ | apply Drawn0.step)⟩

/-! ### spec_l9Ready: function 44 -/
def spec_l9Ready.f (l0 : List (S52)) (l1 : List Bool) (a2 : Int) : Option (Bool) := if a2 < 0 then (some true) else (if 0 ≤ a2 then (if a2 < (l1.length : Int) then (if rdOf false l1 a2 = true then (some true) else (if a2 < (l0.length : Int) then (some (((rd_T52 l0 a2).f0) == 5)) else (none))) else (none)) else (none))
set_option maxHeartbeats 8000000 in
set_option maxRecDepth 100000 in
theorem spec_l9Ready.calls (A0 : Option Addr) (c0 : Nat) (l0 : List (S52)) (A1 : Option Addr) (c1 : Nat) (l1 : List Bool) (a2 : Int) (r : Bool) (w : World) (hr0 : Kd.C k52 w A0 l0.length l0) (hc0 : l0.length ≤ c0) (hr1 : Kd.C Kd.bool w A1 l1.length l1) (hc1 : l1.length ≤ c1) (h : spec_l9Ready.f l0 l1 a2 = some r) :
    Calls Try.prog 44 #[.slice A0 l0.length c0, .slice A1 l1.length c1, .int .i64 a2] w fun e w' => e = .returned (.bool r) ∧ Drawn0 w w' := by
  have HR0 := Aside0.mk hr0
  have HC0 := Aside0.mk hc0
  clear hr0 hc0
  have HR1 := Aside0.mk hr1
  have HC1 := Aside0.mk hc1
  clear hr1 hc1
  have H : (if a2 < 0 then (some true) else (if 0 ≤ a2 then (if a2 < (l1.length : Int) then (if rdOf false l1 a2 = true then (some true) else (if a2 < (l0.length : Int) then (some (((rd_T52 l0 a2).f0) == 5)) else (none))) else (none)) else (none))) = some r := h
  clear h
  by_cases c4 : a2 < 0
  · rw [if_pos c4] at H
    have c4b0 : decide (a2 < 0) = true := decide_eq_true c4
    clear c4
    obtain rfl := Option.some.inj H
    go_enter Try.func44, Try.ntmps44
    go_wp2
    go_ret
    exact ⟨by first | rfl | (simp; done) | (simp [*]; done), by repeat (first | exact Drawn0.refl _ | apply Drawn0.step)⟩
  · rw [if_neg c4] at H
    have c4b0 : decide (a2 < 0) = false := decide_eq_false c4
    clear c4
    by_cases c5 : 0 ≤ a2
    · rw [if_pos c5] at H
      have c5b0 : decide (0 ≤ a2) = true := decide_eq_true c5
      clear c5
      by_cases c6 : a2 < (l1.length : Int)
      · rw [if_pos c6] at H
        have c6b0 : decide (a2 < (l1.length : Int)) = true := decide_eq_true c6
        clear c6
        obtain ⟨bq7, hbq7⟩ : ∃ b_ : Bool, b_ = (rdOf false l1 a2) := ⟨_, rfl⟩
        replace H : (if bq7 = true then (some true) else (if a2 < (l0.length : Int) then (some (((rd_T52 l0 a2).f0) == 5)) else (none))) = some r := by rw [← hbq7] at H; exact H
        have Nbq7 := Aside0.mk hbq7
        clear hbq7
        by_cases c8 : bq7 = true
        · subst c8
          have H1 : (some true) = some r := by rw [if_pos rfl] at H; exact H
          clear H
          have H := H1
          clear H1
          obtain rfl := Option.some.inj H
          have p127 : 0 ≤ (a2 : Int) := of_decide_eq_true (by first | (with_reducible assumption) | assumption)
          have q127 : a2 < (l1.length : Int) := of_decide_eq_true (by first | (with_reducible assumption) | assumption)
          obtain ⟨ad127, e127, hx127_0⟩ := Kd.at_bool HR1.out a2 p127 q127
          (try rw [← Nbq7.out] at hx127_0)
          cases e127
          replace p127 := eq_true p127
          replace q127 := eq_true q127
          go_enter Try.func44, Try.ntmps44
          go_wp2
          go_ret
          exact ⟨by first | rfl | (simp; done) | (simp [*]; done), by repeat (first | exact Drawn0.refl _ | apply Drawn0.step)⟩
        · replace c8 := Bool.eq_false_iff.mpr c8
          subst c8
          have H1 : (if a2 < (l0.length : Int) then (some (((rd_T52 l0 a2).f0) == 5)) else (none)) = some r := by rw [if_neg (show ¬ (false = true) by decide)] at H; exact H
          clear H
          have H := H1
          clear H1
          by_cases c9 : a2 < (l0.length : Int)
          · rw [if_pos c9] at H
            have c9b0 : decide (a2 < (l0.length : Int)) = true := decide_eq_true c9
            clear c9
            obtain rfl := Option.some.inj H
            have p127 : 0 ≤ (a2 : Int) := of_decide_eq_true (by first | (with_reducible assumption) | assumption)
            have q127 : a2 < (l1.length : Int) := of_decide_eq_true (by first | (with_reducible assumption) | assumption)
            obtain ⟨ad127, e127, hx127_0⟩ := Kd.at_bool HR1.out a2 p127 q127
            (try rw [← Nbq7.out] at hx127_0)
            cases e127
            replace p127 := eq_true p127
            replace q127 := eq_true q127
            have p128 : 0 ≤ (a2 : Int) := of_decide_eq_true (by first | (with_reducible assumption) | assumption)
            have q128 : a2 < (l0.length : Int) := of_decide_eq_true (by first | (with_reducible assumption) | assumption)
            obtain ⟨ad128, e128, hx128_0, hx128_1, hx128_2⟩ := at_T52 HR0.out a2 p128 q128
            cases e128
            replace p128 := eq_true p128
            replace q128 := eq_true q128
            go_enter Try.func44, Try.ntmps44
            go_wp2
            go_ret
            exact ⟨by first | rfl | (simp; done) | (simp [*]; done), by repeat (first | exact Drawn0.refl _ | apply Drawn0.step)⟩
          · rw [if_neg c9] at H
            exact absurd H (by simp)
      · rw [if_neg c6] at H
        exact absurd H (by simp)
    · rw [if_neg c5] at H
      exact absurd H (by simp)

end Go.Proofs.Ytpefkclpnkefnaa.GFnExactRunDiagram

/- Functions of the program as Lean functions, with proofs that the machine comes to their answers; written by this session's program mkprint.py; no condition beyond each theorem's own. -/
import Derived.Test.YtmphligplngeaaaGFnExactLadderCoilsx0
namespace Go.Proofs.Ytmphligplngeaaa.GFnExactLadderCoils
open Go.RowKit Go.Proofs.YtmphligplngeaaaV.PrintWords Go.Proofs.YtmphligplngeaaaV.PrintLast Go.Proofs.YtmphligplngeaaaV.PrintMore
attribute [local go_sem] max2_int min2_int max_two min_two max_three min_three max_four min_four   -- for this text's walks alone
set_option linter.unusedVariables false
set_option linter.unusedSimpArgs false

/-! ### laws_markNodeS: function 30 -/
def laws_markNodeS.l0 : Nat → List (S69) → Int → Int → Option (Int × (List (S69)))
  | 0, _, _, _ => none
  | k + 1, x0, x1, x5 => if x5 < (x0.length : Int) then (if 0 ≤ x5 then ((some (x0.set (x5 : Int).toNat (⟨x1, (rd_T69 x0 x5).f1⟩ : S69) : List (S69))).bind fun y144 => (laws_markNodeS.l0 k (y144.set (x5 : Int).toNat (⟨(rd_T69 y144 x5).f0, wrap64 (x1 + 1)⟩ : S69)) (wrap64 ((wrap64 (x1 + 1)) + 1)) (wrap64 (x5 + 1)))) else (none)) else (some (x1, x0))
def laws_markNodeS.f (k : Nat) (l0 : List (S69)) (a1 : Int) : Option (Int × (List (S69))) := laws_markNodeS.l0 k l0 a1 0
theorem laws_markNodeS.mono_l : ∀ k, (∀ y0 y1 y2, LeO (laws_markNodeS.l0 k y0 y1 y2) (laws_markNodeS.l0 (k + 1) y0 y1 y2))
  | 0 => fun _ _ _ r h => by simp [laws_markNodeS.l0] at h
  | k + 1 => by
    have ih0 := laws_markNodeS.mono_l k
    · intro y0 y1 y2
      unfold laws_markNodeS.l0
      repeat' first
      | (with_reducible exact ih0 _ _ _)
      | (with_reducible exact LeO.refl _)
      | (with_reducible exact LeO.none _)
      | (with_reducible refine LeO.ite ?_ ?_)
      | (with_reducible refine LeO.bind ?_ (fun _ => ?_))
      | exact ih0 _ _ _
      | exact LeO.none _
      | refine LeO.ite ?_ ?_
      | refine LeO.bind ?_ (fun _ => ?_)
theorem laws_markNodeS.mono : ∀ a0 a1 k, LeO (laws_markNodeS.f k a0 a1) (laws_markNodeS.f (k + 1) a0 a1) := by
  intro a0 a1 k
  have ih0 := laws_markNodeS.mono_l k
  unfold laws_markNodeS.f
  repeat' first
      | (with_reducible exact ih0 _ _ _)
      | (with_reducible exact LeO.refl _)
      | (with_reducible exact LeO.none _)
      | (with_reducible refine LeO.ite ?_ ?_)
      | (with_reducible refine LeO.bind ?_ (fun _ => ?_))
      | exact ih0 _ _ _
      | exact LeO.none _
      | refine LeO.ite ?_ ?_
      | refine LeO.bind ?_ (fun _ => ?_)
set_option maxHeartbeats 8000000 in
set_option maxRecDepth 100000 in
theorem laws_markNodeS.calls (k : Nat) (P0_ : Nat → Prop) (u9000_ : Value) (l0 : List (S69)) (a1 : Int) (r1 : Int) (r2 : List (S69)) (w0 w : World) (hB : Below w0.heap.size w0 w) (ho0 : Kd.Q k69 69 w w0.heap.size P0_ u9000_ l0) (h : laws_markNodeS.f k l0 a1 = some (r1, r2)) :
    Calls Try.prog 30 #[u9000_, .int .i64 a1] w fun e w' => e = .returned (.int .i64 r1) ∧ Kd.Q k69 69 w' w0.heap.size (fun k_ => (P0_ k_ ∨ w.heap.size ≤ k_)) u9000_ r2 ∧ Below w0.heap.size w0 w' ∧ Kept w w' (fun k_ => P0_ k_) := by
  have HO0 := Aside0.mk (show Kd.Q k69 69 w w0.heap.size (fun k_ => (P0_ k_ ∨ w.heap.size ≤ k_)) u9000_ l0 from Kd.Q_mono ho0 (fun k_ hk => (.inl hk)))
  have HK := Aside0.mk (Kept.refl w (fun k_ => P0_ k_))
  have HW0 := Aside0.mk hB.size
  have HB := Aside0.mk hB
  clear hB
  have H : (laws_markNodeS.l0 k l0 a1 0) = some (r1, r2) := h
  clear h
  have H' := Aside0.mk H
  clear H
  go_enter Try.func30, Try.ntmps30
  go_wp2
  go_loopg [1, 5] k (fun kq v1 v5 w' => ∃ (x0_1 : List (S69)) (x1_1 : Int) (x5_1 : Int), v1 = .int .i64 x1_1 ∧ v5 = .int .i64 x5_1 ∧ Aside0 (laws_markNodeS.l0 kq x0_1 x1_1 x5_1 = some (r1, r2)) ∧ Aside0 (kq ≤ k) ∧ Aside0 (Kd.Q k69 69 w' w0.heap.size (fun k_ => (P0_ k_ ∨ w.heap.size ≤ k_)) u9000_ x0_1) ∧ Aside0 (Kept w w' (fun k_ => P0_ k_)) ∧ Aside0 (Below w0.heap.size w0 w'))
  case atStart => exact ⟨(l0), (a1), (0), (by first | rfl | (simp; done) | (simp [*]; done)), (by first | rfl | (simp; done) | (simp [*]; done)), H', ⟨Nat.le_refl _⟩, ⟨by (with_reducible repeat (first | apply Kd.Q_alloc | apply Kd.Q_drewN | apply Kd.Q_drew)); exact HO0.out⟩, ⟨by repeat (first | (with_reducible first | exact HK.out | apply Kept.alloc | apply Kept.drewN | apply Kept.drew) | exact HK.out)⟩, ⟨by repeat (first | (with_reducible first | exact HB.out | apply below_alloc | apply pw_below_drewN | apply below_drew1) | exact HB.out)⟩⟩
  case round =>
    clear H'
    try clear p2
    obtain ⟨x0_1, x1_1, x5_1, rfl, rfl, HA, HK1, HO_0, HK, HB⟩ := hrel
    cases gk with
    | zero => exact absurd HA.out (by simp [laws_markNodeS.l0])
    | succ k1 =>
      have H := HA.out
      clear HA
      simp only [laws_markNodeS.l0] at H
      by_cases c3 : x5_1 < (x0_1.length : Int)
      · rw [if_pos c3] at H
        have c3b0 : decide (x5_1 < (x0_1.length : Int)) = true := decide_eq_true c3
        clear c3
        by_cases c4 : 0 ≤ x5_1
        · rw [if_pos c4] at H
          have c4b0 : decide (0 ≤ x5_1) = true := decide_eq_true c4
          clear c4
          obtain ⟨y144, hy144⟩ : ∃ y_ : List (S69), y_ = (x0_1.set (x5_1 : Int).toNat (⟨x1_1, (rd_T69 x0_1 x5_1).f1⟩ : S69)) := ⟨_, rfl⟩
          replace H : (laws_markNodeS.l0 k1 (y144.set (x5_1 : Int).toNat (⟨(rd_T69 y144 x5_1).f0, wrap64 (x1_1 + 1)⟩ : S69)) (wrap64 ((wrap64 (x1_1 + 1)) + 1)) (wrap64 (x5_1 + 1))) = some (r1, r2) := by first | (rw [hy144]; with_reducible exact H) | (have H2_ := (Option.bind_some _ _).symm.trans H; rw [hy144]; with_reducible exact H2_) | (have H2_ := (Option.bind_some _ _).symm.trans H; with_reducible exact H2_) | with_reducible exact H | (rw [hy144]; exact H) | exact H
          have Ny144 := Aside0.mk hy144
          clear hy144
          obtain ⟨y145, hy145⟩ : ∃ y_ : List (S69), y_ = (y144.set (x5_1 : Int).toNat (⟨(rd_T69 y144 x5_1).f0, wrap64 (x1_1 + 1)⟩ : S69)) := ⟨_, rfl⟩
          replace H : (laws_markNodeS.l0 k1 y145 (wrap64 ((wrap64 (x1_1 + 1)) + 1)) (wrap64 (x5_1 + 1))) = some (r1, r2) := by first | (rw [hy145]; with_reducible exact H) | (have H2_ := (Option.bind_some _ _).symm.trans H; rw [hy145]; with_reducible exact H2_) | (have H2_ := (Option.bind_some _ _).symm.trans H; with_reducible exact H2_) | with_reducible exact H | (rw [hy145]; exact H) | exact H
          have Ny145 := Aside0.mk hy145
          clear hy145
          have H' := Aside0.mk H
          clear H
          obtain ⟨Ao7, co7, eo7, _⟩ := Kd.Q_slice HO_0.out
          subst eo7
          have p5 : 0 ≤ (x5_1 : Int) := of_decide_eq_true (by first | (with_reducible assumption) | assumption)
          have q5 : (x5_1 : Int) < ((x0_1.length : Int) : Int) := of_decide_eq_true (by first | (with_reducible assumption) | assumption)
          obtain ⟨go5, oo5, co5, eo5, gb5, gl5, cl5, HG5⟩ := Kd.Q_form HO_0.out (by omega)
          (first | cases eo5 | (injection eo5 with ea_ en_ ec_; (first | subst ea_ | (injection ea_ with ea_; subst ea_)); subst ec_; clear en_))
          have GB5 := Aside0.mk gb5
          have GG5 := Aside0.mk HG5
          clear gb5 gl5 HG5
          have HMgo5 := Aside0.mk (show (P0_ go5 ∨ w.heap.size ≤ go5) from (HO_0.out.1 _ rfl))
          obtain ⟨ce5, hcl5, hM5, hcc5, hfr5⟩ := Kd.Q_elem HO_0.out z69 (x5_1 : Int) p5 q5
          obtain rfl := k69_openM hM5
          have hx5_0 : wr.cell? ⟨go5, oo5 + (x5_1 : Int).toNat * 2, none⟩ = some (.int .i64 ((rd_T69 x0_1 x5_1).f0)) := hcc5 0 _ rfl
          have hx5_1 : wr.cell? ⟨go5, oo5 + (x5_1 : Int).toNat * 2 + 1, none⟩ = some (.int .i64 ((rd_T69 x0_1 x5_1).f1)) := hcc5 1 _ rfl
          have hf5_0 : wr.frozen? ⟨go5, oo5 + (x5_1 : Int).toNat * 2, none⟩ = false := hfr5 0
          have hf5_1 : wr.frozen? ⟨go5, oo5 + (x5_1 : Int).toNat * 2 + 1, none⟩ = false := hfr5 1
          clear hcl5 hcc5 hfr5 hM5
          replace p5 := eq_true p5
          replace q5 := eq_true q5
          have HX8 := Aside0.mk (show Kd.Q k69 69 wr w0.heap.size (fun k_ => (P0_ k_ ∨ w.heap.size ≤ k_)) (.slice (some ⟨go5, oo5, none⟩) x0_1.length co7) x0_1 from (by (with_reducible repeat (first | apply Kd.Q_alloc | apply Kd.Q_drewN | apply Kd.Q_drew)); exact HO_0.out))
          obtain ⟨ce8, hcl8, hM8, hcc8, hfr8⟩ := Kd.Q_elem HX8.out z69 (x5_1 : Int) (of_decide_eq_true (by first | (with_reducible assumption) | assumption)) (by have h_ : (x5_1 : Int) < ((x0_1.length : Int) : Int) := of_decide_eq_true (by first | (with_reducible assumption) | assumption); first | exact h_ | (have e_ := (Kd.Q_reads' HO_0.out).1; omega) | simpa using h_)
          obtain rfl := k69_openM hM8
          have HP8 := Kd.Q_seg HX8.out (x5_1 : Int) (of_decide_eq_true (by first | (with_reducible assumption) | assumption)) (by have h_ : (x5_1 : Int) < ((x0_1.length : Int) : Int) := of_decide_eq_true (by first | (with_reducible assumption) | assumption); first | exact h_ | (have e_ := (Kd.Q_reads' HO_0.out).1; omega) | simpa using h_) (seg := [.int .i64 x1_1]) (j := 0) hcl8 hcc8 (show 1 ≤ 2 from by decide) (x' := (⟨x1_1, (rd_T69 x0_1 x5_1).f1⟩ : S69)) (k69_mkM _ _ _ (⟨x1_1, (rd_T69 x0_1 x5_1).f1⟩ : S69) ) (fun _ hk => hk)
          have hx8_0 := hcc8 0 _ rfl
          (try simp only [show (k69).sz = 2 from rfl, Nat.mul_one, Nat.add_zero] at hx8_0)
          have hf8_0 := hfr8 0
          (try simp only [show (k69).sz = 2 from rfl, Nat.mul_one, Nat.add_zero] at hf8_0)
          clear hcl8 hcc8 hfr8 hM8
          go_wp2_with (first | ((with_reducible refine gate_store (t := 3) (p := 16) rfl ?_); refine store_event (t := 3) (p := 16) (v := ?vo_w9) (w1 := (wr.setCell ⟨go5, oo5 + (x5_1 : Int).toNat * 2, none⟩ (.int .i64 x1_1))) ?hg ?ho ?hn ?hr ?_; (case ho => rfl); (case hg => rfl); (case hn => rfl); (case hr => first | (go_simp; done) | (go_simp; rfl)); intro w9 hw; have hg : wr.grownBy w9 (some go5) := (by rw [hw]; exact HP8.2); have hp_ : Kd.Q k69 69 w9 w0.heap.size (fun k_ => (P0_ k_ ∨ w.heap.size ≤ k_)) (.slice (some ⟨go5, oo5, none⟩) x0_1.length co7) y144 := (by rw [hw, Ny144.out]; exact HP8.1); clear HP8; have n0_ := Aside0.mk (hp_); have n1_ := Aside0.mk ((by rw [hw]; exact below_set (HB.out) GB5.out : Below w0.heap.size w0 w9)); have n2_ := Aside0.mk (Kept.of_grown (S := (fun k_ => P0_ k_)) hg (by repeat (first | (with_reducible first | exact HK.out | apply Kept.alloc | apply Kept.drewN | apply Kept.drew) | exact HK.out)) (fun k_ e_ => (HO_0.out.1 k_ e_))); clear HO_0; clear HB; clear HK; have HO_0 := n0_; have HB := n1_; have HK := n2_; clear n0_ n1_ n2_; clear hg hw hp_; have p6 : 0 ≤ (x5_1 : Int) := of_decide_eq_true (by first | (with_reducible assumption) | assumption); have q6 : (x5_1 : Int) < ((x0_1.length : Int) : Int) := of_decide_eq_true (by first | (with_reducible assumption) | assumption); obtain ⟨ce6, hcl6, hM6, hcc6, hfr6⟩ := Kd.Q_elem HO_0.out z69 (x5_1 : Int) p6 q6; obtain rfl := k69_openM hM6; have hx6_0 : w9.cell? ⟨go5, oo5 + (x5_1 : Int).toNat * 2, none⟩ = some (.int .i64 ((rd_T69 y144 x5_1).f0)) := hcc6 0 _ rfl; have hx6_1 : w9.cell? ⟨go5, oo5 + (x5_1 : Int).toNat * 2 + 1, none⟩ = some (.int .i64 ((rd_T69 y144 x5_1).f1)) := hcc6 1 _ rfl; have hf6_0 : w9.frozen? ⟨go5, oo5 + (x5_1 : Int).toNat * 2, none⟩ = false := hfr6 0; have hf6_1 : w9.frozen? ⟨go5, oo5 + (x5_1 : Int).toNat * 2 + 1, none⟩ = false := hfr6 1; clear hcl6 hcc6 hfr6 hM6; replace p6 := eq_true p6; replace q6 := eq_true q6; have HX10 := Aside0.mk (show Kd.Q k69 69 w9 w0.heap.size (fun k_ => (P0_ k_ ∨ w.heap.size ≤ k_)) (.slice (some ⟨go5, oo5, none⟩) x0_1.length co7) y144 from (by (with_reducible repeat (first | apply Kd.Q_alloc | apply Kd.Q_drewN | apply Kd.Q_drew)); exact HO_0.out)); obtain ⟨ce10, hcl10, hM10, hcc10, hfr10⟩ := Kd.Q_elem HX10.out z69 (x5_1 : Int) (of_decide_eq_true (by first | (with_reducible assumption) | assumption)) (by have h_ : (x5_1 : Int) < ((x0_1.length : Int) : Int) := of_decide_eq_true (by first | (with_reducible assumption) | assumption); first | exact h_ | (have e_ := (Kd.Q_reads' HO_0.out).1; omega) | simpa using h_); obtain rfl := k69_openM hM10; have HP10 := Kd.Q_seg HX10.out (x5_1 : Int) (of_decide_eq_true (by first | (with_reducible assumption) | assumption)) (by have h_ : (x5_1 : Int) < ((x0_1.length : Int) : Int) := of_decide_eq_true (by first | (with_reducible assumption) | assumption); first | exact h_ | (have e_ := (Kd.Q_reads' HO_0.out).1; omega) | simpa using h_) (seg := [.int .i64 (wrap64 (x1_1 + 1))]) (j := 1) hcl10 hcc10 (show 2 ≤ 2 from by decide) (x' := (⟨(rd_T69 y144 x5_1).f0, wrap64 (x1_1 + 1)⟩ : S69)) (k69_mkM _ _ _ (⟨(rd_T69 y144 x5_1).f0, wrap64 (x1_1 + 1)⟩ : S69) ) (fun _ hk => hk); have hx10_1 := hcc10 1 _ rfl; (try simp only [show (k69).sz = 2 from rfl, Nat.mul_one, Nat.add_zero] at hx10_1); have hf10_1 := hfr10 1; (try simp only [show (k69).sz = 2 from rfl, Nat.mul_one, Nat.add_zero] at hf10_1); clear hcl10 hcc10 hfr10 hM10) | ((with_reducible refine gate_store (t := 3) (p := 23) rfl ?_); refine store_event (t := 3) (p := 23) (v := ?vo_w11) (w1 := (w9.setCell ⟨go5, oo5 + (x5_1 : Int).toNat * 2 + 1, none⟩ (.int .i64 (wrap64 (x1_1 + 1))))) ?hg ?ho ?hn ?hr ?_; (case ho => rfl); (case hg => rfl); (case hn => rfl); (case hr => first | (go_simp; done) | (go_simp; rfl)); intro w11 hw; have hg : w9.grownBy w11 (some go5) := (by rw [hw]; exact HP10.2); have hp_ : Kd.Q k69 69 w11 w0.heap.size (fun k_ => (P0_ k_ ∨ w.heap.size ≤ k_)) (.slice (some ⟨go5, oo5, none⟩) x0_1.length co7) y145 := (by rw [hw, Ny145.out]; exact HP10.1); clear HP10; have n0_ := Aside0.mk (hp_); have n1_ := Aside0.mk ((by rw [hw]; exact below_set (HB.out) GB5.out : Below w0.heap.size w0 w11)); have n2_ := Aside0.mk (Kept.of_grown (S := (fun k_ => P0_ k_)) hg (by repeat (first | (with_reducible first | exact HK.out | apply Kept.alloc | apply Kept.drewN | apply Kept.drew) | exact HK.out)) (fun k_ e_ => (HO_0.out.1 k_ e_))); clear HO_0; clear HB; clear HK; have HO_0 := n0_; have HB := n1_; have HK := n2_; clear n0_ n1_ n2_; clear hg hw hp_))
          go_roundg k1
          case measure => have := HK1.out; omega
          case rel => exact ⟨(y145), (wrap64 ((wrap64 (x1_1 + 1)) + 1)), (wrap64 (x5_1 + 1)), (by first | rfl | (simp; done) | (simp [*]; done)), (by first | rfl | (simp; done) | (simp [*]; done)), H', ⟨by have := HK1.out; omega⟩, ⟨by (with_reducible repeat (first | apply Kd.Q_alloc | apply Kd.Q_drewN | apply Kd.Q_drew)); exact HO_0.out⟩, ⟨by repeat (first | (with_reducible first | exact HK.out | apply Kept.alloc | apply Kept.drewN | apply Kept.drew) | exact HK.out)⟩, ⟨by repeat (first | (with_reducible first | exact HB.out | apply below_alloc | apply pw_below_drewN | apply below_drew1) | exact HB.out)⟩⟩
        · rw [if_neg c4] at H
          exact absurd H (by simp)
      · rw [if_neg c3] at H
        have c3b0 : decide (x5_1 < (x0_1.length : Int)) = false := decide_eq_false c3
        clear c3
        simp only [Option.some.injEq, Prod.mk.injEq] at H
        obtain ⟨rfl, rfl⟩ := H
        obtain ⟨Ao12, co12, eo12, _⟩ := Kd.Q_slice HO_0.out
        subst eo12
        go_wp2
        go_ret
        exact ⟨by first | rfl | (simp [errW_none, errW_some] <;> rfl) | (simp [*, errW_none, errW_some] <;> rfl), by (with_reducible repeat (first | apply Kd.Q_alloc | apply Kd.Q_drewN | apply Kd.Q_drew)); exact HO_0.out, by repeat (first | (with_reducible first | exact HB.out | apply below_alloc | apply pw_below_drewN | apply below_drew1) | exact HB.out), by repeat (first | (with_reducible first | exact HK.out | apply Kept.alloc | apply Kept.drewN | apply Kept.drew) | exact HK.out)⟩

/-! ### laws_markRungS: function 15 -/
/-- A block of rungs or of elements. -/
def laws_markRungS.In (W : World) (k : Nat) : Prop := ∃ (q : Nat) (cs : Array Value), (q = 60 ∨ q = 69) ∧ W.heap[k]? = some (.cells cs q (0, 0))
theorem laws_markRungS.apartR {α : Type} {d : Kd α} {e base : Nat} {W : World} {ok : Nat → Prop} {u : Value} {xs : List α} (h : d.R e W base ok u xs) (ht : ∀ q, q ∈ e :: d.E → q ≠ 60 ∧ q ≠ 69) : d.R e W base (fun k => ok k ∧ ¬ laws_markRungS.In W k) u xs := by
  refine Kd.R_mono (Kd.R_bound h) (fun k hk => ⟨hk.1, fun hi => ?_⟩)
  obtain ⟨q, hq, cells, hc⟩ := hk.2.2.2
  obtain ⟨q', cs', hq', hc'⟩ := hi
  rw [hc] at hc'
  cases hc'
  have := ht q hq
  omega
theorem laws_markRungS.apartQ {α : Type} {d : Kd α} {e base : Nat} {W : World} {ok : Nat → Prop} {u : Value} {xs : List α} (h : d.Q e W base ok u xs) (ht : ∀ q, q ∈ e :: d.E → q ≠ 60 ∧ q ≠ 69) : d.Q e W base (fun k => ok k ∧ ¬ laws_markRungS.In W k) u xs := by
  refine Kd.Q_mono (Kd.Q_bound h) (fun k hk => ⟨hk.1, fun hi => ?_⟩)
  obtain ⟨q, hq, cells, hc⟩ := hk.2.2.2
  obtain ⟨q', cs', hq', hc'⟩ := hi
  rw [hc] at hc'
  cases hc'
  have := ht q hq
  omega
def laws_markRungS.go (k : Nat) : List S60 → Int → Option Int
  | [], a => some a
  | x :: r, a => (laws_markNodeS.f k x.f0 a).bind fun p => laws_markRungS.go k r (wrap64 (wrap64 (p.1 + 1) + 1))
def laws_markRungS.f (k : Nat) (l0 : List S60) (a1 : Int) : Option Int := if l0.length ≤ 1000000000 then laws_markRungS.go k l0 a1 else none
theorem laws_markRungS.mono_g (k : Nat) : ∀ (l : List S60) (a : Int), LeO (laws_markRungS.go k l a) (laws_markRungS.go (k + 1) l a)
  | [], _ => LeO.refl _
  | x :: r, a => by
    unfold laws_markRungS.go
    exact LeO.bind (laws_markNodeS.mono _ _ _) (fun _ => laws_markRungS.mono_g k r _)
theorem laws_markRungS.mono : ∀ a0 a1 k, LeO (laws_markRungS.f k a0 a1) (laws_markRungS.f (k + 1) a0 a1) := fun a0 a1 k => LeO.ite (laws_markRungS.mono_g k a0 a1) (LeO.refl _)
/-- What an element of the row is, ahead of the marks: its inner row, apart from the others'. -/
theorem laws_markRungS.elems {w : World} {base g n c : Nat} {ok : Nat → Prop} {l : List S60} (h : Kd.S k60 60 w base ok (.slice (some ⟨g, 0, none⟩) n c) l) :
    ∃ f : Nat → Nat, ∀ (j : Nat) (hj : j < l.length), ∃ v0 : Value, w.cell? ⟨g, j * 3, none⟩ = some v0 ∧ w.cell? ⟨g, j * 3 + 1, none⟩ = some (.int .i64 l[j].f1) ∧ w.cell? ⟨g, j * 3 + 2, none⟩ = some (.int .i64 l[j].f2) ∧ k69.R 69 w base (fun k => k ≠ g ∧ f k = j) v0 l[j].f0 := by
  obtain ⟨f, hR⟩ := h
  refine ⟨f, fun j hj => ?_⟩
  have hn := (Kd.R_reads' hR).1
  rw [List.length_zipIdx] at hn
  obtain ⟨cs, hcl, hM, hcc, _⟩ := Kd.R_elem hR (z60, 0) (j : Int) (by omega) (by omega)
  have hz : l.zipIdx.getD ((j : Int)).toNat (z60, 0) = (l[j], j) := by
    rw [Int.toNat_natCast, List.getD_eq_getElem?_getD, Kd.zip_at (List.getElem?_eq_getElem hj)]
    rfl
  rw [hz] at hM
  obtain ⟨v0, rfl, hv⟩ := k60_openM hM
  refine ⟨v0, hcc 0 _ rfl, hcc 1 _ rfl, hcc 2 _ rfl, Kd.R_mono hv (fun k hk => ⟨fun e => hk.1.2 (by rw [e]), hk.2⟩)⟩
set_option maxHeartbeats 8000000 in
set_option maxRecDepth 100000 in
theorem laws_markRungS.calls (k : Nat) (v : Value) (l0 : List S60) (a1 : Int) (r : Int) (w0 w : World) (hB : Below w0.heap.size w0 w) (ho0 : Kd.S k60 60 w w0.heap.size (fun _ => True) v l0) (h : laws_markRungS.f k l0 a1 = some r) :
    Calls Try.prog 15 #[v, .int .i64 a1] w fun e w' => e = .returned (.int .i64 r) ∧ Below w0.heap.size w0 w' ∧ Kept w w' (laws_markRungS.In w) := by
  unfold laws_markRungS.f at h
  by_cases hbig : l0.length ≤ 1000000000
  · rw [if_pos hbig] at h
    have H := Aside0.mk h
    have LB := Aside0.mk hbig
    have HB0 := Aside0.mk hB
    clear h hbig hB
    by_cases h0 : l0.length = 0
    · obtain rfl := List.eq_nil_of_length_eq_zero h0
      obtain ⟨A, c, e5⟩ := Kd.S_slice ho0
      have hr : a1 = r := Option.some.inj H.out
      subst hr
      subst e5
      clear ho0 H LB h0
      go_enter Try.func15, Try.ntmps15
      go_wp2
      go_loopg [1, 5] 0 (fun _ s1 s5 wr => s1 = .int .i64 a1 ∧ s5 = .int .i64 0 ∧ wr = w)
      case atStart => exact ⟨rfl, rfl, rfl⟩
      case round =>
        obtain ⟨rfl, rfl, rfl⟩ := hrel
        go_wp2
        go_ret
        exact ⟨rfl, HB0.out, Kept.refl _ _⟩
    · obtain ⟨g, c, e5, hgb, hgl, cur, hcur⟩ := Kd.S_form ho0 (by omega)
      subst e5
      obtain ⟨f, hel⟩ := laws_markRungS.elems ho0
      have EL := Aside0.mk hel
      have GB := Aside0.mk hgb
      have GL := Aside0.mk hgl
      have CU := Aside0.mk hcur
      have SO := Aside0.mk ho0
      clear ho0 hel hgb hgl hcur h0
      go_enter Try.func15, Try.ntmps15
      go_wp2
      go_loopg [1, 5] l0.length (fun gg v1 v5 wr => ∃ (a : Int) (i : Nat) (cu : Array Value), v1 = .int .i64 a ∧ v5 = .int .i64 (i : Int) ∧ Aside0 (laws_markRungS.go k (l0.drop i) a = some r) ∧ Aside0 (i + gg = l0.length) ∧ Aside0 (wr.heap[g]? = some (.cells cu 60 (0, 0))) ∧ Aside0 (∀ q, i * 3 ≤ q → cu[q]? = cur[q]?) ∧ Aside0 (Kept w wr (fun q => q = g ∨ (laws_markRungS.In w q ∧ f q < i))) ∧ Aside0 (Below w0.heap.size w0 wr))
      case atStart => exact ⟨a1, 0, cur, rfl, rfl, H, ⟨by omega⟩, CU, ⟨fun _ _ => rfl⟩, ⟨Kept.refl _ _⟩, HB0⟩
      case round =>
        obtain ⟨a, i, cu, rfl, rfl, HA, HN, BK, HC, HK, HB⟩ := hrel
        cases gk with
        | zero =>
          have hi : i = l0.length := HN.out
          subst hi
          have hr : a = r := by
            have := HA.out
            rw [List.drop_length] at this
            exact Option.some.inj this
          subst hr
          have hltz : ¬ ((l0.length : Int) < (l0.length : Int)) := by omega
          go_wp2
          go_ret
          exact ⟨rfl, HB.out, Kept.mono HK.out (fun q hq => hq.elim (fun e => by rw [e]; exact ⟨_, cur, .inl rfl, CU.out⟩) (fun e => e.1))⟩
        | succ m =>
          have hlt : i < l0.length := by have := HN.out; omega
          have hltz : (i : Int) < (l0.length : Int) := by omega
          obtain ⟨v0, hv0, hv1, hv2, hvR⟩ := EL.out i hlt
          have hA := HA.out
          rw [List.drop_eq_getElem_cons hlt] at hA
          unfold laws_markRungS.go at hA
          obtain ⟨⟨p1, p2⟩, hp, hA⟩ := Option.bind_eq_some_iff.mp hA
          have HP := Aside0.mk hp
          have HA2 := Aside0.mk hA
          rw [blk_cell CU.out] at hv0 hv1 hv2
          rw [← HC.out _ (by omega), ← blk_cell BK.out] at hv0 hv1 hv2
          have hvR2 : k69.R 69 wr w0.heap.size (fun q => q ≠ g ∧ f q = i) v0 l0[i].f0 := Kd.R_step hvR (fun q hq hql => HK.out.2 q hql (fun hs => hs.elim (fun e => hq.1 e) (fun e => by have := hq.2; omega)))
          have VT := Aside0.mk (Kd.R_typed hvR)
          have VR := Aside0.mk hvR2
          obtain ⟨A0, c0, e0⟩ := Kd.R_slice hvR2
          subst e0
          have hf1 := blk_frozen BK.out (i * 3 + 1)
          have hf2 := blk_frozen BK.out (i * 3 + 2)
          have VL := Aside0.mk (Kd.R_lt hvR)
          clear hA hp hvR hvR2 HA
          generalize l0[i] = x at hv0 hv1 hv2 HP HA2 VR VT VL
          have hcall := laws_markNodeS.calls k (fun q => some q = (Value.slice A0 x.f0.length c0).ownBlock) (.slice A0 x.f0.length c0) x.f0 a p1 p2 w0 wr HB.out (Kd.Q_of_R (Kd.R_tight rfl VR.out)) HP.out
          clear hf1 hf2
          go_wp2_with fail
          go_at_call 30
          refine hcall.mono ?_
          rintro e w1 ⟨rfl, hq, hb, hk⟩
          have BK1 := Aside0.mk (blk_kept BK.out hk (fun hs => (VR.out.1 g hs.symm).1 rfl))
          have hs1 : w1.cell? ⟨g, i * 3 + 1, none⟩ = some (.int .i64 x.f1) := (blk_cell BK1.out _).trans ((blk_cell BK.out _).symm.trans hv1)
          have hs2 : w1.cell? ⟨g, i * 3 + 2, none⟩ = some (.int .i64 x.f2) := (blk_cell BK1.out _).trans ((blk_cell BK.out _).symm.trans hv2)
          have hf1 := blk_frozen BK1.out (i * 3 + 1)
          have hf2 := blk_frozen BK1.out (i * 3 + 2)
          have HB1 := Aside0.mk hb
          have HK1 := Aside0.mk (Kept.then_ (S := fun q => q = g ∨ (laws_markRungS.In w q ∧ f q < i + 1)) (Kept.mono HK.out (fun q hq => hq.elim .inl (fun e => .inr ⟨e.1, by have := e.2; omega⟩))) hk (fun q hq => .inl (.inr ⟨by obtain ⟨cs, hcs⟩ := VT.out q hq.symm; exact ⟨69, cs, .inr rfl, hcs⟩, by have := (VR.out.1 q hq.symm).2; omega⟩)))
          clear hq hb hk hcall hv0 hv1 hv2
          go_wp2
          go_roundg m
          case measure => omega
          case rel => exact ⟨_, i + 1, _, rfl, (by first | rw [show wrap64 ((i : Int) + 1) = ((i + 1 : Nat) : Int) from by have := LB.out; have := HN.out; unfold wrap64; omega] | go_num), HA2, ⟨by have := HN.out; omega⟩, ⟨blk_set (blk_set BK1.out (i * 3 + 1) _) (i * 3 + 2) _⟩, ⟨fun q hq => by rw [Array.getElem?_setIfInBounds_ne (by omega), Array.getElem?_setIfInBounds_ne (by omega)]; exact HC.out q (by omega)⟩, ⟨Kept.setCell (Kept.setCell HK1.out (.inl (.inl rfl)) _) (.inl (.inl rfl)) _⟩, ⟨below_set (below_set HB1.out GB.out) GB.out⟩⟩
  · rw [if_neg hbig] at h
    exact absurd h (by simp)


/-! ### laws_markIntS: function 16 -/
def laws_markIntS.l0 : Nat → List Int → Int → Int → Option (Int × List Int)
  | 0, _, _, _ => none
  | k + 1, x0, x1, x5 => if x5 < (x0.length : Int) then (if 0 ≤ x5 then (laws_markIntS.l0 k (x0.set (x5 : Int).toNat x1) (wrap64 (x1 + 1)) (wrap64 (x5 + 1))) else (none)) else (some (x1, x0))
def laws_markIntS.f (k : Nat) (l0 : List Int) (a1 : Int) : Option (Int × List Int) := laws_markIntS.l0 k l0 a1 0
theorem laws_markIntS.mono_l : ∀ k, (∀ y0 y1 y2, LeO (laws_markIntS.l0 k y0 y1 y2) (laws_markIntS.l0 (k + 1) y0 y1 y2))
  | 0 => fun _ _ _ r h => by simp [laws_markIntS.l0] at h
  | k + 1 => by
    have ih0 := laws_markIntS.mono_l k
    · intro y0 y1 y2
      unfold laws_markIntS.l0
      repeat' first
      | (with_reducible exact ih0 _ _ _)
      | (with_reducible exact LeO.refl _)
      | (with_reducible exact LeO.none _)
      | (with_reducible refine LeO.ite ?_ ?_)
      | (with_reducible refine LeO.bind ?_ (fun _ => ?_))
      | exact ih0 _ _ _
      | exact LeO.none _
      | refine LeO.ite ?_ ?_
      | refine LeO.bind ?_ (fun _ => ?_)
theorem laws_markIntS.mono : ∀ a0 a1 k, LeO (laws_markIntS.f k a0 a1) (laws_markIntS.f (k + 1) a0 a1) := by
  intro a0 a1 k
  have ih0 := laws_markIntS.mono_l k
  unfold laws_markIntS.f
  repeat' first
      | (with_reducible exact ih0 _ _ _)
      | (with_reducible exact LeO.refl _)
      | (with_reducible exact LeO.none _)
      | (with_reducible refine LeO.ite ?_ ?_)
      | (with_reducible refine LeO.bind ?_ (fun _ => ?_))
      | exact ih0 _ _ _
      | exact LeO.none _
      | refine LeO.ite ?_ ?_
      | refine LeO.bind ?_ (fun _ => ?_)
set_option maxHeartbeats 8000000 in
set_option maxRecDepth 100000 in
theorem laws_markIntS.calls (k : Nat) (P0_ : Nat → Prop) (u9000_ : Value) (l0 : List Int) (a1 : Int) (r1 : Int) (r2 : List Int) (w0 w : World) (hB : Below w0.heap.size w0 w) (ho0 : Kd.Q (Kd.int .i64) 3 w w0.heap.size P0_ u9000_ l0) (h : laws_markIntS.f k l0 a1 = some (r1, r2)) :
    Calls Try.prog 16 #[u9000_, .int .i64 a1] w fun e w' => e = .returned (.int .i64 r1) ∧ Kd.Q (Kd.int .i64) 3 w' w0.heap.size (fun k_ => (P0_ k_ ∨ w.heap.size ≤ k_)) u9000_ r2 ∧ Below w0.heap.size w0 w' ∧ Kept w w' (fun k_ => P0_ k_) := by
  have HO0 := Aside0.mk (show Kd.Q (Kd.int .i64) 3 w w0.heap.size (fun k_ => (P0_ k_ ∨ w.heap.size ≤ k_)) u9000_ l0 from Kd.Q_mono ho0 (fun k_ hk => (.inl hk)))
  have HK := Aside0.mk (Kept.refl w (fun k_ => P0_ k_))
  have HW0 := Aside0.mk hB.size
  have HB := Aside0.mk hB
  clear hB
  have H : (laws_markIntS.l0 k l0 a1 0) = some (r1, r2) := h
  clear h
  have H' := Aside0.mk H
  clear H
  go_enter Try.func16, Try.ntmps16
  go_wp2
  go_loopg [1, 5] k (fun kq v1 v5 w' => ∃ (x0_1 : List Int) (x1_1 : Int) (x5_1 : Int), v1 = .int .i64 x1_1 ∧ v5 = .int .i64 x5_1 ∧ Aside0 (laws_markIntS.l0 kq x0_1 x1_1 x5_1 = some (r1, r2)) ∧ Aside0 (kq ≤ k) ∧ Aside0 (Kd.Q (Kd.int .i64) 3 w' w0.heap.size (fun k_ => (P0_ k_ ∨ w.heap.size ≤ k_)) u9000_ x0_1) ∧ Aside0 (Kept w w' (fun k_ => P0_ k_)) ∧ Aside0 (Below w0.heap.size w0 w'))
  case atStart => exact ⟨(l0), (a1), (0), (by first | rfl | (simp; done) | (simp [*]; done)), (by first | rfl | (simp; done) | (simp [*]; done)), H', ⟨Nat.le_refl _⟩, ⟨by (with_reducible repeat (first | apply Kd.Q_alloc | apply Kd.Q_drewN | apply Kd.Q_drew)); exact HO0.out⟩, ⟨by repeat (first | (with_reducible first | exact HK.out | apply Kept.alloc | apply Kept.drewN | apply Kept.drew) | exact HK.out)⟩, ⟨by repeat (first | (with_reducible first | exact HB.out | apply below_alloc | apply pw_below_drewN | apply below_drew1) | exact HB.out)⟩⟩
  case round =>
    clear H'
    try clear c1
    try clear p2
    obtain ⟨x0_1, x1_1, x5_1, rfl, rfl, HA, HK1, HO_0, HK, HB⟩ := hrel
    cases gk with
    | zero => exact absurd HA.out (by simp [laws_markIntS.l0])
    | succ k1 =>
      have H := HA.out
      clear HA
      simp only [laws_markIntS.l0] at H
      by_cases c3 : x5_1 < (x0_1.length : Int)
      · rw [if_pos c3] at H
        have c3b0 : decide (x5_1 < (x0_1.length : Int)) = true := decide_eq_true c3
        clear c3
        by_cases c4 : 0 ≤ x5_1
        · rw [if_pos c4] at H
          have c4b0 : decide (0 ≤ x5_1) = true := decide_eq_true c4
          clear c4
          obtain ⟨y146, hy146⟩ : ∃ y_ : List Int, y_ = (x0_1.set (x5_1 : Int).toNat x1_1) := ⟨_, rfl⟩
          replace H : (laws_markIntS.l0 k1 y146 (wrap64 (x1_1 + 1)) (wrap64 (x5_1 + 1))) = some (r1, r2) := by first | (rw [hy146]; with_reducible exact H) | (have H2_ := (Option.bind_some _ _).symm.trans H; rw [hy146]; with_reducible exact H2_) | (have H2_ := (Option.bind_some _ _).symm.trans H; with_reducible exact H2_) | with_reducible exact H | (rw [hy146]; exact H) | exact H
          have Ny146 := Aside0.mk hy146
          clear hy146
          have H' := Aside0.mk H
          clear H
          obtain ⟨Ao6, co6, eo6, _⟩ := Kd.Q_slice HO_0.out
          subst eo6
          have p5 : 0 ≤ (x5_1 : Int) := of_decide_eq_true (by first | (with_reducible assumption) | assumption)
          have q5 : (x5_1 : Int) < ((x0_1.length : Int) : Int) := of_decide_eq_true (by first | (with_reducible assumption) | assumption)
          obtain ⟨go5, oo5, co5, eo5, gb5, gl5, cl5, HG5⟩ := Kd.Q_form HO_0.out (by omega)
          (first | cases eo5 | (injection eo5 with ea_ en_ ec_; (first | subst ea_ | (injection ea_ with ea_; subst ea_)); subst ec_; clear en_))
          have GB5 := Aside0.mk gb5
          have GG5 := Aside0.mk HG5
          clear gb5 gl5 HG5
          have HMgo5 := Aside0.mk (show (P0_ go5 ∨ w.heap.size ≤ go5) from (HO_0.out.1 _ rfl))
          obtain ⟨hx5_0, hf5_0⟩ := Kd.Q_cell 0 HO_0.out (x5_1 : Int) p5 q5
          replace p5 := eq_true p5
          replace q5 := eq_true q5
          have HP7 := Kd.Q_putg HO_0.out (x5_1 : Int) (of_decide_eq_true (by first | (with_reducible assumption) | assumption)) (by have h_ : (x5_1 : Int) < ((x0_1.length : Int) : Int) := of_decide_eq_true (by first | (with_reducible assumption) | assumption); first | exact h_ | (have e_ := (Kd.Q_reads' HO_0.out).1; omega) | simpa using h_) x1_1
          go_wp2_with (first | ((with_reducible refine gate_store (t := 3) (p := 15) rfl ?_); refine store_event (t := 3) (p := 15) (v := ?vo_w8) (w1 := (wr.setCell ⟨go5, oo5 + (x5_1 : Int).toNat, none⟩ (.int .i64 x1_1))) ?hg ?ho ?hn ?hr ?_; (case ho => rfl); (case hg => rfl); (case hn => rfl); (case hr => first | (go_simp; done) | (go_simp; rfl)); intro w8 hw; have hg : wr.grownBy w8 (some go5) := (by rw [hw]; exact HP7.2); have hp_ : Kd.Q (Kd.int .i64) 3 w8 w0.heap.size (fun k_ => (P0_ k_ ∨ w.heap.size ≤ k_)) (.slice (some ⟨go5, oo5, none⟩) x0_1.length co6) y146 := (by rw [hw, Ny146.out]; exact HP7.1); clear HP7; have n0_ := Aside0.mk (hp_); have n1_ := Aside0.mk ((by rw [hw]; exact below_set (HB.out) GB5.out : Below w0.heap.size w0 w8)); have n2_ := Aside0.mk (Kept.of_grown (S := (fun k_ => P0_ k_)) hg (by repeat (first | (with_reducible first | exact HK.out | apply Kept.alloc | apply Kept.drewN | apply Kept.drew) | exact HK.out)) (fun k_ e_ => (HO_0.out.1 k_ e_))); clear HO_0; clear HB; clear HK; have HO_0 := n0_; have HB := n1_; have HK := n2_; clear n0_ n1_ n2_; clear hg hw hp_))
          go_roundg k1
          case measure => have := HK1.out; omega
          case rel => exact ⟨(y146), (wrap64 (x1_1 + 1)), (wrap64 (x5_1 + 1)), (by first | rfl | (simp; done) | (simp [*]; done)), (by first | rfl | (simp; done) | (simp [*]; done)), H', ⟨by have := HK1.out; omega⟩, ⟨by (with_reducible repeat (first | apply Kd.Q_alloc | apply Kd.Q_drewN | apply Kd.Q_drew)); exact HO_0.out⟩, ⟨by repeat (first | (with_reducible first | exact HK.out | apply Kept.alloc | apply Kept.drewN | apply Kept.drew) | exact HK.out)⟩, ⟨by repeat (first | (with_reducible first | exact HB.out | apply below_alloc | apply pw_below_drewN | apply below_drew1) | exact HB.out)⟩⟩
        · rw [if_neg c4] at H
          exact absurd H (by simp)
      · rw [if_neg c3] at H
        have c3b0 : decide (x5_1 < (x0_1.length : Int)) = false := decide_eq_false c3
        clear c3
        simp only [Option.some.injEq, Prod.mk.injEq] at H
        obtain ⟨rfl, rfl⟩ := H
        obtain ⟨Ao9, co9, eo9, _⟩ := Kd.Q_slice HO_0.out
        subst eo9
        go_wp2
        go_ret
        exact ⟨by first | rfl | (simp [errW_none, errW_some] <;> rfl) | (simp [*, errW_none, errW_some] <;> rfl), by (with_reducible repeat (first | apply Kd.Q_alloc | apply Kd.Q_drewN | apply Kd.Q_drew)); exact HO_0.out, by repeat (first | (with_reducible first | exact HB.out | apply below_alloc | apply pw_below_drewN | apply below_drew1) | exact HB.out), by repeat (first | (with_reducible first | exact HK.out | apply Kept.alloc | apply Kept.drewN | apply Kept.drew) | exact HK.out)⟩

/-! ### laws_heldIntS: function 17 -/
def laws_heldIntS.l0 : Nat → List Int → Int → Int → Option (Int)
  | 0, _, _, _ => none
  | k + 1, x0, x1, x5 => if x5 < (x0.length : Int) then (if 0 ≤ x5 then (if (rd x0 x5) = x1 then (laws_heldIntS.l0 k x0 (wrap64 (x1 + 1)) (wrap64 (x5 + 1))) else (some (-1))) else (none)) else (some x1)
def laws_heldIntS.f (k : Nat) (l0 : List Int) (a1 : Int) : Option (Int) := laws_heldIntS.l0 k l0 a1 0
theorem laws_heldIntS.mono_l : ∀ k, (∀ y0 y1 y2, LeO (laws_heldIntS.l0 k y0 y1 y2) (laws_heldIntS.l0 (k + 1) y0 y1 y2))
  | 0 => fun _ _ _ r h => by simp [laws_heldIntS.l0] at h
  | k + 1 => by
    have ih0 := laws_heldIntS.mono_l k
    · intro y0 y1 y2
      unfold laws_heldIntS.l0
      repeat' first
      | (with_reducible exact ih0 _ _ _)
      | (with_reducible exact LeO.refl _)
      | (with_reducible exact LeO.none _)
      | (with_reducible refine LeO.ite ?_ ?_)
      | (with_reducible refine LeO.bind ?_ (fun _ => ?_))
      | exact ih0 _ _ _
      | exact LeO.none _
      | refine LeO.ite ?_ ?_
      | refine LeO.bind ?_ (fun _ => ?_)
theorem laws_heldIntS.mono : ∀ a0 a1 k, LeO (laws_heldIntS.f k a0 a1) (laws_heldIntS.f (k + 1) a0 a1) := by
  intro a0 a1 k
  have ih0 := laws_heldIntS.mono_l k
  unfold laws_heldIntS.f
  repeat' first
      | (with_reducible exact ih0 _ _ _)
      | (with_reducible exact LeO.refl _)
      | (with_reducible exact LeO.none _)
      | (with_reducible refine LeO.ite ?_ ?_)
      | (with_reducible refine LeO.bind ?_ (fun _ => ?_))
      | exact ih0 _ _ _
      | exact LeO.none _
      | refine LeO.ite ?_ ?_
      | refine LeO.bind ?_ (fun _ => ?_)
set_option maxHeartbeats 8000000 in
set_option maxRecDepth 100000 in
theorem laws_heldIntS.calls (k : Nat) (A0 : Option Addr) (c0 : Nat) (l0 : List Int) (a1 : Int) (r : Int) (w : World) (hr0 : Kd.C (Kd.int .i64) w A0 l0.length l0) (hc0 : l0.length ≤ c0) (h : laws_heldIntS.f k l0 a1 = some r) :
    Calls Try.prog 17 #[.slice A0 l0.length c0, .int .i64 a1] w fun e w' => e = .returned (.int .i64 r) ∧ Drawn0 w w' := by
  have HR0 := Aside0.mk hr0
  have HC0 := Aside0.mk hc0
  clear hr0 hc0
  have H : (laws_heldIntS.l0 k l0 a1 0) = some r := h
  clear h
  have H' := Aside0.mk H
  clear H
  go_enter Try.func17, Try.ntmps17
  go_wp2
  go_loopg [1, 5] k (fun kq v1 v5 w' => ∃ (x1_1 : Int) (x5_1 : Int), v1 = .int .i64 x1_1 ∧ v5 = .int .i64 x5_1 ∧ Aside0 (laws_heldIntS.l0 kq l0 x1_1 x5_1 = some r) ∧ Aside0 (kq ≤ k) ∧ Drawn0 w w')
  case atStart => exact ⟨(a1), (0), (by first | rfl | (simp; done) | (simp [*]; done)), (by first | rfl | (simp; done) | (simp [*]; done)), H', ⟨Nat.le_refl _⟩, by repeat (first | exact Drawn0.refl _ | apply Drawn0.step)⟩
  case round =>
    clear H'
    try clear c1
    try clear p2
    obtain ⟨x1_1, x5_1, rfl, rfl, HA, HK1, ⟨m1, rfl⟩⟩ := hrel
    cases gk with
    | zero => exact absurd HA.out (by simp [laws_heldIntS.l0])
    | succ k1 =>
      have H := HA.out
      clear HA
      simp only [laws_heldIntS.l0] at H
      by_cases c3 : x5_1 < (l0.length : Int)
      · rw [if_pos c3] at H
        have c3b0 : decide (x5_1 < (l0.length : Int)) = true := decide_eq_true c3
        clear c3
        by_cases c4 : 0 ≤ x5_1
        · rw [if_pos c4] at H
          have c4b0 : decide (0 ≤ x5_1) = true := decide_eq_true c4
          clear c4
          by_cases c5 : (rd l0 x5_1) = x1_1
          · rw [if_pos c5] at H
            have c5b0 : ((rd l0 x5_1) == x1_1) = true := beq_iff_eq.mpr c5
            have c5b1 : ((rd l0 x5_1) != x1_1) = false := bne_eq_false_iff_eq.mpr c5
            clear c5
            have H' := Aside0.mk H
            clear H
            have p147 : 0 ≤ (x5_1 : Int) := of_decide_eq_true (by first | (with_reducible assumption) | assumption)
            have q147 : x5_1 < (l0.length : Int) := of_decide_eq_true (by first | (with_reducible assumption) | assumption)
            obtain ⟨ad147, e147, hx147_0⟩ := Kd.at_int HR0.out x5_1 p147 q147
            cases e147
            replace p147 := eq_true p147
            replace q147 := eq_true q147
            go_wp2
            go_roundg k1
            case measure => have := HK1.out; omega
            case rel => exact ⟨(wrap64 (x1_1 + 1)), (wrap64 (x5_1 + 1)), (by first | rfl | (simp; done) | (simp [*]; done)), (by first | rfl | (simp; done) | (simp [*]; done)), H', ⟨by have := HK1.out; omega⟩, by repeat (first | exact Drawn0.refl _ | apply Drawn0.step)⟩
          · rw [if_neg c5] at H
            have c5b0 : ((rd l0 x5_1) == x1_1) = false := beq_eq_false_iff_ne.mpr c5
            have c5b1 : ((rd l0 x5_1) != x1_1) = true := bne_iff_ne.mpr c5
            obtain rfl := Option.some.inj H
            have p147 : 0 ≤ (x5_1 : Int) := of_decide_eq_true (by first | (with_reducible assumption) | assumption)
            have q147 : x5_1 < (l0.length : Int) := of_decide_eq_true (by first | (with_reducible assumption) | assumption)
            obtain ⟨ad147, e147, hx147_0⟩ := Kd.at_int HR0.out x5_1 p147 q147
            cases e147
            replace p147 := eq_true p147
            replace q147 := eq_true q147
            go_wp2
            go_ret
            exact ⟨by first | rfl | (simp; done) | (simp [*]; done), by repeat (first | exact Drawn0.refl _ | apply Drawn0.step)⟩
        · rw [if_neg c4] at H
          exact absurd H (by simp)
      · rw [if_neg c3] at H
        have c3b0 : decide (x5_1 < (l0.length : Int)) = false := decide_eq_false c3
        clear c3
        obtain rfl := Option.some.inj H
        go_wp2
        go_ret
        exact ⟨by first | rfl | (simp; done) | (simp [*]; done), by repeat (first | exact Drawn0.refl _ | apply Drawn0.step)⟩

/-! ### spec_LadderCoils: function 18 -/
mutual
def spec_LadderCoils.l0 : Nat → List (S60) → List Int → Int → Option (List Int)
  | 0, _, _, _ => none
  | k + 1, x0, x3, x4 => if x4 < 16 then (spec_LadderCoils.l1 k x0 x3 x4 0) else (some x3)
def spec_LadderCoils.l1 : Nat → List (S60) → List Int → Int → Int → Option (List Int)
  | 0, _, _, _, _ => none
  | k + 1, x0, x3, x4, x5 => if x5 < (x0.length : Int) then (if 0 ≤ x5 then (if ((rd_T60 x0 x5).f1) = x4 then (if x3.length < 17592186044416 then (spec_LadderCoils.l0 k x0 (x3 ++ [x4]) (wrap64 (x4 + 1))) else (none)) else (spec_LadderCoils.l1 k x0 x3 x4 (wrap64 (x5 + 1)))) else (none)) else (spec_LadderCoils.l0 k x0 x3 (wrap64 (x4 + 1)))
end
def spec_LadderCoils.f (k : Nat) (l0 : List (S60)) : Option (List Int) := spec_LadderCoils.l0 k l0 (([] : List Int)) 0
theorem spec_LadderCoils.mono_l : ∀ k, (∀ y0 y1 y2, LeO (spec_LadderCoils.l0 k y0 y1 y2) (spec_LadderCoils.l0 (k + 1) y0 y1 y2)) ∧ (∀ y0 y1 y2 y3, LeO (spec_LadderCoils.l1 k y0 y1 y2 y3) (spec_LadderCoils.l1 (k + 1) y0 y1 y2 y3))
  | 0 => ⟨fun _ _ _ r h => by simp [spec_LadderCoils.l0] at h, fun _ _ _ _ r h => by simp [spec_LadderCoils.l1] at h⟩
  | k + 1 => by
    obtain ⟨ih0, ih1⟩ := spec_LadderCoils.mono_l k
    refine ⟨?_, ?_⟩
    · intro y0 y1 y2
      unfold spec_LadderCoils.l0
      repeat' first
      | (with_reducible exact ih0 _ _ _)
      | (with_reducible exact ih1 _ _ _ _)
      | (with_reducible exact LeO.refl _)
      | (with_reducible exact LeO.none _)
      | (with_reducible refine LeO.ite ?_ ?_)
      | (with_reducible refine LeO.bind ?_ (fun _ => ?_))
      | exact ih0 _ _ _
      | exact ih1 _ _ _ _
      | exact LeO.none _
      | refine LeO.ite ?_ ?_
      | refine LeO.bind ?_ (fun _ => ?_)
    · intro y0 y1 y2 y3
      unfold spec_LadderCoils.l1
      repeat' first
      | (with_reducible exact ih0 _ _ _)
      | (with_reducible exact ih1 _ _ _ _)
      | (with_reducible exact LeO.refl _)
      | (with_reducible exact LeO.none _)
      | (with_reducible refine LeO.ite ?_ ?_)
      | (with_reducible refine LeO.bind ?_ (fun _ => ?_))
      | exact ih0 _ _ _
      | exact ih1 _ _ _ _
      | exact LeO.none _
      | refine LeO.ite ?_ ?_
      | refine LeO.bind ?_ (fun _ => ?_)
theorem spec_LadderCoils.mono : ∀ a0 k, LeO (spec_LadderCoils.f k a0) (spec_LadderCoils.f (k + 1) a0) := by
  intro a0 k
  obtain ⟨ih0, ih1⟩ := spec_LadderCoils.mono_l k
  unfold spec_LadderCoils.f
  repeat' first
      | (with_reducible exact ih0 _ _ _)
      | (with_reducible exact ih1 _ _ _ _)
      | (with_reducible exact LeO.refl _)
      | (with_reducible exact LeO.none _)
      | (with_reducible refine LeO.ite ?_ ?_)
      | (with_reducible refine LeO.bind ?_ (fun _ => ?_))
      | exact ih0 _ _ _
      | exact ih1 _ _ _ _
      | exact LeO.none _
      | refine LeO.ite ?_ ?_
      | refine LeO.bind ?_ (fun _ => ?_)
set_option maxHeartbeats 8000000 in
set_option maxRecDepth 100000 in
theorem spec_LadderCoils.calls (k : Nat) (A0 : Option Addr) (c0 : Nat) (l0 : List (S60)) (r : List Int) (w : World) (hr0 : Kd.C k60 w A0 l0.length l0) (hc0 : l0.length ≤ c0) (h : spec_LadderCoils.f k l0 = some r) :
    Calls Try.prog 18 #[.slice A0 l0.length c0] w fun e w' => ∃ v0_ : Value, e = .returned (v0_) ∧ Kd.R (Kd.int .i64) 3 w' w.heap.size (fun _ => True) v0_ r ∧ Below w.heap.size w w' := by
  have HR0 := Aside0.mk hr0
  have HC0 := Aside0.mk hc0
  clear hr0 hc0
  have HB := Aside0.mk (Below.refl w.heap.size w)
  have H : (spec_LadderCoils.l0 k l0 (([] : List Int)) 0) = some r := h
  clear h
  obtain ⟨y148, hy148⟩ : ∃ y_ : List Int, y_ = (([] : List Int)) := ⟨_, rfl⟩
  replace H : (spec_LadderCoils.l0 k l0 y148 0) = some r := by first | (rw [hy148]; with_reducible exact H) | (have H2_ := (Option.bind_some _ _).symm.trans H; rw [hy148]; with_reducible exact H2_) | (have H2_ := (Option.bind_some _ _).symm.trans H; with_reducible exact H2_) | with_reducible exact H | (rw [hy148]; exact H) | exact H
  have Ny148 := Aside0.mk hy148
  clear hy148
  have H' := Aside0.mk H
  clear H
  go_enter Try.func18, Try.ntmps18
  go_wp2_with (first | ((with_reducible refine gate_dst (N := 6) rfl ?_); refine Kd.R_lit (Kd.int .i64) _ 3 ?hg (N := 6) ?hd (xs := ([] : List Int)) (inner := []) (ok := fun _ => True) (okp := fun _ => True) ?hr ?hp (fun _ hk => hk) trivial (Below.refl _ _) (Nat.le_refl _) (by simp) ?_; (case hd => rfl); (case hg => rfl); (case hr => first | (go_simp; done) | (go_simp; rfl)); (case hp => exact (Reps.none _ _)); intro v149 w2 ho3 hb hg_ hnew_; clear hg_ hnew_; (first | rw [← Ny148.out] at ho3 | (simp only [Int.reduceToNat] at ho3; rw [← Ny148.out] at ho3)); have n0_ := Aside0.mk (Kd.R_lower ho3 (below_size (by repeat (first | (with_reducible first | exact HB.out | apply below_alloc | apply pw_below_drewN | apply below_drew1) | exact HB.out)))); have n1_ := Aside0.mk (below_step (by repeat (first | (with_reducible first | exact HB.out | apply below_alloc | apply pw_below_drewN | apply below_drew1) | exact HB.out)) hb); clear HB; have HO150 := n0_; have HB := n1_; clear n0_ n1_; clear hb ho3))
  go_loopg [3, 4] k (fun kq v3 v4 w' => ∃ (x3_1 : List Int) (x4_1 : Int), v4 = .int .i64 x4_1 ∧ Aside0 (spec_LadderCoils.l0 kq l0 x3_1 x4_1 = some r) ∧ Aside0 (kq ≤ k) ∧ Aside0 (Kd.R (Kd.int .i64) 3 w' w.heap.size (fun _ => True) v3 x3_1) ∧ Aside0 (Below w.heap.size w w'))
  case atStart => exact ⟨(y148), (0), (by first | rfl | (simp; done) | (simp [*]; done)), H', ⟨Nat.le_refl _⟩, ⟨by (with_reducible repeat (first | apply Kd.R_alloc | apply Kd.R_drewN | apply Kd.R_drew)); exact HO150.out⟩, ⟨by repeat (first | (with_reducible first | exact HB.out | apply below_alloc | apply pw_below_drewN | apply below_drew1) | exact HB.out)⟩⟩
  case round =>
    clear H'
    try clear c1
    try clear p2
    obtain ⟨x3_1, x4_1, rfl, HA, HK1, HO_3, HB⟩ := hrel
    cases gk with
    | zero => exact absurd HA.out (by simp [spec_LadderCoils.l0])
    | succ k1 =>
      have H := HA.out
      clear HA
      simp only [spec_LadderCoils.l0] at H
      by_cases c4 : x4_1 < 16
      · rw [if_pos c4] at H
        have c4b0 : decide (x4_1 < 16) = true := decide_eq_true c4
        clear c4
        have H' := Aside0.mk H
        clear H
        go_wp2
        go_loopg [3, 5] k1 (fun kq v3 v5 w' => ∃ (x3_2 : List Int) (x5_2 : Int), v5 = .int .i64 x5_2 ∧ Aside0 (spec_LadderCoils.l1 kq l0 x3_2 x4_1 x5_2 = some r) ∧ Aside0 (kq ≤ k1) ∧ Aside0 (Kd.R (Kd.int .i64) 3 w' w.heap.size (fun _ => True) v3 x3_2) ∧ Aside0 (Below w.heap.size w w'))
        case atStart => exact ⟨(x3_1), (0), (by first | rfl | (simp; done) | (simp [*]; done)), H', ⟨Nat.le_refl _⟩, ⟨by (with_reducible repeat (first | apply Kd.R_alloc | apply Kd.R_drewN | apply Kd.R_drew)); exact HO_3.out⟩, ⟨by repeat (first | (with_reducible first | exact HB.out | apply below_alloc | apply pw_below_drewN | apply below_drew1) | exact HB.out)⟩⟩
        case round =>
          clear H'
          try clear c1
          try clear p2
          try clear c4
          try clear c4b0
          try clear p2
          obtain ⟨x3_2, x5_2, rfl, HA, HK2, HO_3, HB⟩ := hrel
          cases gk with
          | zero => exact absurd HA.out (by simp [spec_LadderCoils.l1])
          | succ k2 =>
            have H := HA.out
            clear HA
            simp only [spec_LadderCoils.l1] at H
            by_cases c5 : x5_2 < (l0.length : Int)
            · rw [if_pos c5] at H
              have c5b0 : decide (x5_2 < (l0.length : Int)) = true := decide_eq_true c5
              clear c5
              by_cases c6 : 0 ≤ x5_2
              · rw [if_pos c6] at H
                have c6b0 : decide (0 ≤ x5_2) = true := decide_eq_true c6
                clear c6
                by_cases c7 : ((rd_T60 l0 x5_2).f1) = x4_1
                · rw [if_pos c7] at H
                  have c7b0 : (((rd_T60 l0 x5_2).f1) == x4_1) = true := beq_iff_eq.mpr c7
                  have c7b1 : (((rd_T60 l0 x5_2).f1) != x4_1) = false := bne_eq_false_iff_eq.mpr c7
                  clear c7
                  by_cases c8 : x3_2.length < 17592186044416
                  · rw [if_pos c8] at H
                    have LMc8 := Aside0.mk c8
                    clear c8
                    obtain ⟨y152, hy152⟩ : ∃ y_ : List Int, y_ = (x3_2 ++ [x4_1]) := ⟨_, rfl⟩
                    replace H : (spec_LadderCoils.l0 k2 l0 y152 (wrap64 (x4_1 + 1))) = some r := by first | (rw [hy152]; with_reducible exact H) | (have H2_ := (Option.bind_some _ _).symm.trans H; rw [hy152]; with_reducible exact H2_) | (have H2_ := (Option.bind_some _ _).symm.trans H; with_reducible exact H2_) | with_reducible exact H | (rw [hy152]; exact H) | exact H
                    have Ny152 := Aside0.mk hy152
                    clear hy152
                    have H' := Aside0.mk H
                    clear H
                    have p151 : 0 ≤ (x5_2 : Int) := of_decide_eq_true (by first | (with_reducible assumption) | assumption)
                    have q151 : x5_2 < (l0.length : Int) := of_decide_eq_true (by first | (with_reducible assumption) | assumption)
                    obtain ⟨ad151, A151_0, c151_0, e151, hx151_0, hx151_1, hx151_2, hl151_0, hi151_0⟩ := at_T60 HR0.out x5_2 p151 q151
                    cases e151
                    replace hx151_0 := (HB.out.cell (World.block_lt_of_cell? w _ hx151_0)).trans hx151_0
                    replace hx151_1 := (HB.out.cell (World.block_lt_of_cell? w _ hx151_1)).trans hx151_1
                    replace hx151_2 := (HB.out.cell (World.block_lt_of_cell? w _ hx151_2)).trans hx151_2
                    have HR151_0 := Aside0.mk hi151_0
                    have HC151_0 := Aside0.mk hl151_0
                    clear hi151_0 hl151_0
                    replace p151 := eq_true p151
                    replace q151 := eq_true q151
                    go_wp2_with (first | ((with_reducible refine gate_builtin (b := .append) (xs := #[.tmp 24, .tmp 26]) rfl ?_); at_builtin; refine Kd.R_append (Kd.int .i64) (w0 := w) w.heap.size rfl (.tmp 24) (.tmp 26) 24 3 (.int .i64 0) 8 rfl Try.underlying24 info3 rfl (by decide) (by omega) u3 x3_2 x4_1 [.int .i64 x4_1] (fun _ => True) (fun _ => False) rfl rfl ?aP (fun _ hk => hk.elim) ?aF ?aO ?aB ?aS ?aL ?_; (case aP => exact rfl); (case aB => exact (by repeat (first | (with_reducible first | exact HB.out | apply below_alloc | apply pw_below_drewN | apply below_drew1) | exact HB.out))); (case aF => exact (fun _ _ => trivial)); (case aO => exact (by (with_reducible repeat (first | apply Kd.R_alloc | apply Kd.R_drewN | apply Kd.R_drew)); exact HO_3.out)); (case aS => exact (below_size (by repeat (first | (with_reducible first | exact HB.out | apply below_alloc | apply pw_below_drewN | apply below_drew1) | exact HB.out)))); (case aL => have := LMc8.out; omega); intro v153 w9 ho hb hg hat; rw [← Ny152.out] at ho; have n0_ := Aside0.mk (hb); have n1_ := Aside0.mk (ho); clear HB; clear HO_3; have HB := n0_; have HO154 := n1_; clear n0_ n1_; clear ho hb hg hat))
                    go_roundg k2
                    case measure => have := HK1.out; have := HK2.out; omega
                    case rel => exact ⟨(y152), (wrap64 (x4_1 + 1)), (by first | rfl | (simp; done) | (simp [*]; done)), H', ⟨by have := HK1.out; have := HK2.out; omega⟩, ⟨by (with_reducible repeat (first | apply Kd.R_alloc | apply Kd.R_drewN | apply Kd.R_drew)); exact HO154.out⟩, ⟨by repeat (first | (with_reducible first | exact HB.out | apply below_alloc | apply pw_below_drewN | apply below_drew1) | exact HB.out)⟩⟩
                  · rw [if_neg c8] at H
                    exact absurd H (by simp)
                · rw [if_neg c7] at H
                  have c7b0 : (((rd_T60 l0 x5_2).f1) == x4_1) = false := beq_eq_false_iff_ne.mpr c7
                  have c7b1 : (((rd_T60 l0 x5_2).f1) != x4_1) = true := bne_iff_ne.mpr c7
                  have H' := Aside0.mk H
                  clear H
                  have p151 : 0 ≤ (x5_2 : Int) := of_decide_eq_true (by first | (with_reducible assumption) | assumption)
                  have q151 : x5_2 < (l0.length : Int) := of_decide_eq_true (by first | (with_reducible assumption) | assumption)
                  obtain ⟨ad151, A151_0, c151_0, e151, hx151_0, hx151_1, hx151_2, hl151_0, hi151_0⟩ := at_T60 HR0.out x5_2 p151 q151
                  cases e151
                  replace hx151_0 := (HB.out.cell (World.block_lt_of_cell? w _ hx151_0)).trans hx151_0
                  replace hx151_1 := (HB.out.cell (World.block_lt_of_cell? w _ hx151_1)).trans hx151_1
                  replace hx151_2 := (HB.out.cell (World.block_lt_of_cell? w _ hx151_2)).trans hx151_2
                  have HR151_0 := Aside0.mk hi151_0
                  have HC151_0 := Aside0.mk hl151_0
                  clear hi151_0 hl151_0
                  replace p151 := eq_true p151
                  replace q151 := eq_true q151
                  go_wp2
                  go_roundg k2
                  case measure => have := HK1.out; have := HK2.out; omega
                  case rel => exact ⟨(x3_2), (wrap64 (x5_2 + 1)), (by first | rfl | (simp; done) | (simp [*]; done)), H', ⟨by have := HK1.out; have := HK2.out; omega⟩, ⟨by (with_reducible repeat (first | apply Kd.R_alloc | apply Kd.R_drewN | apply Kd.R_drew)); exact HO_3.out⟩, ⟨by repeat (first | (with_reducible first | exact HB.out | apply below_alloc | apply pw_below_drewN | apply below_drew1) | exact HB.out)⟩⟩
              · rw [if_neg c6] at H
                exact absurd H (by simp)
            · rw [if_neg c5] at H
              have c5b0 : decide (x5_2 < (l0.length : Int)) = false := decide_eq_false c5
              clear c5
              have H' := Aside0.mk H
              clear H
              go_wp2
              go_roundg k2
              case measure => have := HK1.out; have := HK2.out; omega
              case rel => exact ⟨(x3_2), (wrap64 (x4_1 + 1)), (by first | rfl | (simp; done) | (simp [*]; done)), H', ⟨by have := HK1.out; have := HK2.out; omega⟩, ⟨by (with_reducible repeat (first | apply Kd.R_alloc | apply Kd.R_drewN | apply Kd.R_drew)); exact HO_3.out⟩, ⟨by repeat (first | (with_reducible first | exact HB.out | apply below_alloc | apply pw_below_drewN | apply below_drew1) | exact HB.out)⟩⟩
      · rw [if_neg c4] at H
        have c4b0 : decide (x4_1 < 16) = false := decide_eq_false c4
        clear c4
        obtain rfl := Option.some.inj H
        go_wp2
        go_ret
        exact ⟨_, by first | rfl | (simp [errW_none, errW_some] <;> rfl) | (simp [*, errW_none, errW_some] <;> rfl), by (with_reducible repeat (first | apply Kd.R_alloc | apply Kd.R_drewN | apply Kd.R_drew)); exact HO_3.out, by repeat (first | (with_reducible first | exact HB.out | apply below_alloc | apply pw_below_drewN | apply below_drew1) | exact HB.out)⟩

/-! ### slices_Clip_int_int: function 64 -/
def slices_Clip_int_int.f (l0 : List Int) : Option (List Int) := some (l0)
set_option maxHeartbeats 8000000 in
set_option maxRecDepth 100000 in
theorem slices_Clip_int_int.calls (P0_ : Nat → Prop) (u9000_ : Value) (l0 : List Int) (r : List Int) (w0 w : World) (hB : Below w0.heap.size w0 w) (ho0 : Kd.Q (Kd.int .i64) 3 w w0.heap.size P0_ u9000_ l0) (h : slices_Clip_int_int.f l0 = some r) :
    Calls Try.prog 64 #[u9000_] w fun e w' => ∃ v0_ : Value, e = .returned (v0_) ∧ Kd.Q (Kd.int .i64) 3 w' w0.heap.size (fun k_ => (P0_ k_ ∨ w.heap.size ≤ k_)) v0_ r ∧ Below w0.heap.size w0 w' ∧ Kept w w' (fun k_ => P0_ k_) := by
  have HO0 := Aside0.mk (show Kd.Q (Kd.int .i64) 3 w w0.heap.size (fun k_ => (P0_ k_ ∨ w.heap.size ≤ k_)) u9000_ l0 from Kd.Q_mono ho0 (fun k_ hk => (.inl hk)))
  have HK := Aside0.mk (Kept.refl w (fun k_ => P0_ k_))
  have HW0 := Aside0.mk hB.size
  have HB := Aside0.mk hB
  clear hB
  have H : (some (l0)) = some r := h
  clear h
  obtain ⟨y155, hy155⟩ : ∃ y_ : List Int, y_ = (l0) := ⟨_, rfl⟩
  replace H : (some y155) = some r := by first | (rw [hy155]; with_reducible exact H) | (have H2_ := (Option.bind_some _ _).symm.trans H; rw [hy155]; with_reducible exact H2_) | (have H2_ := (Option.bind_some _ _).symm.trans H; with_reducible exact H2_) | with_reducible exact H | (rw [hy155]; exact H) | exact H
  have Ny155 := Aside0.mk hy155
  clear hy155
  obtain rfl := Option.some.inj H
  obtain ⟨Ao2, co2, eo2, _⟩ := Kd.Q_slice HO0.out
  subst eo2
  obtain ⟨i03, hi03, _, hsz3, _⟩ := info_parts info3
  have hcut3 := cut_clip (P := Try.prog) 24 3 Try.underlying24 hi03 Ao2 l0.length co2 (Kd.Q_reads' HO0.out).2.1
  have hr3 := Kd.Q_clip HO0.out
  obtain ⟨gl3, hgl3⟩ : ∃ g_ : Nat, g_ = l0.length := ⟨_, rfl⟩
  rw [← hgl3, ← Ny155.out, hgl3] at hr3
  clear hgl3 gl3
  clear hi03 hsz3 HO0
  have HO157 := Aside0.mk hr3
  clear hr3
  go_enter Try.func64, Try.ntmps64
  go_wp2
  go_ret
  exact ⟨_, by first | rfl | (simp [errW_none, errW_some] <;> rfl) | (simp [*, errW_none, errW_some] <;> rfl), by (with_reducible repeat (first | apply Kd.Q_alloc | apply Kd.Q_drewN | apply Kd.Q_drew)); exact HO157.out, by repeat (first | (with_reducible first | exact HB.out | apply below_alloc | apply pw_below_drewN | apply below_drew1) | exact HB.out), by repeat (first | (with_reducible first | exact HK.out | apply Kept.alloc | apply Kept.drewN | apply Kept.drew) | exact HK.out)⟩

-- NOT PRINTED: function 40 (impl_chosen)

-- NOT PRINTED: function 65 (impl_Rung_65)

-- NOT PRINTED: function 44 (impl_Rung_44)

-- NOT PRINTED: function 45 (impl_LadderCoils_1_1)

-- NOT PRINTED: function 43 (impl_LadderCoils_1)

/-! ### impl_LadderCoils: function 19 -/
/-- The numbers below 16 that are chosen. -/
def impl_LadderCoils.chl (p : Nat → Bool) (n : Nat) : List Int := ((List.range n).filter p).map fun m : Nat => (m : Int)
theorem impl_LadderCoils.chl_succ (p : Nat → Bool) (n : Nat) : impl_LadderCoils.chl p (n + 1) = if p n = true then impl_LadderCoils.chl p n ++ [(n : Int)] else impl_LadderCoils.chl p n := by
  unfold impl_LadderCoils.chl
  rw [List.range_succ, List.filter_append, List.map_append]
  by_cases h : p n = true <;> simp [h]
theorem impl_LadderCoils.chl_len (p : Nat → Bool) (n : Nat) : (impl_LadderCoils.chl p n).length ≤ n := by
  unfold impl_LadderCoils.chl
  rw [List.length_map]
  have := List.length_filter_le p (List.range n)
  rwa [List.length_range] at this
set_option maxHeartbeats 2000000 in
theorem impl_LadderCoils.chosen (p : Nat → Bool) (g : Nat) (w : World) (hclos : ∀ (n : Nat) (w' : World), n < 16 → Below w.heap.size w w' → Calls Try.prog 43 #[.int .i64 (n : Int), .pointer (some ⟨g, 0, none⟩)] w' fun e w'' => e = .returned (.bool (p n)) ∧ Below w'.heap.size w' w'') :
    Calls Try.prog 40 #[.func (.func 43) #[] #[.pointer (some ⟨g, 0, none⟩)]] w fun e w' => ∃ v0_ : Value, e = .returned v0_ ∧ Kd.Q (Kd.int .i64) 3 w' w.heap.size (fun _ => True) v0_ (impl_LadderCoils.chl p 16) ∧ Below w.heap.size w w' := by
  have HH := Aside0.mk hclos
  clear hclos
  go_enter Try.func40, Try.ntmps40
  go_wp2
  go_loopg [3, 5] 16 (fun gg v3 v5 wr => ∃ (n : Nat), v5 = .int .i64 (n : Int) ∧ Aside0 (n + gg = 16) ∧ Aside0 (Kd.R (Kd.int .i64) 3 wr w.heap.size (fun _ => True) v3 (impl_LadderCoils.chl p n)) ∧ Aside0 (Below w.heap.size w wr))
  case atStart => exact ⟨0, rfl, ⟨rfl⟩, ⟨Kd.R_nil _ _ _ _ _⟩, ⟨Below.refl _ _⟩⟩
  case round =>
    obtain ⟨n, rfl, HN, HO, HB⟩ := hrel
    cases gk with
    | zero =>
      have hn : n = 16 := HN.out
      subst hn
      go_wp2_with (go_at_call 64; refine (slices_Clip_int_int.calls (fun _ => True) _ (impl_LadderCoils.chl p 16) (impl_LadderCoils.chl p 16) w _ HB.out (Kd.Q_of_R HO.out) rfl).mono ?_; rintro e w1 ⟨v0, rfl, hq, hb, _⟩)
      go_ret
      exact ⟨_, rfl, Kd.Q_mono hq (fun _ _ => trivial), hb⟩
    | succ m =>
      have hlt : (n : Int) < 16 := by have := HN.out; omega
      have hltb : decide ((n : Int) < 16) = true := decide_eq_true hlt
      have hcl := HH.out n wr (by have := HN.out; omega) HB.out
      have HS := Aside0.mk (impl_LadderCoils.chl_succ p n)
      have HLE := Aside0.mk (impl_LadderCoils.chl_len p n)
      generalize p n = b at hcl HS
      have HCL := Aside0.mk hcl
      clear hcl
      cases b with
      | false =>
        have HSE := Aside0.mk (show impl_LadderCoils.chl p (n + 1) = impl_LadderCoils.chl p n from by rw [HS.out]; rfl)
        clear HS
        go_wp2_with (go_at_call 43; refine HCL.out.mono ?_; rintro e w1 ⟨rfl, hb⟩; have HO1 := Aside0.mk (Kd.R_below HO.out hb); have HB1 := Aside0.mk (below_then HB.out HB.out.size hb); clear hb)
        go_roundg m
        case measure => omega
        case rel => exact ⟨n + 1, (by go_num), ⟨by have := HN.out; omega⟩, ⟨by have h_ := HO1.out; rw [HSE.out]; exact h_⟩, HB1⟩
      | true =>
        have HSE := Aside0.mk (show impl_LadderCoils.chl p (n + 1) = impl_LadderCoils.chl p n ++ [(n : Int)] from by rw [HS.out]; rfl)
        clear HS
        go_wp2_with (first | (go_at_call 43; refine HCL.out.mono ?_; rintro e w1 ⟨rfl, hb⟩; have HO1 := Aside0.mk (Kd.R_below HO.out hb); have HB1 := Aside0.mk (below_then HB.out HB.out.size hb); clear hb) | ((with_reducible refine gate_builtin (b := .append) (xs := #[.tmp 11, .tmp 13]) rfl ?_); at_builtin; refine Kd.R_append (Kd.int .i64) (w0 := w) w.heap.size rfl (.tmp 11) (.tmp 13) 24 3 (.int .i64 0) 8 rfl Try.underlying24 info3 rfl (by decide) (by omega) _ (impl_LadderCoils.chl p n) (n : Int) [.int .i64 (n : Int)] (fun _ => True) (fun _ => False) rfl rfl ?aP (fun _ hk => hk.elim) ?aF ?aO ?aB ?aS ?aL ?_; (case aP => exact rfl); (case aB => exact (by repeat (first | (with_reducible first | exact HB1.out | apply below_alloc | apply pw_below_drewN | apply below_drew1) | exact HB1.out))); (case aF => exact (fun _ _ => trivial)); (case aO => exact (by (with_reducible repeat (first | apply Kd.R_alloc | apply Kd.R_drewN | apply Kd.R_drew)); exact HO1.out)); (case aS => exact (below_size (by repeat (first | (with_reducible first | exact HB1.out | apply below_alloc | apply pw_below_drewN | apply below_drew1) | exact HB1.out)))); (case aL => have := HLE.out; have := HN.out; omega); intro v153 w25 ho hb hg hat; have HB2 := Aside0.mk hb; have HO2 := Aside0.mk ho; clear ho hb hg hat))
        go_roundg m
        case measure => omega
        case rel => exact ⟨n + 1, (by go_num), ⟨by have := HN.out; omega⟩, ⟨by rw [HSE.out]; exact HO2.out⟩, HB2⟩
/-- Is bit n driven? -/
def impl_LadderCoils.is (n : Nat) (x : S60) : Bool := x.f1 == (n : Int)
def impl_LadderCoils.p (l : List S60) (n : Nat) : Bool := l.any (impl_LadderCoils.is n)
def impl_LadderCoils.fi (q : S60 → Bool) : List S60 → Nat → Int
  | [], _ => -1
  | y :: r, i => if q y = true then (i : Int) else impl_LadderCoils.fi q r (i + 1)
theorem impl_LadderCoils.fi_cons (q : S60 → Bool) (y : S60) (r : List S60) (i : Nat) : impl_LadderCoils.fi q (y :: r) i = if q y = true then (i : Int) else impl_LadderCoils.fi q r (i + 1) := rfl
theorem impl_LadderCoils.fi_any (q : S60 → Bool) : ∀ (l : List S60) (i : Nat), decide (0 ≤ impl_LadderCoils.fi q l i) = l.any q
  | [], _ => rfl
  | y :: r, i => by
    unfold impl_LadderCoils.fi
    by_cases h : q y = true
    · rw [if_pos h, List.any_cons, h]; simp
    · rw [if_neg h, List.any_cons, impl_LadderCoils.fi_any q r (i + 1)]; simp [h]
def impl_LadderCoils.f (l0 : List S60) : Option (List Int) := if l0.length ≤ 1000000000 then some (impl_LadderCoils.chl (impl_LadderCoils.p l0) 16) else none
theorem impl_LadderCoils.inner (gn L C : Nat) (A : Option Addr) (c k n : Int) (w : World) (hbox : w.heap[gn]? = some (.cells #[.int .i64 n] 3 (0, 0))) :
    Calls Try.prog 45 #[.agg #[.slice A L C, .int .i64 c, .int .i64 k], .pointer (some ⟨gn, 0, none⟩)] w fun e w' => e = .returned (.bool (c == n)) ∧ Below w.heap.size w w' := by
  have hu := Try.underlying60
  have BN := Aside0.mk hbox
  clear hbox
  go_enter Try.func45, Try.ntmps45
  go_wp2_with (first | ((with_reducible refine gate_dst (N := 2) rfl ?_); refine box_event ?hg (N := 2) ?hd (cs := #[.slice A L C, .int .i64 c, .int .i64 k]) (t := 60) ?hr ?_; (case hd => rfl); (case hg => rfl); (case hr => first | (go_simp; done) | (go_simp; rfl)); intro gx hg w2 hbox hb; have HB := Aside0.mk hb; have hm1 : w2.cell? ⟨gx, 1, none⟩ = some (.int .i64 c) := (blk_cell hbox 1).trans rfl; have hn1 : w2.cell? ⟨gn, 0, none⟩ = some (.int .i64 n) := (blk_cell (blk_below BN.out hb) 0).trans rfl; clear hb hbox hg))
  go_ret
  exact ⟨rfl, HB.out⟩
set_option maxHeartbeats 2000000 in
theorem impl_LadderCoils.index (gn : Nat) (A0 : Option Addr) (c0 : Nat) (l0 : List S60) (n : Nat) (w : World) (hl : l0.length ≤ 1000000000) (hC : Kd.C k60 w A0 l0.length l0) (hbox : w.heap[gn]? = some (.cells #[.int .i64 (n : Int)] 3 (0, 0))) :
    Calls Try.prog 65 #[.slice A0 l0.length c0, .func (.func 45) #[] #[.pointer (some ⟨gn, 0, none⟩)]] w fun e w' => e = .returned (.int .i64 (impl_LadderCoils.fi (impl_LadderCoils.is n) l0 0)) ∧ Below w.heap.size w w' := by
  have HR := Aside0.mk hC
  have HL := Aside0.mk hl
  have BN := Aside0.mk hbox
  have hu := Try.underlying60
  clear hC hl hbox
  go_enter Try.func65, Try.ntmps65
  go_wp2
  go_loopg [5, 8] l0.length (fun gg _ v8 wr => ∃ i : Nat, v8 = .int .i64 (i : Int) ∧ Aside0 (i + gg = l0.length) ∧ Aside0 (impl_LadderCoils.fi (impl_LadderCoils.is n) (l0.drop i) i = impl_LadderCoils.fi (impl_LadderCoils.is n) l0 0) ∧ Aside0 (Below w.heap.size w wr))
  case atStart => exact ⟨0, rfl, ⟨by omega⟩, ⟨rfl⟩, ⟨Below.refl _ _⟩⟩
  case round =>
    obtain ⟨i, rfl, HN, HF, HB⟩ := hrel
    cases gk with
    | zero =>
      have hi : i = l0.length := HN.out
      subst hi
      have hltz : ¬ ((l0.length : Int) < (l0.length : Int)) := by omega
      have hf := HF.out
      rw [List.drop_length] at hf
      have HFE := Aside0.mk (show (-1 : Int) = impl_LadderCoils.fi (impl_LadderCoils.is n) l0 0 from hf)
      clear hf
      go_wp2
      go_ret
      exact ⟨by rw [← HFE.out]; rfl, HB.out⟩
    | succ m =>
      have hlt : i < l0.length := by have := HN.out; omega
      have hltz : (i : Int) < (l0.length : Int) := by omega
      obtain ⟨ad, A1, c1, e1, hx0, hx1, hx2, _, _⟩ := at_T60 HR.out (i : Int) (by omega) (by omega)
      have hrd : rd_T60 l0 (i : Int) = l0[i] := by unfold rd_T60; rw [Int.toNat_natCast, List.getD_eq_getElem?_getD, List.getElem?_eq_getElem hlt]; rfl
      have hf := HF.out
      rw [List.drop_eq_getElem_cons hlt] at hf
      rw [hrd] at hx0 hx1 hx2
      simp only [Int.toNat_natCast] at hx0 hx1 hx2
      subst e1
      replace hx0 := (HB.out.cell (World.block_lt_of_cell? w _ hx0)).trans hx0
      replace hx1 := (HB.out.cell (World.block_lt_of_cell? w _ hx1)).trans hx1
      replace hx2 := (HB.out.cell (World.block_lt_of_cell? w _ hx2)).trans hx2
      clear HF hrd
      generalize l0[i] = x at hx0 hx1 hx2 hf
      have hcall := impl_LadderCoils.inner gn x.f0.length c1 A1 x.f1 x.f2 (n : Int) wr (blk_below BN.out HB.out)
      rw [impl_LadderCoils.fi_cons] at hf
      rw [show impl_LadderCoils.is n x = (x.f1 == (n : Int)) from rfl] at hf
      generalize hk : (x.f1 == (n : Int)) = b at hf hcall
      have HCL := Aside0.mk hcall
      clear hcall hk
      cases b with
      | false =>
        have HF := Aside0.mk (show impl_LadderCoils.fi (impl_LadderCoils.is n) (l0.drop (i + 1)) (i + 1) = impl_LadderCoils.fi (impl_LadderCoils.is n) l0 0 from by rw [if_neg (by decide)] at hf; exact hf)
        clear hf
        go_wp2_with (go_at_call 45; refine HCL.out.mono ?_; rintro e w1 ⟨rfl, hb⟩; have HB1 := Aside0.mk (below_step HB.out hb); clear hb)
        go_roundg m
        case measure => omega
        case rel => exact ⟨i + 1, (by first | rw [show wrap64 ((i : Int) + 1) = ((i + 1 : Nat) : Int) from by have := HL.out; have := HN.out; unfold wrap64; omega] | go_num), ⟨by have := HN.out; omega⟩, HF, HB1⟩
      | true =>
        rw [if_pos rfl] at hf
        have HFE := Aside0.mk hf
        clear hf
        go_wp2_with (go_at_call 45; refine HCL.out.mono ?_; rintro e w1 ⟨rfl, hb⟩; have HB1 := Aside0.mk (below_step HB.out hb); clear hb)
        go_ret
        exact ⟨by rw [← HFE.out]; rfl, HB1.out⟩
theorem impl_LadderCoils.contains (gn : Nat) (A0 : Option Addr) (c0 : Nat) (l0 : List S60) (n : Nat) (w : World) (hl : l0.length ≤ 1000000000) (hC : Kd.C k60 w A0 l0.length l0) (hbox : w.heap[gn]? = some (.cells #[.int .i64 (n : Int)] 3 (0, 0))) :
    Calls Try.prog 44 #[.slice A0 l0.length c0, .func (.func 45) #[] #[.pointer (some ⟨gn, 0, none⟩)]] w fun e w' => e = .returned (.bool (impl_LadderCoils.p l0 n)) ∧ Below w.heap.size w w' := by
  have hi := impl_LadderCoils.index gn A0 c0 l0 n w hl hC hbox
  unfold impl_LadderCoils.p
  rw [← impl_LadderCoils.fi_any (impl_LadderCoils.is n) l0 0]
  generalize impl_LadderCoils.fi (impl_LadderCoils.is n) l0 0 = i at hi ⊢
  generalize l0.length = q at hi
  clear hC hbox hl
  go_enter Try.func44, Try.ntmps44
  go_wp2_with (go_at_call 65; refine hi.mono ?_; rintro e w' ⟨rfl, hb⟩; have HB := Aside0.mk hb; clear hb)
  go_ret
  exact ⟨rfl, HB.out⟩
theorem impl_LadderCoils.clos (g : Nat) (A0 : Option Addr) (c0 : Nat) (l0 : List S60) (n : Nat) (w : World) (hl : l0.length ≤ 1000000000) (hC : Kd.C k60 w A0 l0.length l0) (hbox : w.heap[g]? = some (.cells #[.slice A0 l0.length c0] 26 (0, 0))) :
    Calls Try.prog 43 #[.int .i64 (n : Int), .pointer (some ⟨g, 0, none⟩)] w fun e w' => e = .returned (.bool (impl_LadderCoils.p l0 n)) ∧ Below w.heap.size w w' := by
  have BK := Aside0.mk hbox
  have HR := Aside0.mk hC
  have HL := Aside0.mk hl
  clear hbox hC hl
  go_enter Try.func43, Try.ntmps43
  go_wp2_with (first | ((with_reducible refine gate_dst (N := 2) rfl ?_); refine box_event ?hg (N := 2) ?hd (cs := #[.int .i64 (n : Int)]) (t := 3) ?hr ?_; (case hd => rfl); (case hg => rfl); (case hr => first | (go_simp; done) | (go_simp; rfl)); intro gn hg w2 hbox hb; have HB := Aside0.mk hb; have BN := Aside0.mk hbox; have hm1 : w2.cell? ⟨g, 0, none⟩ = some (.slice A0 l0.length c0) := (blk_cell (blk_below BK.out hb) 0).trans rfl; clear hb hbox hg) | (go_at_call 44; refine (impl_LadderCoils.contains gn A0 c0 l0 n w2 HL.out (Kd.C_below HR.out HB.out) BN.out).mono ?_; rintro e w3 ⟨rfl, hb⟩; have HB2 := Aside0.mk (below_step HB.out hb); clear hb))
  go_ret
  exact ⟨rfl, HB2.out⟩
set_option maxHeartbeats 2000000 in
theorem impl_LadderCoils.calls (A0 : Option Addr) (c0 : Nat) (l0 : List S60) (r : List Int) (w : World) (hr0 : Kd.C k60 w A0 l0.length l0) (hc0 : l0.length ≤ c0) (h : impl_LadderCoils.f l0 = some r) :
    Calls Try.prog 19 #[.slice A0 l0.length c0] w fun e w' => ∃ v0_ : Value, e = .returned v0_ ∧ Kd.Q (Kd.int .i64) 3 w' w.heap.size (fun _ => True) v0_ r ∧ Below w.heap.size w w' := by
  unfold impl_LadderCoils.f at h
  by_cases hl : l0.length ≤ 1000000000
  · rw [if_pos hl] at h
    obtain rfl := Option.some.inj h
    have HR := Aside0.mk hr0
    have HC := Aside0.mk hc0
    have HL := Aside0.mk hl
    clear hr0 hc0 h hl
    go_enter Try.func19, Try.ntmps19
    go_wp2_with (first | ((with_reducible refine gate_dst (N := 1) rfl ?_); refine box_event ?hg (N := 1) ?hd (cs := #[.slice A0 l0.length c0]) (t := 26) ?hr ?_; (case hd => rfl); (case hg => rfl); (case hr => first | (go_simp; done) | (go_simp; rfl)); intro gb hg w36 hbox hb; have HBx := Aside0.mk hb; have BKx := Aside0.mk hbox; clear hb hbox hg) | (go_at_call 40; refine (impl_LadderCoils.chosen (impl_LadderCoils.p l0) gb w36 (fun n w' hn hB => impl_LadderCoils.clos gb A0 c0 l0 n w' HL.out (Kd.C_below (Kd.C_below HR.out HBx.out) hB) (blk_below BKx.out hB))).mono ?_; rintro e w1 ⟨v0, rfl, hq, hb⟩))
    go_ret
    exact ⟨_, rfl, Kd.Q_lower hq HBx.out.size, below_then HBx.out HBx.out.size hb⟩
  · rw [if_neg hl] at h
    exact absurd h (by simp)


end Go.Proofs.Ytmphligplngeaaa.GFnExactLadderCoils

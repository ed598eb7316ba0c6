/- Functions of the program as Lean functions, with proofs that the machine comes to their answers; written by this session's program mkprint.py; no condition beyond each theorem's own. -/
import Derived.Test.YtpefkclpnkefnaaGFnExactRunDiagramx0
import Derived.Test.YtpefkclpnkefnaaGFnExactRunDiagramx7
import Derived.Test.YtpefkclpnkefnaaGFnExactRunDiagramx8
namespace Go.Proofs.Ytpefkclpnkefnaa.GFnExactRunDiagram
open Go.RowKit Go.Proofs.YtpefkclpnkefnaaV.PrintWords Go.Proofs.YtpefkclpnkefnaaV.PrintLast Go.Proofs.YtpefkclpnkefnaaV.PrintMore
attribute [local go_sem] max2_int min2_int max_two min_two max_three min_three max_four min_four   -- for this text's walks alone
set_option linter.unusedVariables false
set_option linter.unusedSimpArgs false

/-! ### impl_StepDiagram: function 14 -/
def sd.isD (x : S52) : Bool := x.f0 == 5
def sd.cnt (l : List S52) (i : Nat) : Nat := (l.take i).countP sd.isD
theorem sd.cnt_succ {l : List S52} {i : Nat} (h : i < l.length) : sd.cnt l (i + 1) = sd.cnt l i + (if sd.isD l[i] = true then 1 else 0) := by
  unfold sd.cnt
  rw [List.take_succ_eq_append_getElem h, List.countP_append, List.countP_cons]
  simp
theorem sd.cnt_le (l : List S52) (i : Nat) : sd.cnt l i ≤ i := by
  unfold sd.cnt
  refine Nat.le_trans List.countP_le_length ?_
  rw [List.length_take]
  omega
theorem sd.cnt_mono {l : List S52} : ∀ (j i : Nat), i ≤ j → j ≤ l.length → sd.cnt l i ≤ sd.cnt l j := by
  intro j
  induction j with
  | zero => intro i h _; obtain rfl : i = 0 := by omega
            exact Nat.le_refl _
  | succ j ih =>
    intro i h hj
    rcases Nat.lt_or_ge i (j + 1) with h1 | h1
    · have := ih i (by omega) (by omega)
      rw [sd.cnt_succ (by omega)]
      omega
    · obtain rfl : i = j + 1 := by omega
      exact Nat.le_refl _
def sd.fill (l : List S52) (st : List Int) : Nat → List Int
  | 0 => List.replicate l.length 0
  | i + 1 => if sd.isD (rd_T52 l (i : Int)) = true then (sd.fill l st i).set i (rd st (sd.cnt l i : Int)) else sd.fill l st i
theorem sd.fill_succ (l : List S52) (st : List Int) (i : Nat) : sd.fill l st (i + 1) = if sd.isD (rd_T52 l (i : Int)) = true then (sd.fill l st i).set i (rd st (sd.cnt l i : Int)) else sd.fill l st i := rfl
theorem sd.fill_len (l : List S52) (st : List Int) : ∀ i, (sd.fill l st i).length = l.length
  | 0 => by unfold sd.fill; simp
  | i + 1 => by
    rw [sd.fill_succ]
    split
    · rw [List.length_set, sd.fill_len l st i]
    · exact sd.fill_len l st i
def sd.val (out inp : List Int) (n : Int) : Int := if n < 0 then rd inp (-1 - n) else rd out n
def sd.ex (x : S52) (inp out : List Int) (j : Nat) : List Int :=
  if x.f0 = 1 then out.set j (mx (-32768) (mn 32767 (wrap64 (sd.val out inp x.f1 + sd.val out inp x.f2))))
  else if x.f0 = 2 then out.set j (mx (-32768) (mn 32767 (wrap64 (sd.val out inp x.f1 - sd.val out inp x.f2))))
  else if x.f0 = 3 then out.set j (mn (sd.val out inp x.f1) (sd.val out inp x.f2))
  else if x.f0 = 4 then out.set j (mx (sd.val out inp x.f1) (sd.val out inp x.f2))
  else out
theorem sd.ex_len (x : S52) (inp out : List Int) (j : Nat) : (sd.ex x inp out j).length = out.length := by
  unfold sd.ex
  repeat' split
  all_goals simp
def sd.run (l : List S52) (inp : List Int) : List Int → List Int → List Int
  | [], out => out
  | j :: js, out => sd.run l inp js (sd.ex (rd_T52 l j) inp out j.toNat)
theorem sd.run_len (l : List S52) (inp : List Int) : ∀ (js out : List Int), (sd.run l inp js out).length = out.length
  | [], _ => rfl
  | j :: js, out => by unfold sd.run; rw [sd.run_len l inp js, sd.ex_len]
def sd.next (l : List S52) (inp out : List Int) : Nat → List Int
  | 0 => []
  | i + 1 => if sd.isD (rd_T52 l (i : Int)) = true then sd.next l inp out i ++ [sd.val out inp (rd_T52 l (i : Int)).f1] else sd.next l inp out i
theorem sd.next_succ (l : List S52) (inp out : List Int) (i : Nat) : sd.next l inp out (i + 1) = if sd.isD (rd_T52 l (i : Int)) = true then sd.next l inp out i ++ [sd.val out inp (rd_T52 l (i : Int)).f1] else sd.next l inp out i := rfl
theorem sd.next_len (l : List S52) (inp out : List Int) : ∀ i, (sd.next l inp out i).length ≤ i
  | 0 => Nat.le_refl _
  | i + 1 => by
    have := sd.next_len l inp out i
    rw [sd.next_succ]
    split
    · rw [List.length_append]; simp; omega
    · omega
def sd.ord (l : List S52) (n : Int) : List Int × Bool := if dia.valid l n = true then eo.go l l.length (List.replicate l.length false) [] else ([], false)
def sd.good (l : List S52) (st inp : List Int) : Bool := (sd.ord l inp.length).2 && (decide (st.length = sd.cnt l l.length) && (!st.any impl_areWords.bad && !inp.any impl_areWords.bad))
def sd.out (l : List S52) (st inp : List Int) : List Int := sd.run l inp (sd.ord l inp.length).1 (sd.fill l st l.length)
def impl_StepDiagram.f (l0 : List S52) (l1 l2 : List Int) : Option (List Int × List Int) := if l0.length ≤ 9223372036854775807 then some (if sd.good l0 l1 l2 = true then (sd.out l0 l1 l2, sd.next l0 l2 (sd.out l0 l1 l2) l0.length) else ([], [])) else none
/-- What a good diagram promises of its blocks and of its order. -/
theorem sd.at_lt {l : List S52} {done : List Bool} : ∀ (m i k : Nat), eo.at l done m i = some k → k < i + m
  | 0, _, _, h => by unfold eo.at at h; cases h
  | m + 1, i, k, h => by
    rw [eo.at_succ] at h
    split at h
    · injection h with h; omega
    · have := sd.at_lt m (i + 1) k h; omega
theorem sd.go_in {l : List S52} : ∀ (m : Nat) (done : List Bool) (out : List Int), (∀ j ∈ out, 0 ≤ j ∧ j < (l.length : Int)) → ∀ j ∈ (eo.go l m done out).1, 0 ≤ j ∧ j < (l.length : Int)
  | 0, done, out, h => h
  | m + 1, done, out, h => by
    cases hq : eo.at l done l.length 0 with
    | none => rw [eo.go_none hq]; intro j hj; cases hj
    | some i =>
      rw [eo.go_some hq]
      refine sd.go_in m _ _ (fun j hj => ?_)
      rcases List.mem_append.mp hj with h1 | h1
      · exact h j h1
      · have := sd.at_lt _ _ _ hq
        have e : j = (i : Int) := by simpa using h1
        omega
theorem sd.ord_in {l : List S52} {n : Int} : ∀ j ∈ (sd.ord l n).1, 0 ≤ j ∧ j < (l.length : Int) := by
  unfold sd.ord
  split
  · exact sd.go_in _ _ _ (fun j hj => by cases hj)
  · intro j hj; cases hj
theorem sd.go_len {l : List S52} : ∀ (m : Nat) (done : List Bool) (out : List Int), (eo.go l m done out).1.length ≤ out.length + m
  | 0, done, out => Nat.le_refl _
  | m + 1, done, out => by
    cases hq : eo.at l done l.length 0 with
    | none => rw [eo.go_none hq]; simp
    | some i =>
      rw [eo.go_some hq]
      have := sd.go_len (l := l) m (done.set i true) (out ++ [(i : Int)])
      rw [List.length_append] at this
      simp at this
      omega
theorem sd.ord_len {l : List S52} {n : Int} : (sd.ord l n).1.length ≤ l.length := by
  unfold sd.ord
  split
  · have := sd.go_len (l := l) l.length (List.replicate l.length false) []
    simpa using this
  · simp
theorem sd.valid_all {l : List S52} {inp : Int} (h : dia.valid l inp = true) : l.length ≤ 12 ∧ ∀ (i : Nat) (hi : i < l.length), (-inp ≤ l[i].f1 ∧ l[i].f1 < (l.length : Int)) ∧ (¬ l[i].f0 = 5 → -inp ≤ l[i].f2 ∧ l[i].f2 < (l.length : Int)) := by
  unfold dia.valid at h
  by_cases hc : l.length ≤ 12 ∧ 0 ≤ inp ∧ inp ≤ 6
  · rw [if_pos hc] at h
    refine ⟨hc.1, fun i hi => ?_⟩
    have hb := List.all_eq_true.mp h _ (List.getElem_mem hi)
    generalize l[i] = b at hb
    unfold dia.ok dia.ex at hb
    refine ⟨?_, fun hk => ?_⟩
    · simp at hb
      omega
    · rw [if_neg hk] at hb
      simp at hb
      omega
  · rw [if_neg hc] at h
    cases h
theorem sd.ord_valid {l : List S52} {n : Int} (h : (sd.ord l n).2 = true) : dia.valid l n = true := by
  unfold sd.ord at h
  by_cases hv : dia.valid l n = true
  · exact hv
  · rw [if_neg hv] at h; cases h
/-- The call of a function that a slot holds. -/
theorem sd.callv {P : Program} {ops : Array Oper} {Q : Exit → Act → World → Prop} {oi : Oper} {N : Option Tmp} {a : Act} {w : World} {Kc : Act → World → Prop} {f : FuncId} {fn : Func} {as_ : Array Operand} {ts : Array TypeId} (c : Operand) (caps : Array Value) (hf : P.funcs[f]? = some fn) (hname : (fn.name == "runtime.NumGoroutine") = false) (hb : fn.body.isSome = true) (args : Array Value)
    (hw : Region.wanted oi (yielded ops a.tmps) = true) (hN : oi.dst = N) (hop : oi.op = .call { callee := .value c, args := as_, argTypes := ts }) (hc : a.eval c = .func (.func f) #[] caps) (hargs : as_.map a.eval ++ caps = args)
    (h : Calls P f args w fun e w' => ∃ v, e = .returned v ∧ Kc (a.put N v) w') : if Region.wanted oi (yielded ops a.tmps) = true then Oper.wp P oi a w Kc Q else Kc (a.put N undef) w := by
  refine call_ f args hw hN ?_ h
  have he := enters_ hf hname hb args w
  unfold execOp
  simp [hop, resolve, Deferred.ofValue, invoke, hc, hargs, he]
set_option maxHeartbeats 2000000 in
theorem impl_StepDiagram.value (gi go : Nat) (Ai Ao : Option Addr) (ci co n : Nat) (inp out : List Int) (x : Int) (w : World) (hi : w.heap[gi]? = some (.cells #[.slice Ai inp.length ci] 22 (0, 0))) (ho : w.heap[go]? = some (.cells #[.slice Ao n co] 22 (0, 0))) (hI : Kd.C (Kd.int .i64) w Ai inp.length inp) (hO : Kd.C (Kd.int .i64) w Ao n out) (h0 : -(inp.length : Int) ≤ x) (h1 : x < (n : Int)) (h6 : inp.length ≤ 6) :
    Calls Try.prog 36 #[.int .i64 x, .pointer (some ⟨gi, 0, none⟩), .pointer (some ⟨go, 0, none⟩)] w fun e w' => e = .returned (.int .i64 (sd.val out inp x)) ∧ w = w' := by
  have c1 : w.cell? ⟨gi, 0, none⟩ = some (.slice Ai inp.length ci) := (blk_cell hi 0).trans rfl
  have c2 : w.cell? ⟨go, 0, none⟩ = some (.slice Ao n co) := (blk_cell ho 0).trans rfl
  unfold sd.val
  by_cases hn : x < 0
  · have hnb : decide (x < 0) = true := decide_eq_true hn
    rw [if_pos hn]
    have hx0 : 0 ≤ -1 - x := by omega
    have hx1 : -1 - x < (inp.length : Int) := by omega
    have hwr : IntKind.i64.wrap (-1 - x) = -1 - x := by rw [i64_w]; unfold wrap64; omega
    have hwr2 : wrap64 (-1 - x) = -1 - x := by unfold wrap64; omega
    obtain ⟨ad, e1, hx⟩ := Kd.at_int hI (-1 - x) hx0 hx1
    subst e1
    generalize rd inp (-1 - x) = y at hx ⊢
    clear hi ho hI hO h0 h1 h6 hn
    go_enter Try.func36, Try.ntmps36
    go_wp2
    go_ret
    exact ⟨rfl, rfl⟩
  · have hnb : decide (x < 0) = false := decide_eq_false hn
    rw [if_neg hn]
    have hx0 : 0 ≤ x := by omega
    obtain ⟨ad, e1, hx⟩ := Kd.at_int hO x hx0 h1
    subst e1
    generalize rd out x = y at hx ⊢
    clear hi ho hI hO h0 h6 hn
    go_enter Try.func36, Try.ntmps36
    go_wp2
    go_ret
    exact ⟨rfl, rfl⟩
set_option maxHeartbeats 64000000 in
set_option maxRecDepth 100000 in
theorem impl_StepDiagram.calls (A0 : Option Addr) (c0 : Nat) (l0 : List S52) (A1 : Option Addr) (c1 : Nat) (l1 : List Int) (A2 : Option Addr) (c2 : Nat) (l2 : List Int) (r1 r2 : List Int) (w : World) (hr0 : Kd.C k52 w A0 l0.length l0) (hc0 : l0.length ≤ c0) (hr1 : Kd.C (Kd.int .i64) w A1 l1.length l1) (hc1 : l1.length ≤ c1) (hr2 : Kd.C (Kd.int .i64) w A2 l2.length l2) (hc2 : l2.length ≤ c2) (h : impl_StepDiagram.f l0 l1 l2 = some (r1, r2)) :
    Calls Try.prog 14 #[.slice A0 l0.length c0, .slice A1 l1.length c1, .slice A2 l2.length c2] w fun e w' => ∃ v0_ v1_ : Value, e = .returned (.tuple #[v0_, v1_]) ∧ Kd.R (Kd.int .i64) 3 w' w.heap.size (fun k_ => some k_ ≠ v1_.ownBlock) v0_ r1 ∧ Kd.Q (Kd.int .i64) 3 w' w.heap.size (fun k_ => some k_ ≠ v0_.ownBlock) v1_ r2 ∧ Below w.heap.size w w' := by
  have hu := Try.underlying52
  unfold impl_StepDiagram.f at h
  by_cases hM : l0.length ≤ 9223372036854775807
  case neg => rw [if_neg hM] at h; exact absurd h (by simp)
  rw [if_pos hM] at h
  have H := Aside0.mk (Option.some.inj h)
  have HR0 := Aside0.mk hr0
  have HC0 := Aside0.mk hc0
  have HR1 := Aside0.mk hr1
  have HC1 := Aside0.mk hc1
  have HR2 := Aside0.mk hr2
  have HC2 := Aside0.mk hc2
  have HM := Aside0.mk hM
  have hl0 : (0 : Int) ≤ (l0.length : Int) := by omega
  clear h hr0 hr1 hr2 hc0 hc1 hc2 hM
  obtain ⟨od, ok, hord⟩ : ∃ od ok, sd.ord l0 (l2.length : Int) = (od, ok) := ⟨_, _, rfl⟩
  have HORD := Aside0.mk hord
  clear hord
  go_enter Try.func14, Try.ntmps14
  go_wp2_with (first | ((with_reducible refine gate_dst (N := 5) rfl ?_); refine box_event ?b5g (N := 5) ?b5d (cs := #[.slice A2 l2.length c2]) (t := 22) ?b5r ?_; (case b5d => rfl); (case b5g => rfl); (case b5r => first | (go_simp; done) | (go_simp; rfl)); intro gi hg w1 hbox hb; have KI1 := Aside0.mk hbox; have HB1 := Aside0.mk hb; clear hb hbox hg; have hm2 : w1.cell? ⟨gi, 0, none⟩ = some (.slice A2 l2.length c2) := (blk_cell KI1.out 0).trans rfl) | (go_at_call 26; refine (impl_EvaluationOrder.calls A0 c0 l0 (l2.length : Int) od ok _ (Kd.C_below HR0.out HB1.out) HC0.out (by show some (sd.ord l0 (l2.length : Int)) = some (od, ok); rw [HORD.out])).mono ?_; rintro e w2 ⟨v8, rfl, hq, hb⟩; have KI2 := Aside0.mk (blk_below KI1.out hb); have HB2 := Aside0.mk (below_step HB1.out hb); obtain ⟨Ao, co, eo_, hlo, hco⟩ := Kd.Q_reads hq; subst eo_; have HLO := Aside0.mk hlo; have HOD2 := Aside0.mk hco; clear hq hb hm2 hlo hco))
  go_loopg [10, 32] l0.length (fun gg v10 v32 wr => ∃ i : Nat, v10 = .int .i64 (sd.cnt l0 i : Int) ∧ v32 = .int .i64 (i : Int) ∧ Aside0 (i + gg = l0.length) ∧ Aside0 (Below w2.heap.size w2 wr))
  case atStart => exact ⟨0, by first | rfl | simp [sd.cnt], rfl, ⟨by omega⟩, ⟨Below.refl _ _⟩⟩
  case round =>
    obtain ⟨i, rfl, rfl, HI, HBW⟩ := hrel
    cases gk with
    | succ m =>
      have hlt : i < l0.length := by have := HI.out; omega
      have hltz : (i : Int) < (l0.length : Int) := by omega
      obtain ⟨ad, e1, hx0, hx1, hx2⟩ := at_T52 HR0.out (i : Int) (by omega) (by omega)
      simp only [Int.toNat_natCast] at hx0 hx1 hx2
      subst e1
      replace hx0 := ((below_step HB2.out HBW.out).cell (World.block_lt_of_cell? w _ hx0)).trans hx0
      replace hx1 := ((below_step HB2.out HBW.out).cell (World.block_lt_of_cell? w _ hx1)).trans hx1
      replace hx2 := ((below_step HB2.out HBW.out).cell (World.block_lt_of_cell? w _ hx2)).trans hx2
      have HCS := Aside0.mk (sd.cnt_succ hlt)
      have HCL := Aside0.mk (sd.cnt_le l0 i)
      have hrd : rd_T52 l0 (i : Int) = l0[i] := by unfold rd_T52; rw [Int.toNat_natCast, List.getD_eq_getElem?_getD, List.getElem?_eq_getElem hlt]; rfl
      rw [hrd] at hx0 hx1 hx2
      clear hrd
      generalize l0[i] = x at hx0 hx1 hx2 HCS
      go_upto_region 6 with (first | ((with_reducible refine gate_dst (N := 12) rfl ?_); refine box_event ?b12g (N := 12) ?b12d (cs := #[.int .i64 0, .int .i64 0, .int .i64 0]) (t := 52) ?b12r ?_; (case b12d => rfl); (case b12g => rfl); (case b12r => first | (go_simp; done) | (go_simp; rfl)); intro gx hg w5 hbox hb; have BX := Aside0.mk hbox; have HBx := Aside0.mk hb; have GX := Aside0.mk (show wr.heap.size ≤ gx from by rw [hg]; exact Nat.le_refl _); clear hb hbox hg; have hcz0 : w5.cell? ⟨gx, 0, none⟩ = some (.int .i64 0) := (blk_cell BX.out 0).trans rfl; have hcz1 : w5.cell? ⟨gx, 1, none⟩ = some (.int .i64 0) := (blk_cell BX.out 1).trans rfl; have hcz2 : w5.cell? ⟨gx, 2, none⟩ = some (.int .i64 0) := (blk_cell BX.out 2).trans rfl; have hfz0 := blk_frozen BX.out 0; have hfz1 := blk_frozen BX.out 1; have hfz2 := blk_frozen BX.out 2))
      clear hcz0 hcz1 hcz2 hfz0 hfz1 hfz2 hx0 hx1 hx2
      have BX3 := Aside0.mk (blk_put (cs' := #[.int .i64 x.f0, .int .i64 x.f1, .int .i64 x.f2]) (blk_put (cs' := #[.int .i64 x.f0, .int .i64 x.f1, .int .i64 0]) (blk_put (cs' := #[.int .i64 x.f0, .int .i64 0, .int .i64 0]) BX.out 0 (.int .i64 x.f0) rfl) 1 (.int .i64 x.f1) rfl) 2 (.int .i64 x.f2) rfl)
      have HB3 := Aside0.mk (below_set (j := 2) (v := .int .i64 x.f2) (below_set (j := 1) (v := .int .i64 x.f1) (below_set (j := 0) (v := .int .i64 x.f0) HBx.out GX.out) GX.out) GX.out)
      clear BX HBx GX
      generalize ((w5.setCell ⟨gx, 0, none⟩ (.int .i64 x.f0)).setCell ⟨gx, 1, none⟩ (.int .i64 x.f1)).setCell ⟨gx, 2, none⟩ (.int .i64 x.f2) = W1 at BX3 HB3 ⊢
      have hy0 : W1.cell? ⟨gx, 0, none⟩ = some (.int .i64 x.f0) := (blk_cell BX3.out 0).trans rfl
      by_cases k5 : x.f0 = 5
      · have k5b : (x.f0 == 5) = true := by rw [k5]; rfl
        have HD := Aside0.mk (show sd.isD x = true from k5b)
        clear k5 BX3
        go_wp2
        go_roundg m
        case measure => omega
        case rel => exact ⟨i + 1, (by rw [HCS.out, HD.out]; first | rfl | (rw [show wrap64 ((sd.cnt l0 i : Int) + 1) = ((sd.cnt l0 i + 1 : Nat) : Int) from by have := HCL.out; have := HM.out; have := HI.out; unfold wrap64; omega]; rfl)), (by rw [show wrap64 ((i : Int) + 1) = ((i + 1 : Nat) : Int) from by have := HM.out; have := HI.out; unfold wrap64; omega]), ⟨by have := HI.out; omega⟩, ⟨below_step HBW.out HB3.out⟩⟩
      · have k5b : (x.f0 == 5) = false := beq_eq_false_iff_ne.mpr k5
        have HD := Aside0.mk (show sd.isD x = false from k5b)
        clear k5 BX3
        go_wp2
        go_roundg m
        case measure => omega
        case rel => exact ⟨i + 1, (by rw [HCS.out, HD.out]; first | rfl | (rw [show wrap64 ((sd.cnt l0 i : Int) + 1) = ((sd.cnt l0 i + 1 : Nat) : Int) from by have := HCL.out; have := HM.out; have := HI.out; unfold wrap64; omega]; rfl)), (by rw [show wrap64 ((i : Int) + 1) = ((i + 1 : Nat) : Int) from by have := HM.out; have := HI.out; unfold wrap64; omega]), ⟨by have := HI.out; omega⟩, ⟨below_step HBW.out HB3.out⟩⟩
    | zero =>
      have hi : i = l0.length := HI.out
      subst hi
      have hltz : ¬ ((l0.length : Int) < (l0.length : Int)) := by omega
      have KI3 := Aside0.mk (blk_below KI2.out HBW.out)
      have HOD3 := Aside0.mk (Kd.C_below HOD2.out HBW.out)
      have HB3 := Aside0.mk (below_step HB2.out HBW.out)
      clear KI1 KI2 HOD2 HB1 HB2 HBW HI
      have hm3 : wr.cell? ⟨gi, 0, none⟩ = some (.slice A2 l2.length c2) := (blk_cell KI3.out 0).trans rfl
      cases ok with
      | false =>
        have hgood : sd.good l0 l1 l2 = false := by unfold sd.good; rw [HORD.out]; rfl
        have hH := H.out
        rw [hgood] at hH
        injection hH with hra hrb
        subst hra hrb
        clear hgood
        clear hm3
        go_wp2
        go_ret2
        exact ⟨_, _, rfl, Kd.R_nil _ _ _ _ _, Kd.Q_nil _ _ _ _ _, HB3.out⟩
      | true =>
        by_cases hs : l1.length = sd.cnt l0 l0.length
        case neg =>
          have hgood : sd.good l0 l1 l2 = false := by unfold sd.good; rw [HORD.out]; simp [hs]
          have hH := H.out
          rw [hgood] at hH
          injection hH with hra hrb
          subst hra hrb
          clear hgood
          have hsb : ((l1.length : Int) == (sd.cnt l0 l0.length : Int)) = false := beq_eq_false_iff_ne.mpr (by omega)
          have hsn : ((l1.length : Int) != (sd.cnt l0 l0.length : Int)) = true := bne_iff_ne.mpr (by omega)
          clear hs hm3
          go_wp2
          go_ret2
          exact ⟨_, _, rfl, Kd.R_nil _ _ _ _ _, Kd.Q_nil _ _ _ _ _, HB3.out⟩
        have hsb : ((l1.length : Int) == (sd.cnt l0 l0.length : Int)) = true := beq_iff_eq.mpr (by omega)
        have hsn : ((l1.length : Int) != (sd.cnt l0 l0.length : Int)) = false := bne_eq_false_iff_eq.mpr (by omega)
        have HS := Aside0.mk hs
        clear hs
        obtain ⟨q1, hq1⟩ : ∃ q, l1.any impl_areWords.bad = q := ⟨_, rfl⟩
        obtain ⟨q2, hq2⟩ : ∃ q, l2.any impl_areWords.bad = q := ⟨_, rfl⟩
        have HQ1 := Aside0.mk hq1
        have HQ2 := Aside0.mk hq2
        have HA1 := Aside0.mk (show impl_areWords.f l1 = some (!q1) from by rw [← hq1]; rfl)
        have HA2 := Aside0.mk (show impl_areWords.f l2 = some (!q2) from by rw [← hq2]; rfl)
        clear hq1 hq2
        cases q1 with
        | true =>
          have hgood : sd.good l0 l1 l2 = false := by unfold sd.good; rw [HORD.out]; rw [HQ1.out]; simp
          have hH := H.out
          rw [hgood] at hH
          injection hH with hra hrb
          subst hra hrb
          clear hgood
          go_wp2_with (first | (go_at_call 28; (with_reducible refine (impl_areWords.calls A1 c1 l1 (!true) _ (Kd.C_below HR1.out HB3.out) HC1.out HA1.out).mono ?_); rintro e w4 ⟨rfl, hd⟩; have hb : Below wr.heap.size wr w4 := (by obtain ⟨⟨q_, rfl⟩⟩ := hd; exact pw_below_drewN (Below.refl _ _) q_); have KI4 := Aside0.mk (blk_below KI3.out hb); have HOD4 := Aside0.mk (Kd.C_below HOD3.out hb); have HB4 := Aside0.mk (below_step HB3.out hb); clear hd hb; have hm4 : w4.cell? ⟨gi, 0, none⟩ = some (.slice A2 l2.length c2) := (blk_cell KI4.out 0).trans rfl; clear hm3))
          go_ret2
          exact ⟨_, _, rfl, Kd.R_nil _ _ _ _ _, Kd.Q_nil _ _ _ _ _, HB4.out⟩
        | false =>
          cases q2 with
          | true =>
            have hgood : sd.good l0 l1 l2 = false := by unfold sd.good; rw [HORD.out]; rw [HQ2.out]; simp
            have hH := H.out
            rw [hgood] at hH
            injection hH with hra hrb
            subst hra hrb
            clear hgood
            go_wp2_with (first | (go_at_call 28; (with_reducible refine (impl_areWords.calls A1 c1 l1 (!false) _ (Kd.C_below HR1.out HB3.out) HC1.out HA1.out).mono ?_); rintro e w4 ⟨rfl, hd⟩; have hb : Below wr.heap.size wr w4 := (by obtain ⟨⟨q_, rfl⟩⟩ := hd; exact pw_below_drewN (Below.refl _ _) q_); have KI4 := Aside0.mk (blk_below KI3.out hb); have HOD4 := Aside0.mk (Kd.C_below HOD3.out hb); have HB4 := Aside0.mk (below_step HB3.out hb); clear hd hb; have hm4 : w4.cell? ⟨gi, 0, none⟩ = some (.slice A2 l2.length c2) := (blk_cell KI4.out 0).trans rfl; clear hm3) | (go_at_call 28; (with_reducible refine (impl_areWords.calls A2 c2 l2 (!true) _ (Kd.C_below HR2.out HB4.out) HC2.out HA2.out).mono ?_); rintro e w6 ⟨rfl, hd⟩; have hb : Below w4.heap.size w4 w6 := (by obtain ⟨⟨q_, rfl⟩⟩ := hd; exact pw_below_drewN (Below.refl _ _) q_); have KI6 := Aside0.mk (blk_below KI4.out hb); have HOD6 := Aside0.mk (Kd.C_below HOD4.out hb); have HB6 := Aside0.mk (below_step HB4.out hb); clear hd hb; clear hm4))
            go_ret2
            exact ⟨_, _, rfl, Kd.R_nil _ _ _ _ _, Kd.Q_nil _ _ _ _ _, HB6.out⟩
          | false =>
            have hgood : sd.good l0 l1 l2 = true := by unfold sd.good; rw [HORD.out, HQ1.out, HQ2.out]; simp [HS.out]
            have hH := H.out
            rw [if_pos hgood] at hH
            have HH := Aside0.mk hH
            clear hH H
            have hv : dia.valid l0 (l2.length : Int) = true := sd.ord_valid (by rw [HORD.out])
            obtain ⟨h12, hall⟩ := sd.valid_all hv
            have H12 := Aside0.mk h12
            have HALL := Aside0.mk hall
            have HIN6 := Aside0.mk (show l2.length ≤ 6 from by unfold dia.valid at hv; split at hv <;> first | omega | cases hv)
            have HJ := Aside0.mk (show ∀ j ∈ od, 0 ≤ j ∧ j < (l0.length : Int) from by have h_ := sd.ord_in (l := l0) (n := (l2.length : Int)); rw [HORD.out] at h_; exact h_)
            clear hv hgood h12 hall
            go_wp2_with (first | (go_at_call 28; (with_reducible refine (impl_areWords.calls A1 c1 l1 (!false) _ (Kd.C_below HR1.out HB3.out) HC1.out HA1.out).mono ?_); rintro e w4 ⟨rfl, hd⟩; have hb : Below wr.heap.size wr w4 := (by obtain ⟨⟨q_, rfl⟩⟩ := hd; exact pw_below_drewN (Below.refl _ _) q_); have KI4 := Aside0.mk (blk_below KI3.out hb); have HOD4 := Aside0.mk (Kd.C_below HOD3.out hb); have HB4 := Aside0.mk (below_step HB3.out hb); clear hd hb; have hm4 : w4.cell? ⟨gi, 0, none⟩ = some (.slice A2 l2.length c2) := (blk_cell KI4.out 0).trans rfl; clear hm3) | (go_at_call 28; (with_reducible refine (impl_areWords.calls A2 c2 l2 (!false) _ (Kd.C_below HR2.out HB4.out) HC2.out HA2.out).mono ?_); rintro e w6 ⟨rfl, hd⟩; have hb : Below w4.heap.size w4 w6 := (by obtain ⟨⟨q_, rfl⟩⟩ := hd; exact pw_below_drewN (Below.refl _ _) q_); have KI6 := Aside0.mk (blk_below KI4.out hb); have HOD6 := Aside0.mk (Kd.C_below HOD4.out hb); have HB6 := Aside0.mk (below_step HB4.out hb); clear hd hb; clear hm4) | ((with_reducible refine gate_dst (N := 62) rfl ?_); refine Kd.R_make (Kd.int .i64) _ 3 rfl (N := 62) rfl 22 _ _ rfl (l0.length : Int) rfl rfl Try.underlying22 (.int .i64 0) 8 info3 rfl (by decide) (by omega) 0 (ok := fun _ => True) (okp := fun _ => True) rfl (fun _ hk => hk) trivial hl0 (by have := H12.out; omega) (Below.refl _ _) (Nat.le_refl _) ?_; intro v62 w7 ho5 hb hg_ hnew_; clear hg_ hnew_; rw [Int.toNat_natCast] at ho5; have HO7 := Aside0.mk ho5; have HBW7 := Aside0.mk hb; clear hb ho5; obtain ⟨Ar, cr, eo_⟩ := Kd.R_slice HO7.out; rw [List.length_replicate] at eo_; subst eo_) | ((with_reducible refine gate_dst (N := 13) rfl ?_); refine box_event ?b13g (N := 13) ?b13d (cs := #[.slice none 0 0]) (t := 22) ?b13r ?_; (case b13d => rfl); (case b13g => rfl); (case b13r => first | (go_simp; done) | (go_simp; rfl)); intro go hg w8 hbox hb; have KO8 := Aside0.mk hbox; have HO8 := Aside0.mk (Kd.R_below HO7.out hb); have GO := Aside0.mk (show w6.heap.size ≤ go from by rw [hg]; exact below_size HBW7.out); have HBW8 := Aside0.mk (below_step HBW7.out hb); clear hb hbox hg; have hz : w8.cell? ⟨go, 0, none⟩ = some (.slice none 0 0) := (blk_cell KO8.out 0).trans rfl; have hfz := blk_frozen KO8.out 0))
            clear hz hfz
            have HR0w := HR0
            have HR0 := Aside0.mk (Kd.C_below HR0w.out HB6.out)
            have HR1w := HR1
            have HR1 := Aside0.mk (Kd.C_below HR1w.out HB6.out)
            have HR2w := HR2
            have HR2 := Aside0.mk (Kd.C_below HR2w.out HB6.out)
            clear HR0w HR1w HR2w KI3 KI4 HOD3 HOD4 HB3 HB4
            go_loopg [10, 65] l0.length (fun gg v10 v65 wr => ∃ i : Nat, v10 = .int .i64 (sd.cnt l0 i : Int) ∧ v65 = .int .i64 (i : Int) ∧ Aside0 (i + gg = l0.length) ∧ Aside0 (wr.heap[go]? = some (.cells #[.slice Ar l0.length cr] 22 (0, 0))) ∧ Aside0 (Kd.R (Kd.int .i64) 3 wr w6.heap.size (fun _ => True) (.slice Ar l0.length cr) (sd.fill l0 l1 i)) ∧ Aside0 (Below w6.heap.size w6 wr))
            case atStart => exact ⟨0, by first | rfl | simp [sd.cnt], rfl, ⟨by omega⟩, ⟨blk_put KO8.out 0 _ rfl⟩, ⟨Kd.R_set HO8.out KO8.out (by decide) 0 _⟩, ⟨below_set HBW8.out GO.out⟩⟩
            case round =>
              clear HO7 HO8 KO8 HBW7 HBW8
              obtain ⟨i, rfl, rfl, HI, KO, HO, HBW⟩ := hrel
              cases gk with
              | succ m =>
                have hlt : i < l0.length := by have := HI.out; omega
                have hltz : (i : Int) < (l0.length : Int) := by omega
                have hi0 : (0 : Int) ≤ (i : Int) := by omega
                obtain ⟨ad, e1, hx0, hx1, hx2⟩ := at_T52 HR0.out (i : Int) (by omega) (by omega)
                simp only [Int.toNat_natCast] at hx0 hx1 hx2
                subst e1
                replace hx0 := (HBW.out.cell (World.block_lt_of_cell? w6 _ hx0)).trans hx0
                replace hx1 := (HBW.out.cell (World.block_lt_of_cell? w6 _ hx1)).trans hx1
                replace hx2 := (HBW.out.cell (World.block_lt_of_cell? w6 _ hx2)).trans hx2
                have HCS := Aside0.mk (sd.cnt_succ hlt)
                have HCL := Aside0.mk (sd.cnt_le l0 i)
                have HCM := Aside0.mk (sd.cnt_mono l0.length (i + 1) hlt (Nat.le_refl _))
                have HFS := Aside0.mk (sd.fill_succ l0 l1 i)
                have hrd : rd_T52 l0 (i : Int) = l0[i] := by unfold rd_T52; rw [Int.toNat_natCast, List.getD_eq_getElem?_getD, List.getElem?_eq_getElem hlt]; rfl
                rw [hrd] at hx0 hx1 hx2 HFS
                clear hrd
                generalize l0[i] = x at hx0 hx1 hx2 HCS HFS
                go_upto_region 16 with (first | ((with_reducible refine gate_dst (N := 15) rfl ?_); refine box_event ?b15g (N := 15) ?b15d (cs := #[.int .i64 0, .int .i64 0, .int .i64 0]) (t := 52) ?b15r ?_; (case b15d => rfl); (case b15g => rfl); (case b15r => first | (go_simp; done) | (go_simp; rfl)); intro gx hg w5 hbox hb; have BX := Aside0.mk hbox; have HBx := Aside0.mk hb; have GX := Aside0.mk (show wr.heap.size ≤ gx from by rw [hg]; exact Nat.le_refl _); clear hb hbox hg; have hcz0 : w5.cell? ⟨gx, 0, none⟩ = some (.int .i64 0) := (blk_cell BX.out 0).trans rfl; have hcz1 : w5.cell? ⟨gx, 1, none⟩ = some (.int .i64 0) := (blk_cell BX.out 1).trans rfl; have hcz2 : w5.cell? ⟨gx, 2, none⟩ = some (.int .i64 0) := (blk_cell BX.out 2).trans rfl; have hfz0 := blk_frozen BX.out 0; have hfz1 := blk_frozen BX.out 1; have hfz2 := blk_frozen BX.out 2))
                clear hcz0 hcz1 hcz2 hfz0 hfz1 hfz2 hx0 hx1 hx2
                have BX3 := Aside0.mk (blk_put (cs' := #[.int .i64 x.f0, .int .i64 x.f1, .int .i64 x.f2]) (blk_put (cs' := #[.int .i64 x.f0, .int .i64 x.f1, .int .i64 0]) (blk_put (cs' := #[.int .i64 x.f0, .int .i64 0, .int .i64 0]) BX.out 0 (.int .i64 x.f0) rfl) 1 (.int .i64 x.f1) rfl) 2 (.int .i64 x.f2) rfl)
                have HB3 := Aside0.mk (below_set (j := 2) (v := .int .i64 x.f2) (below_set (j := 1) (v := .int .i64 x.f1) (below_set (j := 0) (v := .int .i64 x.f0) HBx.out GX.out) GX.out) GX.out)
                clear BX HBx GX
                generalize ((w5.setCell ⟨gx, 0, none⟩ (.int .i64 x.f0)).setCell ⟨gx, 1, none⟩ (.int .i64 x.f1)).setCell ⟨gx, 2, none⟩ (.int .i64 x.f2) = W1 at BX3 HB3 ⊢
                have hy0 : W1.cell? ⟨gx, 0, none⟩ = some (.int .i64 x.f0) := (blk_cell BX3.out 0).trans rfl
                by_cases k5 : ¬ x.f0 = 5
                · have k5b : (x.f0 == 5) = false := beq_eq_false_iff_ne.mpr k5
                  have HD := Aside0.mk (show sd.isD x = false from k5b)
                  have KO1 := Aside0.mk (blk_below KO.out HB3.out)
                  have HO1 := Aside0.mk (Kd.R_below HO.out HB3.out)
                  have HBW1 := Aside0.mk (below_step HBW.out HB3.out)
                  clear k5 BX3
                  go_wp2
                  go_roundg m
                  case measure => omega
                  case rel => exact ⟨i + 1, (by rw [HCS.out, HD.out]; rfl), (by first | rw [show wrap64 ((i : Int) + 1) = ((i + 1 : Nat) : Int) from by have := H12.out; have := HI.out; unfold wrap64; omega] | go_num), ⟨by have := HI.out; omega⟩, KO1, ⟨by rw [HFS.out, HD.out]; exact HO1.out⟩, HBW1⟩
                · replace k5 : x.f0 = 5 := Classical.not_not.mp k5
                  have k5b : (x.f0 == 5) = true := by rw [k5]; rfl
                  have HD := Aside0.mk (show sd.isD x = true from k5b)
                  have HC1_ := Aside0.mk (show sd.cnt l0 i < l1.length from by have := HCS.out; rw [HD.out] at this; have := HCM.out; have := HS.out; simp at *; omega)
                  have hcz1 : ((sd.cnt l0 i : Nat) : Int) < (l1.length : Int) := by have := HC1_.out; omega
                  have hcz0 : (0 : Int) ≤ ((sd.cnt l0 i : Nat) : Int) := by omega
                  obtain ⟨ad1, e1, hst⟩ := Kd.at_int HR1.out (sd.cnt l0 i : Int) hcz0 hcz1
                  subst e1
                  obtain ⟨gr, cap', e5, hgb, hgl, hgc⟩ := Kd.R_form HO.out (by rw [sd.fill_len]; omega)
                  injection e5 with ea en ec
                  subst ea ec
                  clear en hgc hgl
                  have GR := Aside0.mk hgb
                  clear hgb k5
                  have KO1 := Aside0.mk (blk_below KO.out HB3.out)
                  have HO1 := Aside0.mk (Kd.R_below HO.out HB3.out)
                  have HBW1 := Aside0.mk (below_step HBW.out HB3.out)
                  replace hst := (HBW1.out.cell (World.block_lt_of_cell? w6 _ hst)).trans hst
                  have hko : W1.cell? ⟨go, 0, none⟩ = some (.slice (some ⟨gr, 0, none⟩) l0.length cr) := (blk_cell KO1.out 0).trans rfl
                  simp only [Int.toNat_natCast] at hst
                  have HY := Aside0.mk (show rd l1 (sd.cnt l0 i : Int) = rd l1 (sd.cnt l0 i : Int) from rfl)
                  generalize hyy : rd l1 (sd.cnt l0 i : Int) = y at hst HFS
                  clear hyy HY BX3
                  have HCNT := Aside0.mk (show sd.cnt l0 i = sd.cnt l0 i from rfl)
                  go_wp2
                  refine start_ (n := 8) (S := fun w' => w'.cell? ⟨go, 0, none⟩ = some (.slice (some ⟨gr, 0, none⟩) l0.length cr) ∧ w'.cell? (ad1.add (sd.cnt l0 i)) = some (.int .i64 y)) (ds := [7]) #[false, false, false, false, false, false, false, false] (by kernel_rfl) rfl rfl ⟨hko, hst⟩ (fun hHeld => ?_)
                  have KOd := Aside0.mk (blk_drew KO1.out)
                  have HOd := Aside0.mk (Kd.R_drew HO1.out)
                  have HBd := Aside0.mk (below_drew1 HBW1.out)
                  clear hko hst KO1 HO1 HBW1
                  generalize W1.drew = w9 at KOd HOd HBd hHeld ⊢
                  refine pure_ (i := 1) (N := some 74) (v := ?_) (a' := ?_) #[false, true, false, false, false, false, false, false] rfl rfl (by kernel_rfl) (fun _ _ _ h => h) (Or.inl ⟨by rfl, ?_⟩) ?_ ?_
                  rotate_left
                  · intro w'
                    go_simp
                    with_reducible rfl
                  rotate_left
                  · simp only [Act.put, List.setIfInBounds_toArray, List.set_cons_zero, List.set_cons_succ, i64_w, i32_w]
                    rfl
                  refine pure_ (i := 2) (N := some 75) (v := ?_) (a' := ?_) #[false, true, true, false, false, false, false, false] rfl rfl (by kernel_rfl) (fun _ _ _ h => h) (Or.inl ⟨by rfl, ?_⟩) ?_ ?_
                  rotate_left
                  · intro w'
                    go_simp
                    with_reducible rfl
                  rotate_left
                  · simp only [Act.put, List.setIfInBounds_toArray, List.set_cons_zero, List.set_cons_succ, i64_w, i32_w]
                    rfl
                  refine pure_ (i := 3) (N := some 76) (v := ?_) (a' := ?_) #[false, true, true, true, false, false, false, false] rfl rfl (by kernel_rfl) (fun _ _ _ h => h) (Or.inl ⟨by rfl, ?_⟩) ?_ ?_
                  rotate_left
                  · intro w'
                    go_simp
                    with_reducible rfl
                  rotate_left
                  · simp only [Act.put, List.setIfInBounds_toArray, List.set_cons_zero, List.set_cons_succ, i64_w, i32_w]
                    rfl
                  refine take_ (i := 0) (N := some 73) (v := ?_) (a' := ?_) #[true, true, true, true, false, false, false, false] rfl rfl (by kernel_rfl) (fun _ _ _ h => h) (Or.inl ⟨by rfl, ?_⟩) hHeld ?_ ?_
                  rotate_left
                  · rintro w' ⟨s0, s1⟩
                    go_simp
                    with_reducible rfl
                  rotate_left
                  · simp only [Act.put, List.setIfInBounds_toArray, List.set_cons_zero, List.set_cons_succ, i64_w, i32_w]
                    rfl
                  refine pure_ (i := 4) (N := some 77) (v := ?_) (a' := ?_) #[true, true, true, true, true, false, false, false] rfl rfl (by kernel_rfl) (fun _ _ _ h => h) (Or.inl ⟨by rfl, ?_⟩) ?_ ?_
                  rotate_left
                  · intro w'
                    go_simp
                    with_reducible rfl
                  rotate_left
                  · simp only [Act.put, List.setIfInBounds_toArray, List.set_cons_zero, List.set_cons_succ, i64_w, i32_w]
                    rfl
                  refine take_ (i := 5) (N := some 78) (v := ?_) (a' := ?_) #[true, true, true, true, true, true, false, false] rfl rfl (by kernel_rfl) (fun _ _ _ h => h) (Or.inl ⟨by rfl, ?_⟩) hHeld ?_ ?_
                  rotate_left
                  · rintro w' ⟨s0, s1⟩
                    go_simp
                    with_reducible rfl
                  rotate_left
                  · simp only [Act.put, List.setIfInBounds_toArray, List.set_cons_zero, List.set_cons_succ, i64_w, i32_w]
                    rfl
                  refine pure_ (i := 6) (N := some 79) (v := ?_) (a' := ?_) #[true, true, true, true, true, true, true, false] rfl rfl (by kernel_rfl) (fun _ _ _ h => h) (Or.inl ⟨by rfl, ?_⟩) ?_ ?_
                  rotate_left
                  · intro w'
                    go_simp
                    with_reducible rfl
                  rotate_left
                  · simp only [Act.put, List.setIfInBounds_toArray, List.set_cons_zero, List.set_cons_succ, i64_w, i32_w]
                    rfl
                  refine last_ (i := 7) (N := none) #[true, true, true, true, true, true, true, true] rfl rfl (by kernel_rfl) (by decide) (fun K hK => ?_)
                  obtain ⟨hcl, hfr⟩ := Kd.R_celln (0 : Int) HOd.out (i : Int) (by omega) (by omega)
                  have hput := Kd.R_putg HOd.out (i : Int) (y)
                  simp only [Int.toNat_natCast] at hcl hfr hput
                  have HP := Aside0.mk hput.1
                  have HPG := Aside0.mk hput.2
                  clear hput
                  refine skip_ (w1 := ?_) (by rfl) rfl ?_ ?_
                  rotate_left
                  · go_simp
                    rfl
                  refine hK.out _ _ ?_
                  clear hK K
                  refine done_ (by kernel_rfl) ?_
                  have KO2 := Aside0.mk (blk_grown KOd.out HPG.out (Kd.R_ne HOd.out KOd.out (by decide)))
                  try go_wp2
                  go_roundg m
                  case measure => omega
                  case rel => exact ⟨i + 1, (by rw [HCS.out, HD.out]; first | rfl | (rw [show wrap64 ((sd.cnt l0 i : Int) + 1) = ((sd.cnt l0 i + 1 : Nat) : Int) from by have := HCL.out; have := HM.out; have := HI.out; unfold wrap64; omega]; rfl)), (by first | rw [show wrap64 ((i : Int) + 1) = ((i + 1 : Nat) : Int) from by have := H12.out; have := HI.out; unfold wrap64; omega] | go_num), ⟨by have := HI.out; omega⟩, KO2, ⟨by rw [HFS.out, HD.out]; exact HP.out⟩, ⟨below_set HBd.out GR.out⟩⟩
              | zero =>
                have hi : i = l0.length := HI.out
                subst hi
                clear HI
                rename World => wa
                have hH := HH.out
                injection hH with hra hrb
                have HF1 := Aside0.mk (show sd.run l0 l2 od (sd.fill l0 l1 l0.length) = r1 from by rw [← hra]; unfold sd.out; rw [HORD.out])
                have HF2 := Aside0.mk (show sd.next l0 l2 r1 l0.length = r2 from by rw [← hra]; exact hrb)
                have HOL := Aside0.mk (show od.length ≤ l0.length from by have h_ := sd.ord_len (l := l0) (n := (l2.length : Int)); rw [HORD.out] at h_; exact h_)
                clear hra hrb HH
                go_wp2
                go_loopg [86] od.length (fun gg v86 wr => ∃ (kk : Nat) (o : List Int), v86 = .int .i64 (kk : Int) ∧ Aside0 (kk + gg = od.length) ∧ Aside0 (sd.run l0 l2 (od.drop kk) o = r1) ∧ Aside0 (o.length = l0.length) ∧ Aside0 (wr.heap[go]? = some (.cells #[.slice Ar l0.length cr] 22 (0, 0))) ∧ Aside0 (Kd.R (Kd.int .i64) 3 wr w6.heap.size (fun _ => True) (.slice Ar l0.length cr) (o)) ∧ Aside0 (Below w6.heap.size w6 wr))
                case atStart => exact ⟨0, _, rfl, ⟨by omega⟩, ⟨by rw [List.drop_zero]; exact HF1.out⟩, ⟨sd.fill_len _ _ _⟩, KO, HO, HBW⟩
                case round =>
                  clear HF1 KO HO HBW
                  obtain ⟨kk, o, rfl, HI, HRUN0, HOLEN, KO, HO, HBW⟩ := hrel
                  cases gk with
                  | succ m =>
                    have hlt : kk < od.length := by have := HI.out; omega
                    have hltz2 : (kk : Int) < (od.length : Int) := by omega
                    have hk0 : (0 : Int) ≤ (kk : Int) := by omega
                    obtain ⟨ado, e1, hxo⟩ := Kd.at_int HOD6.out (kk : Int) (by omega) (by omega)
                    simp only [Int.toNat_natCast] at hxo
                    subst e1
                    replace hxo := (HBW.out.cell (World.block_lt_of_cell? w6 _ hxo)).trans hxo
                    have hrdo : rd od (kk : Int) = od[kk] := by unfold rd; rw [Int.toNat_natCast, List.getD_eq_getElem?_getD, List.getElem?_eq_getElem hlt]; rfl
                    rw [hrdo] at hxo
                    have hj := HJ.out od[kk] (List.getElem_mem hlt)
                    have hrun := HRUN0.out
                    rw [List.drop_eq_getElem_cons hlt] at hrun
                    unfold sd.run at hrun
                    generalize od[kk] = j at hxo hj hrun
                    obtain ⟨i, rfl⟩ : ∃ i : Nat, j = (i : Int) := ⟨j.toNat, by omega⟩
                    clear hrdo HRUN0
                    have hlti : i < l0.length := by omega
                    have hltzi : (i : Int) < (l0.length : Int) := by omega
                    have hi0 : (0 : Int) ≤ (i : Int) := by omega
                    obtain ⟨ad, e1, hx0, hx1, hx2⟩ := at_T52 HR0.out (i : Int) (by omega) (by omega)
                    simp only [Int.toNat_natCast] at hx0 hx1 hx2
                    subst e1
                    replace hx0 := (HBW.out.cell (World.block_lt_of_cell? w6 _ hx0)).trans hx0
                    replace hx1 := (HBW.out.cell (World.block_lt_of_cell? w6 _ hx1)).trans hx1
                    replace hx2 := (HBW.out.cell (World.block_lt_of_cell? w6 _ hx2)).trans hx2
                    have hrd : rd_T52 l0 (i : Int) = l0[i] := by unfold rd_T52; rw [Int.toNat_natCast, List.getD_eq_getElem?_getD, List.getElem?_eq_getElem hlti]; rfl
                    rw [hrd] at hx0 hx1 hx2 hrun
                    simp only [Int.toNat_natCast] at hrun
                    have hall := HALL.out i hlti
                    clear hrd
                    generalize l0[i] = x at hx0 hx1 hx2 hrun hall
                    have HRUN := Aside0.mk hrun
                    have HAL := Aside0.mk hall
                    clear hrun hall hj
                    obtain ⟨gr, cap', e5, hgb, hgl, hgc⟩ := Kd.R_form HO.out (by rw [HOLEN.out]; omega)
                    injection e5 with ea en ec
                    subst ea ec
                    clear en hgc hgl
                    have GR := Aside0.mk hgb
                    clear hgb
                    go_upto_region 25 with (first | ((with_reducible refine gate_dst (N := 19) rfl ?_); refine box_event ?b19g (N := 19) ?b19d (cs := #[.int .i64 0, .int .i64 0, .int .i64 0]) (t := 52) ?b19r ?_; (case b19d => rfl); (case b19g => rfl); (case b19r => first | (go_simp; done) | (go_simp; rfl)); intro gx hg w5 hbox hb; have BX := Aside0.mk hbox; have HBx := Aside0.mk hb; have GX := Aside0.mk (show wr.heap.size ≤ gx from by rw [hg]; exact Nat.le_refl _); clear hb hbox hg; have hcz0 : w5.cell? ⟨gx, 0, none⟩ = some (.int .i64 0) := (blk_cell BX.out 0).trans rfl; have hcz1 : w5.cell? ⟨gx, 1, none⟩ = some (.int .i64 0) := (blk_cell BX.out 1).trans rfl; have hcz2 : w5.cell? ⟨gx, 2, none⟩ = some (.int .i64 0) := (blk_cell BX.out 2).trans rfl; have hfz0 := blk_frozen BX.out 0; have hfz1 := blk_frozen BX.out 1; have hfz2 := blk_frozen BX.out 2))
                    clear hcz0 hcz1 hcz2 hfz0 hfz1 hfz2 hx0 hx1 hx2
                    have BX3 := Aside0.mk (blk_put (cs' := #[.int .i64 x.f0, .int .i64 x.f1, .int .i64 x.f2]) (blk_put (cs' := #[.int .i64 x.f0, .int .i64 x.f1, .int .i64 0]) (blk_put (cs' := #[.int .i64 x.f0, .int .i64 0, .int .i64 0]) BX.out 0 (.int .i64 x.f0) rfl) 1 (.int .i64 x.f1) rfl) 2 (.int .i64 x.f2) rfl)
                    have HB3 := Aside0.mk (below_set (j := 2) (v := .int .i64 x.f2) (below_set (j := 1) (v := .int .i64 x.f1) (below_set (j := 0) (v := .int .i64 x.f0) HBx.out GX.out) GX.out) GX.out)
                    clear BX HBx GX
                    generalize ((w5.setCell ⟨gx, 0, none⟩ (.int .i64 x.f0)).setCell ⟨gx, 1, none⟩ (.int .i64 x.f1)).setCell ⟨gx, 2, none⟩ (.int .i64 x.f2) = W1 at BX3 HB3 ⊢
                    have hy0 : W1.cell? ⟨gx, 0, none⟩ = some (.int .i64 x.f0) := (blk_cell BX3.out 0).trans rfl
                    clear hxo
                    have hy1 : W1.cell? ⟨gx, 1, none⟩ = some (.int .i64 x.f1) := (blk_cell BX3.out 1).trans rfl
                    have hy2 : W1.cell? ⟨gx, 2, none⟩ = some (.int .i64 x.f2) := (blk_cell BX3.out 2).trans rfl
                    have KO1 := Aside0.mk (blk_below KO.out HB3.out)
                    have HO1 := Aside0.mk (Kd.R_below HO.out HB3.out)
                    have HBW1 := Aside0.mk (below_step HBW.out HB3.out)
                    have hko : W1.cell? ⟨go, 0, none⟩ = some (.slice (some ⟨gr, 0, none⟩) l0.length cr) := (blk_cell KO1.out 0).trans rfl
                    clear BX3 HB3
                    by_cases k1 : x.f0 = 1
                    · have k1b : (x.f0 == 1) = true := by rw [k1]; rfl
                      have hB2 := HAL.out.2 (by omega)
                      obtain ⟨va, hva⟩ : ∃ v, sd.val o l2 x.f1 = v := ⟨_, rfl⟩
                      obtain ⟨vb, hvb⟩ : ∃ v, sd.val o l2 x.f2 = v := ⟨_, rfl⟩
                      have HEX := Aside0.mk (show sd.ex x l2 o i = o.set i (mx (-32768) (mn 32767 (wrap64 (va + vb)))) from by unfold sd.ex; rw [if_pos k1, hva, hvb])
                      have HVA := Aside0.mk hva
                      have HVB := Aside0.mk hvb
                      have HB2 := Aside0.mk hB2
                      clear hva hvb hB2 k1
                      go_wp2
                      refine start_ (n := 14) (S := fun w' => w'.cell? ⟨go, 0, none⟩ = some (.slice (some ⟨gr, 0, none⟩) l0.length cr) ∧ w'.cell? ⟨gx, 1, none⟩ = some (.int .i64 x.f1) ∧ w'.cell? ⟨gx, 2, none⟩ = some (.int .i64 x.f2)) (ds := [13]) #[false, false, false, false, false, false, false, false, false, false, false, false, false, false] (by kernel_rfl) rfl rfl ⟨hko, hy1, hy2⟩ (fun hHeld => ?_)
                      have KOd := Aside0.mk (blk_drew KO1.out)
                      have HOd := Aside0.mk (Kd.R_drew HO1.out)
                      have HBd := Aside0.mk (below_drew1 HBW1.out)
                      clear hko hy0 hy1 hy2 KO1 HO1 HBW1
                      generalize W1.drew = w9 at KOd HOd HBd hHeld ⊢
                      have HCO := Aside0.mk (show Kd.C (Kd.int .i64) w9 (some ⟨gr, 0, none⟩) l0.length o from by have h_ := Kd.R_reads' HOd.out; rw [h_.1]; exact h_.2.2)
                      have HCA := Aside0.mk (impl_StepDiagram.value gi go A2 (some ⟨gr, 0, none⟩) c2 cr l0.length l2 o x.f1 w9 (blk_below KI6.out HBd.out) KOd.out (Kd.C_below HR2.out HBd.out) HCO.out HAL.out.1.1 HAL.out.1.2 HIN6.out)
                      have HCB := Aside0.mk (impl_StepDiagram.value gi go A2 (some ⟨gr, 0, none⟩) c2 cr l0.length l2 o x.f2 w9 (blk_below KI6.out HBd.out) KOd.out (Kd.C_below HR2.out HBd.out) HCO.out HB2.out.1 HB2.out.2 HIN6.out)
                      rw [HVA.out] at HCA
                      rw [HVB.out] at HCB
                      refine take_ (i := 0) (N := some 98) (v := ?_) (a' := ?_) #[true, false, false, false, false, false, false, false, false, false, false, false, false, false] rfl rfl (by kernel_rfl) (fun _ _ _ h => h) (Or.inl ⟨by rfl, ?_⟩) hHeld ?_ ?_
                      rotate_left
                      · rintro w' ⟨s0, s1, s2⟩
                        go_simp
                        with_reducible rfl
                      rotate_left
                      · simp only [Act.put, List.setIfInBounds_toArray, List.set_cons_zero, List.set_cons_succ, i64_w, i32_w]
                        rfl
                      refine pure_ (i := 1) (N := some 99) (v := ?_) (a' := ?_) #[true, true, false, false, false, false, false, false, false, false, false, false, false, false] rfl rfl (by kernel_rfl) (fun _ _ _ h => h) (Or.inl ⟨by rfl, ?_⟩) ?_ ?_
                      rotate_left
                      · intro w'
                        go_simp
                        with_reducible rfl
                      rotate_left
                      · simp only [Act.put, List.setIfInBounds_toArray, List.set_cons_zero, List.set_cons_succ, i64_w, i32_w]
                        rfl
                      refine pure_ (i := 2) (N := some 100) (v := ?_) (a' := ?_) #[true, true, true, false, false, false, false, false, false, false, false, false, false, false] rfl rfl (by kernel_rfl) (fun _ _ _ h => h) (Or.inl ⟨by rfl, ?_⟩) ?_ ?_
                      rotate_left
                      · intro w'
                        go_simp
                        with_reducible rfl
                      rotate_left
                      · simp only [Act.put, List.setIfInBounds_toArray, List.set_cons_zero, List.set_cons_succ, i64_w, i32_w]
                        rfl
                      refine pure_ (i := 3) (N := some 101) (v := ?_) (a' := ?_) #[true, true, true, true, false, false, false, false, false, false, false, false, false, false] rfl rfl (by kernel_rfl) (fun _ _ _ h => h) (Or.inl ⟨by rfl, ?_⟩) ?_ ?_
                      rotate_left
                      · intro w'
                        go_simp
                        with_reducible rfl
                      rotate_left
                      · simp only [Act.put, List.setIfInBounds_toArray, List.set_cons_zero, List.set_cons_succ, i64_w, i32_w]
                        rfl
                      refine take_ (i := 4) (N := some 102) (v := ?_) (a' := ?_) #[true, true, true, true, true, false, false, false, false, false, false, false, false, false] rfl rfl (by kernel_rfl) (fun _ _ _ h => h) (Or.inl ⟨by rfl, ?_⟩) hHeld ?_ ?_
                      rotate_left
                      · rintro w' ⟨s0, s1, s2⟩
                        go_simp
                        with_reducible rfl
                      rotate_left
                      · simp only [Act.put, List.setIfInBounds_toArray, List.set_cons_zero, List.set_cons_succ, i64_w, i32_w]
                        rfl
                      refine pure_ (i := 6) (N := some 104) (v := ?_) (a' := ?_) #[true, true, true, true, true, false, true, false, false, false, false, false, false, false] rfl rfl (by kernel_rfl) (fun _ _ _ h => h) (Or.inl ⟨by rfl, ?_⟩) ?_ ?_
                      rotate_left
                      · intro w'
                        go_simp
                        with_reducible rfl
                      rotate_left
                      · simp only [Act.put, List.setIfInBounds_toArray, List.set_cons_zero, List.set_cons_succ, i64_w, i32_w]
                        rfl
                      refine pure_ (i := 7) (N := some 105) (v := ?_) (a' := ?_) #[true, true, true, true, true, false, true, true, false, false, false, false, false, false] rfl rfl (by kernel_rfl) (fun _ _ _ h => h) (Or.inl ⟨by rfl, ?_⟩) ?_ ?_
                      rotate_left
                      · intro w'
                        go_simp
                        with_reducible rfl
                      rotate_left
                      · simp only [Act.put, List.setIfInBounds_toArray, List.set_cons_zero, List.set_cons_succ, i64_w, i32_w]
                        rfl
                      refine take_ (i := 8) (N := some 106) (v := ?_) (a' := ?_) #[true, true, true, true, true, false, true, true, true, false, false, false, false, false] rfl rfl (by kernel_rfl) (fun _ _ _ h => h) (Or.inl ⟨by rfl, ?_⟩) hHeld ?_ ?_
                      rotate_left
                      · rintro w' ⟨s0, s1, s2⟩
                        go_simp
                        with_reducible rfl
                      rotate_left
                      · simp only [Act.put, List.setIfInBounds_toArray, List.set_cons_zero, List.set_cons_succ, i64_w, i32_w]
                        rfl
                      refine one_ (i := 5) (N := some 103) #[true, true, true, true, true, true, true, true, true, false, false, false, false, false] rfl rfl (by kernel_rfl) (by decide) (fun K hK => ?_)
                      refine sd.callv (.tmp 100) #[.pointer (some ⟨gi, 0, none⟩), .pointer (some ⟨go, 0, none⟩)] Try.func36 (by kernel_rfl) rfl #[.int .i64 x.f1, .pointer (some ⟨gi, 0, none⟩), .pointer (some ⟨go, 0, none⟩)] (by rfl) rfl rfl (by first | rfl | (go_simp; done)) (by first | rfl | (go_simp; done)) ?_
                      refine (HCA.out).mono ?_
                      rintro e w12 ⟨rfl, rfl⟩
                      refine ⟨_, rfl, ?_⟩
                      refine hK.out _ _ hHeld (fun hHeldn => ?_)
                      clear hK K hHeld
                      refine norm_ (a' := ?_) ?_ ?_
                      rotate_left
                      · show Act.put _ (some 103) _ = _
                        simp only [Act.put, List.setIfInBounds_toArray, List.set_cons_zero, List.set_cons_succ, i64_w, i32_w]
                        rfl
                      refine one_ (i := 9) (N := some 107) #[true, true, true, true, true, true, true, true, true, true, false, false, false, false] rfl rfl (by kernel_rfl) (by decide) (fun K hK => ?_)
                      refine sd.callv (.tmp 104) #[.pointer (some ⟨gi, 0, none⟩), .pointer (some ⟨go, 0, none⟩)] Try.func36 (by kernel_rfl) rfl #[.int .i64 x.f2, .pointer (some ⟨gi, 0, none⟩), .pointer (some ⟨go, 0, none⟩)] (by rfl) rfl rfl (by first | rfl | (go_simp; done)) (by first | rfl | (go_simp; done)) ?_
                      refine (HCB.out).mono ?_
                      rintro e w12 ⟨rfl, rfl⟩
                      refine ⟨_, rfl, ?_⟩
                      refine hK.out _ _ hHeldn (fun hHeldnn => ?_)
                      clear hK K hHeldn
                      refine norm_ (a' := ?_) ?_ ?_
                      rotate_left
                      · show Act.put _ (some 107) _ = _
                        simp only [Act.put, List.setIfInBounds_toArray, List.set_cons_zero, List.set_cons_succ, i64_w, i32_w]
                        rfl
                      refine pure_ (i := 10) (N := some 108) (v := ?_) (a' := ?_) #[true, true, true, true, true, true, true, true, true, true, true, false, false, false] rfl rfl (by kernel_rfl) (fun _ _ _ h => h) (Or.inl ⟨by rfl, ?_⟩) ?_ ?_
                      rotate_left
                      · intro w'
                        go_simp
                        with_reducible rfl
                      rotate_left
                      · simp only [Act.put, List.setIfInBounds_toArray, List.set_cons_zero, List.set_cons_succ, i64_w, i32_w]
                        rfl
                      obtain ⟨lv, hlv⟩ : ∃ v, mx (-32768) (mn 32767 (wrap64 (va + vb))) = v := ⟨_, rfl⟩
                      rw [hlv] at HEX
                      have HLV := Aside0.mk (show impl_limit.f (wrap64 (va + vb)) = some lv from by rw [← hlv]; rfl)
                      clear hlv
                      refine one_ (i := 11) (N := some 109) #[true, true, true, true, true, true, true, true, true, true, true, true, false, false] rfl rfl (by kernel_rfl) (by decide) (fun K hK => ?_)
                      refine goes_ Try.func37 (by kernel_rfl) rfl #[.int .i64 (wrap64 (va + vb))] (by rfl) rfl rfl (by (try simp only [List.map_toArray, List.map_cons, List.map_nil]); first | done | rfl) ?_
                      refine (impl_limit.calls (wrap64 (va + vb)) lv w9 HLV.out).mono ?_
                      rintro e w12 ⟨rfl, hb⟩
                      refine ⟨_, rfl, ?_⟩
                      have KO4 := Aside0.mk (blk_below KOd.out hb)
                      have HO4 := Aside0.mk (Kd.R_below HOd.out hb)
                      have HB4 := Aside0.mk (below_step HBd.out hb)
                      have HB12 := Aside0.mk hb
                      clear hb
                      refine hK.out _ _ ⟨(blk_cell KO4.out 0).trans rfl, (HB12.out.cell (World.block_lt_of_cell? w9 _ hHeldnn.2.1)).trans hHeldnn.2.1, (HB12.out.cell (World.block_lt_of_cell? w9 _ hHeldnn.2.2)).trans hHeldnn.2.2⟩ (fun hHeldnnn => ?_)
                      clear hK K hHeldnn
                      refine norm_ (a' := ?_) ?_ ?_
                      rotate_left
                      · show Act.put _ (some 109) _ = _
                        simp only [Act.put, List.setIfInBounds_toArray, List.set_cons_zero, List.set_cons_succ, i64_w, i32_w]
                        rfl
                      refine pure_ (i := 12) (N := some 110) (v := ?_) (a' := ?_) #[true, true, true, true, true, true, true, true, true, true, true, true, true, false] rfl rfl (by kernel_rfl) (fun _ _ _ h => h) (Or.inl ⟨by rfl, ?_⟩) ?_ ?_
                      rotate_left
                      · intro w'
                        go_simp
                        with_reducible rfl
                      rotate_left
                      · simp only [Act.put, List.setIfInBounds_toArray, List.set_cons_zero, List.set_cons_succ, i64_w, i32_w]
                        rfl
                      refine last_ (i := 13) (N := none) #[true, true, true, true, true, true, true, true, true, true, true, true, true, true] rfl rfl (by kernel_rfl) (by decide) (fun K hK => ?_)
                      obtain ⟨hcl, hfr⟩ := Kd.R_celln (0 : Int) HO4.out (i : Int) (by omega) (by omega)
                      have hput := Kd.R_putg HO4.out (i : Int) (lv)
                      simp only [Int.toNat_natCast] at hcl hfr hput
                      have HP := Aside0.mk hput.1
                      have HPG := Aside0.mk hput.2
                      clear hput
                      refine skip_ (w1 := ?_) (by rfl) rfl ?_ ?_
                      rotate_left
                      · go_simp
                        rfl
                      refine hK.out _ _ ?_
                      clear hK K
                      refine done_ (by kernel_rfl) ?_
                      have KO5 := Aside0.mk (blk_grown KO4.out HPG.out (Kd.R_ne HO4.out KO4.out (by decide)))
                      try go_wp2
                      go_roundg m
                      case measure => omega
                      case rel => exact ⟨kk + 1, _, (by rw [show wrap64 ((kk : Int) + 1) = ((kk + 1 : Nat) : Int) from by have := H12.out; have := HI.out; have := HOL.out; unfold wrap64; omega]), ⟨by have := HI.out; omega⟩, HRUN, ⟨by rw [sd.ex_len]; exact HOLEN.out⟩, KO5, ⟨by rw [HEX.out]; exact HP.out⟩, ⟨below_set HB4.out GR.out⟩⟩
                    have k1b : (x.f0 == 1) = false := beq_eq_false_iff_ne.mpr k1
                    by_cases k2 : x.f0 = 2
                    · have k2b : (x.f0 == 2) = true := by rw [k2]; rfl
                      have hB2 := HAL.out.2 (by omega)
                      obtain ⟨va, hva⟩ : ∃ v, sd.val o l2 x.f1 = v := ⟨_, rfl⟩
                      obtain ⟨vb, hvb⟩ : ∃ v, sd.val o l2 x.f2 = v := ⟨_, rfl⟩
                      have HEX := Aside0.mk (show sd.ex x l2 o i = o.set i (mx (-32768) (mn 32767 (wrap64 (va - vb)))) from by unfold sd.ex; rw [if_neg k1, if_pos k2, hva, hvb])
                      have HVA := Aside0.mk hva
                      have HVB := Aside0.mk hvb
                      have HB2 := Aside0.mk hB2
                      clear hva hvb hB2 k1 k2
                      go_wp2
                      refine start_ (n := 14) (S := fun w' => w'.cell? ⟨go, 0, none⟩ = some (.slice (some ⟨gr, 0, none⟩) l0.length cr) ∧ w'.cell? ⟨gx, 1, none⟩ = some (.int .i64 x.f1) ∧ w'.cell? ⟨gx, 2, none⟩ = some (.int .i64 x.f2)) (ds := [13]) #[false, false, false, false, false, false, false, false, false, false, false, false, false, false] (by kernel_rfl) rfl rfl ⟨hko, hy1, hy2⟩ (fun hHeld => ?_)
                      have KOd := Aside0.mk (blk_drew KO1.out)
                      have HOd := Aside0.mk (Kd.R_drew HO1.out)
                      have HBd := Aside0.mk (below_drew1 HBW1.out)
                      clear hko hy0 hy1 hy2 KO1 HO1 HBW1
                      generalize W1.drew = w9 at KOd HOd HBd hHeld ⊢
                      have HCO := Aside0.mk (show Kd.C (Kd.int .i64) w9 (some ⟨gr, 0, none⟩) l0.length o from by have h_ := Kd.R_reads' HOd.out; rw [h_.1]; exact h_.2.2)
                      have HCA := Aside0.mk (impl_StepDiagram.value gi go A2 (some ⟨gr, 0, none⟩) c2 cr l0.length l2 o x.f1 w9 (blk_below KI6.out HBd.out) KOd.out (Kd.C_below HR2.out HBd.out) HCO.out HAL.out.1.1 HAL.out.1.2 HIN6.out)
                      have HCB := Aside0.mk (impl_StepDiagram.value gi go A2 (some ⟨gr, 0, none⟩) c2 cr l0.length l2 o x.f2 w9 (blk_below KI6.out HBd.out) KOd.out (Kd.C_below HR2.out HBd.out) HCO.out HB2.out.1 HB2.out.2 HIN6.out)
                      rw [HVA.out] at HCA
                      rw [HVB.out] at HCB
                      refine take_ (i := 0) (N := some 113) (v := ?_) (a' := ?_) #[true, false, false, false, false, false, false, false, false, false, false, false, false, false] rfl rfl (by kernel_rfl) (fun _ _ _ h => h) (Or.inl ⟨by rfl, ?_⟩) hHeld ?_ ?_
                      rotate_left
                      · rintro w' ⟨s0, s1, s2⟩
                        go_simp
                        with_reducible rfl
                      rotate_left
                      · simp only [Act.put, List.setIfInBounds_toArray, List.set_cons_zero, List.set_cons_succ, i64_w, i32_w]
                        rfl
                      refine pure_ (i := 1) (N := some 114) (v := ?_) (a' := ?_) #[true, true, false, false, false, false, false, false, false, false, false, false, false, false] rfl rfl (by kernel_rfl) (fun _ _ _ h => h) (Or.inl ⟨by rfl, ?_⟩) ?_ ?_
                      rotate_left
                      · intro w'
                        go_simp
                        with_reducible rfl
                      rotate_left
                      · simp only [Act.put, List.setIfInBounds_toArray, List.set_cons_zero, List.set_cons_succ, i64_w, i32_w]
                        rfl
                      refine pure_ (i := 2) (N := some 115) (v := ?_) (a' := ?_) #[true, true, true, false, false, false, false, false, false, false, false, false, false, false] rfl rfl (by kernel_rfl) (fun _ _ _ h => h) (Or.inl ⟨by rfl, ?_⟩) ?_ ?_
                      rotate_left
                      · intro w'
                        go_simp
                        with_reducible rfl
                      rotate_left
                      · simp only [Act.put, List.setIfInBounds_toArray, List.set_cons_zero, List.set_cons_succ, i64_w, i32_w]
                        rfl
                      refine pure_ (i := 3) (N := some 116) (v := ?_) (a' := ?_) #[true, true, true, true, false, false, false, false, false, false, false, false, false, false] rfl rfl (by kernel_rfl) (fun _ _ _ h => h) (Or.inl ⟨by rfl, ?_⟩) ?_ ?_
                      rotate_left
                      · intro w'
                        go_simp
                        with_reducible rfl
                      rotate_left
                      · simp only [Act.put, List.setIfInBounds_toArray, List.set_cons_zero, List.set_cons_succ, i64_w, i32_w]
                        rfl
                      refine take_ (i := 4) (N := some 117) (v := ?_) (a' := ?_) #[true, true, true, true, true, false, false, false, false, false, false, false, false, false] rfl rfl (by kernel_rfl) (fun _ _ _ h => h) (Or.inl ⟨by rfl, ?_⟩) hHeld ?_ ?_
                      rotate_left
                      · rintro w' ⟨s0, s1, s2⟩
                        go_simp
                        with_reducible rfl
                      rotate_left
                      · simp only [Act.put, List.setIfInBounds_toArray, List.set_cons_zero, List.set_cons_succ, i64_w, i32_w]
                        rfl
                      refine pure_ (i := 6) (N := some 119) (v := ?_) (a' := ?_) #[true, true, true, true, true, false, true, false, false, false, false, false, false, false] rfl rfl (by kernel_rfl) (fun _ _ _ h => h) (Or.inl ⟨by rfl, ?_⟩) ?_ ?_
                      rotate_left
                      · intro w'
                        go_simp
                        with_reducible rfl
                      rotate_left
                      · simp only [Act.put, List.setIfInBounds_toArray, List.set_cons_zero, List.set_cons_succ, i64_w, i32_w]
                        rfl
                      refine pure_ (i := 7) (N := some 120) (v := ?_) (a' := ?_) #[true, true, true, true, true, false, true, true, false, false, false, false, false, false] rfl rfl (by kernel_rfl) (fun _ _ _ h => h) (Or.inl ⟨by rfl, ?_⟩) ?_ ?_
                      rotate_left
                      · intro w'
                        go_simp
                        with_reducible rfl
                      rotate_left
                      · simp only [Act.put, List.setIfInBounds_toArray, List.set_cons_zero, List.set_cons_succ, i64_w, i32_w]
                        rfl
                      refine take_ (i := 8) (N := some 121) (v := ?_) (a' := ?_) #[true, true, true, true, true, false, true, true, true, false, false, false, false, false] rfl rfl (by kernel_rfl) (fun _ _ _ h => h) (Or.inl ⟨by rfl, ?_⟩) hHeld ?_ ?_
                      rotate_left
                      · rintro w' ⟨s0, s1, s2⟩
                        go_simp
                        with_reducible rfl
                      rotate_left
                      · simp only [Act.put, List.setIfInBounds_toArray, List.set_cons_zero, List.set_cons_succ, i64_w, i32_w]
                        rfl
                      refine one_ (i := 5) (N := some 118) #[true, true, true, true, true, true, true, true, true, false, false, false, false, false] rfl rfl (by kernel_rfl) (by decide) (fun K hK => ?_)
                      refine sd.callv (.tmp 115) #[.pointer (some ⟨gi, 0, none⟩), .pointer (some ⟨go, 0, none⟩)] Try.func36 (by kernel_rfl) rfl #[.int .i64 x.f1, .pointer (some ⟨gi, 0, none⟩), .pointer (some ⟨go, 0, none⟩)] (by rfl) rfl rfl (by first | rfl | (go_simp; done)) (by first | rfl | (go_simp; done)) ?_
                      refine (HCA.out).mono ?_
                      rintro e w12 ⟨rfl, rfl⟩
                      refine ⟨_, rfl, ?_⟩
                      refine hK.out _ _ hHeld (fun hHeldn => ?_)
                      clear hK K hHeld
                      refine norm_ (a' := ?_) ?_ ?_
                      rotate_left
                      · show Act.put _ (some 118) _ = _
                        simp only [Act.put, List.setIfInBounds_toArray, List.set_cons_zero, List.set_cons_succ, i64_w, i32_w]
                        rfl
                      refine one_ (i := 9) (N := some 122) #[true, true, true, true, true, true, true, true, true, true, false, false, false, false] rfl rfl (by kernel_rfl) (by decide) (fun K hK => ?_)
                      refine sd.callv (.tmp 119) #[.pointer (some ⟨gi, 0, none⟩), .pointer (some ⟨go, 0, none⟩)] Try.func36 (by kernel_rfl) rfl #[.int .i64 x.f2, .pointer (some ⟨gi, 0, none⟩), .pointer (some ⟨go, 0, none⟩)] (by rfl) rfl rfl (by first | rfl | (go_simp; done)) (by first | rfl | (go_simp; done)) ?_
                      refine (HCB.out).mono ?_
                      rintro e w12 ⟨rfl, rfl⟩
                      refine ⟨_, rfl, ?_⟩
                      refine hK.out _ _ hHeldn (fun hHeldnn => ?_)
                      clear hK K hHeldn
                      refine norm_ (a' := ?_) ?_ ?_
                      rotate_left
                      · show Act.put _ (some 122) _ = _
                        simp only [Act.put, List.setIfInBounds_toArray, List.set_cons_zero, List.set_cons_succ, i64_w, i32_w]
                        rfl
                      refine pure_ (i := 10) (N := some 123) (v := ?_) (a' := ?_) #[true, true, true, true, true, true, true, true, true, true, true, false, false, false] rfl rfl (by kernel_rfl) (fun _ _ _ h => h) (Or.inl ⟨by rfl, ?_⟩) ?_ ?_
                      rotate_left
                      · intro w'
                        go_simp
                        with_reducible rfl
                      rotate_left
                      · simp only [Act.put, List.setIfInBounds_toArray, List.set_cons_zero, List.set_cons_succ, i64_w, i32_w]
                        rfl
                      obtain ⟨lv, hlv⟩ : ∃ v, mx (-32768) (mn 32767 (wrap64 (va - vb))) = v := ⟨_, rfl⟩
                      rw [hlv] at HEX
                      have HLV := Aside0.mk (show impl_limit.f (wrap64 (va - vb)) = some lv from by rw [← hlv]; rfl)
                      clear hlv
                      refine one_ (i := 11) (N := some 124) #[true, true, true, true, true, true, true, true, true, true, true, true, false, false] rfl rfl (by kernel_rfl) (by decide) (fun K hK => ?_)
                      refine goes_ Try.func37 (by kernel_rfl) rfl #[.int .i64 (wrap64 (va - vb))] (by rfl) rfl rfl (by (try simp only [List.map_toArray, List.map_cons, List.map_nil]); first | done | rfl) ?_
                      refine (impl_limit.calls (wrap64 (va - vb)) lv w9 HLV.out).mono ?_
                      rintro e w12 ⟨rfl, hb⟩
                      refine ⟨_, rfl, ?_⟩
                      have KO4 := Aside0.mk (blk_below KOd.out hb)
                      have HO4 := Aside0.mk (Kd.R_below HOd.out hb)
                      have HB4 := Aside0.mk (below_step HBd.out hb)
                      have HB12 := Aside0.mk hb
                      clear hb
                      refine hK.out _ _ ⟨(blk_cell KO4.out 0).trans rfl, (HB12.out.cell (World.block_lt_of_cell? w9 _ hHeldnn.2.1)).trans hHeldnn.2.1, (HB12.out.cell (World.block_lt_of_cell? w9 _ hHeldnn.2.2)).trans hHeldnn.2.2⟩ (fun hHeldnnn => ?_)
                      clear hK K hHeldnn
                      refine norm_ (a' := ?_) ?_ ?_
                      rotate_left
                      · show Act.put _ (some 124) _ = _
                        simp only [Act.put, List.setIfInBounds_toArray, List.set_cons_zero, List.set_cons_succ, i64_w, i32_w]
                        rfl
                      refine pure_ (i := 12) (N := some 125) (v := ?_) (a' := ?_) #[true, true, true, true, true, true, true, true, true, true, true, true, true, false] rfl rfl (by kernel_rfl) (fun _ _ _ h => h) (Or.inl ⟨by rfl, ?_⟩) ?_ ?_
                      rotate_left
                      · intro w'
                        go_simp
                        with_reducible rfl
                      rotate_left
                      · simp only [Act.put, List.setIfInBounds_toArray, List.set_cons_zero, List.set_cons_succ, i64_w, i32_w]
                        rfl
                      refine last_ (i := 13) (N := none) #[true, true, true, true, true, true, true, true, true, true, true, true, true, true] rfl rfl (by kernel_rfl) (by decide) (fun K hK => ?_)
                      obtain ⟨hcl, hfr⟩ := Kd.R_celln (0 : Int) HO4.out (i : Int) (by omega) (by omega)
                      have hput := Kd.R_putg HO4.out (i : Int) (lv)
                      simp only [Int.toNat_natCast] at hcl hfr hput
                      have HP := Aside0.mk hput.1
                      have HPG := Aside0.mk hput.2
                      clear hput
                      refine skip_ (w1 := ?_) (by rfl) rfl ?_ ?_
                      rotate_left
                      · go_simp
                        rfl
                      refine hK.out _ _ ?_
                      clear hK K
                      refine done_ (by kernel_rfl) ?_
                      have KO5 := Aside0.mk (blk_grown KO4.out HPG.out (Kd.R_ne HO4.out KO4.out (by decide)))
                      try go_wp2
                      go_roundg m
                      case measure => omega
                      case rel => exact ⟨kk + 1, _, (by rw [show wrap64 ((kk : Int) + 1) = ((kk + 1 : Nat) : Int) from by have := H12.out; have := HI.out; have := HOL.out; unfold wrap64; omega]), ⟨by have := HI.out; omega⟩, HRUN, ⟨by rw [sd.ex_len]; exact HOLEN.out⟩, KO5, ⟨by rw [HEX.out]; exact HP.out⟩, ⟨below_set HB4.out GR.out⟩⟩
                    have k2b : (x.f0 == 2) = false := beq_eq_false_iff_ne.mpr k2
                    by_cases k3 : x.f0 = 3
                    · have k3b : (x.f0 == 3) = true := by rw [k3]; rfl
                      have hB2 := HAL.out.2 (by omega)
                      obtain ⟨va, hva⟩ : ∃ v, sd.val o l2 x.f1 = v := ⟨_, rfl⟩
                      obtain ⟨vb, hvb⟩ : ∃ v, sd.val o l2 x.f2 = v := ⟨_, rfl⟩
                      have HEX := Aside0.mk (show sd.ex x l2 o i = o.set i (mn va vb) from by unfold sd.ex; rw [if_neg k1, if_neg k2, if_pos k3, hva, hvb])
                      have HVA := Aside0.mk hva
                      have HVB := Aside0.mk hvb
                      have HB2 := Aside0.mk hB2
                      clear hva hvb hB2 k1 k2 k3
                      go_wp2
                      refine start_ (n := 13) (S := fun w' => w'.cell? ⟨go, 0, none⟩ = some (.slice (some ⟨gr, 0, none⟩) l0.length cr) ∧ w'.cell? ⟨gx, 1, none⟩ = some (.int .i64 x.f1) ∧ w'.cell? ⟨gx, 2, none⟩ = some (.int .i64 x.f2)) (ds := [12]) #[false, false, false, false, false, false, false, false, false, false, false, false, false] (by kernel_rfl) rfl rfl ⟨hko, hy1, hy2⟩ (fun hHeld => ?_)
                      have KOd := Aside0.mk (blk_drew KO1.out)
                      have HOd := Aside0.mk (Kd.R_drew HO1.out)
                      have HBd := Aside0.mk (below_drew1 HBW1.out)
                      clear hko hy0 hy1 hy2 KO1 HO1 HBW1
                      generalize W1.drew = w9 at KOd HOd HBd hHeld ⊢
                      have HCO := Aside0.mk (show Kd.C (Kd.int .i64) w9 (some ⟨gr, 0, none⟩) l0.length o from by have h_ := Kd.R_reads' HOd.out; rw [h_.1]; exact h_.2.2)
                      have HCA := Aside0.mk (impl_StepDiagram.value gi go A2 (some ⟨gr, 0, none⟩) c2 cr l0.length l2 o x.f1 w9 (blk_below KI6.out HBd.out) KOd.out (Kd.C_below HR2.out HBd.out) HCO.out HAL.out.1.1 HAL.out.1.2 HIN6.out)
                      have HCB := Aside0.mk (impl_StepDiagram.value gi go A2 (some ⟨gr, 0, none⟩) c2 cr l0.length l2 o x.f2 w9 (blk_below KI6.out HBd.out) KOd.out (Kd.C_below HR2.out HBd.out) HCO.out HB2.out.1 HB2.out.2 HIN6.out)
                      rw [HVA.out] at HCA
                      rw [HVB.out] at HCB
                      refine take_ (i := 0) (N := some 128) (v := ?_) (a' := ?_) #[true, false, false, false, false, false, false, false, false, false, false, false, false] rfl rfl (by kernel_rfl) (fun _ _ _ h => h) (Or.inl ⟨by rfl, ?_⟩) hHeld ?_ ?_
                      rotate_left
                      · rintro w' ⟨s0, s1, s2⟩
                        go_simp
                        with_reducible rfl
                      rotate_left
                      · simp only [Act.put, List.setIfInBounds_toArray, List.set_cons_zero, List.set_cons_succ, i64_w, i32_w]
                        rfl
                      refine pure_ (i := 1) (N := some 129) (v := ?_) (a' := ?_) #[true, true, false, false, false, false, false, false, false, false, false, false, false] rfl rfl (by kernel_rfl) (fun _ _ _ h => h) (Or.inl ⟨by rfl, ?_⟩) ?_ ?_
                      rotate_left
                      · intro w'
                        go_simp
                        with_reducible rfl
                      rotate_left
                      · simp only [Act.put, List.setIfInBounds_toArray, List.set_cons_zero, List.set_cons_succ, i64_w, i32_w]
                        rfl
                      refine pure_ (i := 2) (N := some 130) (v := ?_) (a' := ?_) #[true, true, true, false, false, false, false, false, false, false, false, false, false] rfl rfl (by kernel_rfl) (fun _ _ _ h => h) (Or.inl ⟨by rfl, ?_⟩) ?_ ?_
                      rotate_left
                      · intro w'
                        go_simp
                        with_reducible rfl
                      rotate_left
                      · simp only [Act.put, List.setIfInBounds_toArray, List.set_cons_zero, List.set_cons_succ, i64_w, i32_w]
                        rfl
                      refine pure_ (i := 3) (N := some 131) (v := ?_) (a' := ?_) #[true, true, true, true, false, false, false, false, false, false, false, false, false] rfl rfl (by kernel_rfl) (fun _ _ _ h => h) (Or.inl ⟨by rfl, ?_⟩) ?_ ?_
                      rotate_left
                      · intro w'
                        go_simp
                        with_reducible rfl
                      rotate_left
                      · simp only [Act.put, List.setIfInBounds_toArray, List.set_cons_zero, List.set_cons_succ, i64_w, i32_w]
                        rfl
                      refine take_ (i := 4) (N := some 132) (v := ?_) (a' := ?_) #[true, true, true, true, true, false, false, false, false, false, false, false, false] rfl rfl (by kernel_rfl) (fun _ _ _ h => h) (Or.inl ⟨by rfl, ?_⟩) hHeld ?_ ?_
                      rotate_left
                      · rintro w' ⟨s0, s1, s2⟩
                        go_simp
                        with_reducible rfl
                      rotate_left
                      · simp only [Act.put, List.setIfInBounds_toArray, List.set_cons_zero, List.set_cons_succ, i64_w, i32_w]
                        rfl
                      refine pure_ (i := 6) (N := some 134) (v := ?_) (a' := ?_) #[true, true, true, true, true, false, true, false, false, false, false, false, false] rfl rfl (by kernel_rfl) (fun _ _ _ h => h) (Or.inl ⟨by rfl, ?_⟩) ?_ ?_
                      rotate_left
                      · intro w'
                        go_simp
                        with_reducible rfl
                      rotate_left
                      · simp only [Act.put, List.setIfInBounds_toArray, List.set_cons_zero, List.set_cons_succ, i64_w, i32_w]
                        rfl
                      refine pure_ (i := 7) (N := some 135) (v := ?_) (a' := ?_) #[true, true, true, true, true, false, true, true, false, false, false, false, false] rfl rfl (by kernel_rfl) (fun _ _ _ h => h) (Or.inl ⟨by rfl, ?_⟩) ?_ ?_
                      rotate_left
                      · intro w'
                        go_simp
                        with_reducible rfl
                      rotate_left
                      · simp only [Act.put, List.setIfInBounds_toArray, List.set_cons_zero, List.set_cons_succ, i64_w, i32_w]
                        rfl
                      refine take_ (i := 8) (N := some 136) (v := ?_) (a' := ?_) #[true, true, true, true, true, false, true, true, true, false, false, false, false] rfl rfl (by kernel_rfl) (fun _ _ _ h => h) (Or.inl ⟨by rfl, ?_⟩) hHeld ?_ ?_
                      rotate_left
                      · rintro w' ⟨s0, s1, s2⟩
                        go_simp
                        with_reducible rfl
                      rotate_left
                      · simp only [Act.put, List.setIfInBounds_toArray, List.set_cons_zero, List.set_cons_succ, i64_w, i32_w]
                        rfl
                      refine one_ (i := 5) (N := some 133) #[true, true, true, true, true, true, true, true, true, false, false, false, false] rfl rfl (by kernel_rfl) (by decide) (fun K hK => ?_)
                      refine sd.callv (.tmp 130) #[.pointer (some ⟨gi, 0, none⟩), .pointer (some ⟨go, 0, none⟩)] Try.func36 (by kernel_rfl) rfl #[.int .i64 x.f1, .pointer (some ⟨gi, 0, none⟩), .pointer (some ⟨go, 0, none⟩)] (by rfl) rfl rfl (by first | rfl | (go_simp; done)) (by first | rfl | (go_simp; done)) ?_
                      refine (HCA.out).mono ?_
                      rintro e w12 ⟨rfl, rfl⟩
                      refine ⟨_, rfl, ?_⟩
                      refine hK.out _ _ hHeld (fun hHeldn => ?_)
                      clear hK K hHeld
                      refine norm_ (a' := ?_) ?_ ?_
                      rotate_left
                      · show Act.put _ (some 133) _ = _
                        simp only [Act.put, List.setIfInBounds_toArray, List.set_cons_zero, List.set_cons_succ, i64_w, i32_w]
                        rfl
                      refine one_ (i := 9) (N := some 137) #[true, true, true, true, true, true, true, true, true, true, false, false, false] rfl rfl (by kernel_rfl) (by decide) (fun K hK => ?_)
                      refine sd.callv (.tmp 134) #[.pointer (some ⟨gi, 0, none⟩), .pointer (some ⟨go, 0, none⟩)] Try.func36 (by kernel_rfl) rfl #[.int .i64 x.f2, .pointer (some ⟨gi, 0, none⟩), .pointer (some ⟨go, 0, none⟩)] (by rfl) rfl rfl (by first | rfl | (go_simp; done)) (by first | rfl | (go_simp; done)) ?_
                      refine (HCB.out).mono ?_
                      rintro e w12 ⟨rfl, rfl⟩
                      refine ⟨_, rfl, ?_⟩
                      refine hK.out _ _ hHeldn (fun hHeldnn => ?_)
                      clear hK K hHeldn
                      refine norm_ (a' := ?_) ?_ ?_
                      rotate_left
                      · show Act.put _ (some 137) _ = _
                        simp only [Act.put, List.setIfInBounds_toArray, List.set_cons_zero, List.set_cons_succ, i64_w, i32_w]
                        rfl
                      refine pure_ (i := 10) (N := some 138) (v := ?_) (a' := ?_) #[true, true, true, true, true, true, true, true, true, true, true, false, false] rfl rfl (by kernel_rfl) (fun _ _ _ h => h) (Or.inl ⟨by rfl, ?_⟩) ?_ ?_
                      rotate_left
                      · intro w'
                        go_simp
                        with_reducible rfl
                      rotate_left
                      · simp only [Act.put, List.setIfInBounds_toArray, List.set_cons_zero, List.set_cons_succ, i64_w, i32_w]
                        rfl
                      have HEX2 := Aside0.mk (show sd.ex x l2 o i = o.set i (if vb < va then vb else va) from HEX.out)
                      clear HEX
                      generalize hmv : (if vb < va then vb else va) = mv at HEX2 ⊢
                      have HEX := HEX2
                      clear HEX2 hmv
                      refine pure_ (i := 11) (N := some 139) (v := ?_) (a' := ?_) #[true, true, true, true, true, true, true, true, true, true, true, true, false] rfl rfl (by kernel_rfl) (fun _ _ _ h => h) (Or.inl ⟨by rfl, ?_⟩) ?_ ?_
                      rotate_left
                      · intro w'
                        go_simp
                        with_reducible rfl
                      rotate_left
                      · simp only [Act.put, List.setIfInBounds_toArray, List.set_cons_zero, List.set_cons_succ, i64_w, i32_w]
                        rfl
                      refine last_ (i := 12) (N := none) #[true, true, true, true, true, true, true, true, true, true, true, true, true] rfl rfl (by kernel_rfl) (by decide) (fun K hK => ?_)
                      obtain ⟨hcl, hfr⟩ := Kd.R_celln (0 : Int) HOd.out (i : Int) (by omega) (by omega)
                      have hput := Kd.R_putg HOd.out (i : Int) (mv)
                      simp only [Int.toNat_natCast] at hcl hfr hput
                      have HP := Aside0.mk hput.1
                      have HPG := Aside0.mk hput.2
                      clear hput
                      refine skip_ (w1 := ?_) (by rfl) rfl ?_ ?_
                      rotate_left
                      · go_simp
                        rfl
                      refine hK.out _ _ ?_
                      clear hK K
                      refine done_ (by kernel_rfl) ?_
                      have KO5 := Aside0.mk (blk_grown KOd.out HPG.out (Kd.R_ne HOd.out KOd.out (by decide)))
                      try go_wp2
                      go_roundg m
                      case measure => omega
                      case rel => exact ⟨kk + 1, _, (by rw [show wrap64 ((kk : Int) + 1) = ((kk + 1 : Nat) : Int) from by have := H12.out; have := HI.out; have := HOL.out; unfold wrap64; omega]), ⟨by have := HI.out; omega⟩, HRUN, ⟨by rw [sd.ex_len]; exact HOLEN.out⟩, KO5, ⟨by rw [HEX.out]; exact HP.out⟩, ⟨below_set HBd.out GR.out⟩⟩
                    have k3b : (x.f0 == 3) = false := beq_eq_false_iff_ne.mpr k3
                    by_cases k4 : x.f0 = 4
                    · have k4b : (x.f0 == 4) = true := by rw [k4]; rfl
                      have hB2 := HAL.out.2 (by omega)
                      obtain ⟨va, hva⟩ : ∃ v, sd.val o l2 x.f1 = v := ⟨_, rfl⟩
                      obtain ⟨vb, hvb⟩ : ∃ v, sd.val o l2 x.f2 = v := ⟨_, rfl⟩
                      have HEX := Aside0.mk (show sd.ex x l2 o i = o.set i (mx va vb) from by unfold sd.ex; rw [if_neg k1, if_neg k2, if_neg k3, if_pos k4, hva, hvb])
                      have HVA := Aside0.mk hva
                      have HVB := Aside0.mk hvb
                      have HB2 := Aside0.mk hB2
                      clear hva hvb hB2 k1 k2 k3 k4
                      go_wp2
                      refine start_ (n := 13) (S := fun w' => w'.cell? ⟨go, 0, none⟩ = some (.slice (some ⟨gr, 0, none⟩) l0.length cr) ∧ w'.cell? ⟨gx, 1, none⟩ = some (.int .i64 x.f1) ∧ w'.cell? ⟨gx, 2, none⟩ = some (.int .i64 x.f2)) (ds := [12]) #[false, false, false, false, false, false, false, false, false, false, false, false, false] (by kernel_rfl) rfl rfl ⟨hko, hy1, hy2⟩ (fun hHeld => ?_)
                      have KOd := Aside0.mk (blk_drew KO1.out)
                      have HOd := Aside0.mk (Kd.R_drew HO1.out)
                      have HBd := Aside0.mk (below_drew1 HBW1.out)
                      clear hko hy0 hy1 hy2 KO1 HO1 HBW1
                      generalize W1.drew = w9 at KOd HOd HBd hHeld ⊢
                      have HCO := Aside0.mk (show Kd.C (Kd.int .i64) w9 (some ⟨gr, 0, none⟩) l0.length o from by have h_ := Kd.R_reads' HOd.out; rw [h_.1]; exact h_.2.2)
                      have HCA := Aside0.mk (impl_StepDiagram.value gi go A2 (some ⟨gr, 0, none⟩) c2 cr l0.length l2 o x.f1 w9 (blk_below KI6.out HBd.out) KOd.out (Kd.C_below HR2.out HBd.out) HCO.out HAL.out.1.1 HAL.out.1.2 HIN6.out)
                      have HCB := Aside0.mk (impl_StepDiagram.value gi go A2 (some ⟨gr, 0, none⟩) c2 cr l0.length l2 o x.f2 w9 (blk_below KI6.out HBd.out) KOd.out (Kd.C_below HR2.out HBd.out) HCO.out HB2.out.1 HB2.out.2 HIN6.out)
                      rw [HVA.out] at HCA
                      rw [HVB.out] at HCB
                      refine take_ (i := 0) (N := some 142) (v := ?_) (a' := ?_) #[true, false, false, false, false, false, false, false, false, false, false, false, false] rfl rfl (by kernel_rfl) (fun _ _ _ h => h) (Or.inl ⟨by rfl, ?_⟩) hHeld ?_ ?_
                      rotate_left
                      · rintro w' ⟨s0, s1, s2⟩
                        go_simp
                        with_reducible rfl
                      rotate_left
                      · simp only [Act.put, List.setIfInBounds_toArray, List.set_cons_zero, List.set_cons_succ, i64_w, i32_w]
                        rfl
                      refine pure_ (i := 1) (N := some 143) (v := ?_) (a' := ?_) #[true, true, false, false, false, false, false, false, false, false, false, false, false] rfl rfl (by kernel_rfl) (fun _ _ _ h => h) (Or.inl ⟨by rfl, ?_⟩) ?_ ?_
                      rotate_left
                      · intro w'
                        go_simp
                        with_reducible rfl
                      rotate_left
                      · simp only [Act.put, List.setIfInBounds_toArray, List.set_cons_zero, List.set_cons_succ, i64_w, i32_w]
                        rfl
                      refine pure_ (i := 2) (N := some 144) (v := ?_) (a' := ?_) #[true, true, true, false, false, false, false, false, false, false, false, false, false] rfl rfl (by kernel_rfl) (fun _ _ _ h => h) (Or.inl ⟨by rfl, ?_⟩) ?_ ?_
                      rotate_left
                      · intro w'
                        go_simp
                        with_reducible rfl
                      rotate_left
                      · simp only [Act.put, List.setIfInBounds_toArray, List.set_cons_zero, List.set_cons_succ, i64_w, i32_w]
                        rfl
                      refine pure_ (i := 3) (N := some 145) (v := ?_) (a' := ?_) #[true, true, true, true, false, false, false, false, false, false, false, false, false] rfl rfl (by kernel_rfl) (fun _ _ _ h => h) (Or.inl ⟨by rfl, ?_⟩) ?_ ?_
                      rotate_left
                      · intro w'
                        go_simp
                        with_reducible rfl
                      rotate_left
                      · simp only [Act.put, List.setIfInBounds_toArray, List.set_cons_zero, List.set_cons_succ, i64_w, i32_w]
                        rfl
                      refine take_ (i := 4) (N := some 146) (v := ?_) (a' := ?_) #[true, true, true, true, true, false, false, false, false, false, false, false, false] rfl rfl (by kernel_rfl) (fun _ _ _ h => h) (Or.inl ⟨by rfl, ?_⟩) hHeld ?_ ?_
                      rotate_left
                      · rintro w' ⟨s0, s1, s2⟩
                        go_simp
                        with_reducible rfl
                      rotate_left
                      · simp only [Act.put, List.setIfInBounds_toArray, List.set_cons_zero, List.set_cons_succ, i64_w, i32_w]
                        rfl
                      refine pure_ (i := 6) (N := some 148) (v := ?_) (a' := ?_) #[true, true, true, true, true, false, true, false, false, false, false, false, false] rfl rfl (by kernel_rfl) (fun _ _ _ h => h) (Or.inl ⟨by rfl, ?_⟩) ?_ ?_
                      rotate_left
                      · intro w'
                        go_simp
                        with_reducible rfl
                      rotate_left
                      · simp only [Act.put, List.setIfInBounds_toArray, List.set_cons_zero, List.set_cons_succ, i64_w, i32_w]
                        rfl
                      refine pure_ (i := 7) (N := some 149) (v := ?_) (a' := ?_) #[true, true, true, true, true, false, true, true, false, false, false, false, false] rfl rfl (by kernel_rfl) (fun _ _ _ h => h) (Or.inl ⟨by rfl, ?_⟩) ?_ ?_
                      rotate_left
                      · intro w'
                        go_simp
                        with_reducible rfl
                      rotate_left
                      · simp only [Act.put, List.setIfInBounds_toArray, List.set_cons_zero, List.set_cons_succ, i64_w, i32_w]
                        rfl
                      refine take_ (i := 8) (N := some 150) (v := ?_) (a' := ?_) #[true, true, true, true, true, false, true, true, true, false, false, false, false] rfl rfl (by kernel_rfl) (fun _ _ _ h => h) (Or.inl ⟨by rfl, ?_⟩) hHeld ?_ ?_
                      rotate_left
                      · rintro w' ⟨s0, s1, s2⟩
                        go_simp
                        with_reducible rfl
                      rotate_left
                      · simp only [Act.put, List.setIfInBounds_toArray, List.set_cons_zero, List.set_cons_succ, i64_w, i32_w]
                        rfl
                      refine one_ (i := 5) (N := some 147) #[true, true, true, true, true, true, true, true, true, false, false, false, false] rfl rfl (by kernel_rfl) (by decide) (fun K hK => ?_)
                      refine sd.callv (.tmp 144) #[.pointer (some ⟨gi, 0, none⟩), .pointer (some ⟨go, 0, none⟩)] Try.func36 (by kernel_rfl) rfl #[.int .i64 x.f1, .pointer (some ⟨gi, 0, none⟩), .pointer (some ⟨go, 0, none⟩)] (by rfl) rfl rfl (by first | rfl | (go_simp; done)) (by first | rfl | (go_simp; done)) ?_
                      refine (HCA.out).mono ?_
                      rintro e w12 ⟨rfl, rfl⟩
                      refine ⟨_, rfl, ?_⟩
                      refine hK.out _ _ hHeld (fun hHeldn => ?_)
                      clear hK K hHeld
                      refine norm_ (a' := ?_) ?_ ?_
                      rotate_left
                      · show Act.put _ (some 147) _ = _
                        simp only [Act.put, List.setIfInBounds_toArray, List.set_cons_zero, List.set_cons_succ, i64_w, i32_w]
                        rfl
                      refine one_ (i := 9) (N := some 151) #[true, true, true, true, true, true, true, true, true, true, false, false, false] rfl rfl (by kernel_rfl) (by decide) (fun K hK => ?_)
                      refine sd.callv (.tmp 148) #[.pointer (some ⟨gi, 0, none⟩), .pointer (some ⟨go, 0, none⟩)] Try.func36 (by kernel_rfl) rfl #[.int .i64 x.f2, .pointer (some ⟨gi, 0, none⟩), .pointer (some ⟨go, 0, none⟩)] (by rfl) rfl rfl (by first | rfl | (go_simp; done)) (by first | rfl | (go_simp; done)) ?_
                      refine (HCB.out).mono ?_
                      rintro e w12 ⟨rfl, rfl⟩
                      refine ⟨_, rfl, ?_⟩
                      refine hK.out _ _ hHeldn (fun hHeldnn => ?_)
                      clear hK K hHeldn
                      refine norm_ (a' := ?_) ?_ ?_
                      rotate_left
                      · show Act.put _ (some 151) _ = _
                        simp only [Act.put, List.setIfInBounds_toArray, List.set_cons_zero, List.set_cons_succ, i64_w, i32_w]
                        rfl
                      refine pure_ (i := 10) (N := some 152) (v := ?_) (a' := ?_) #[true, true, true, true, true, true, true, true, true, true, true, false, false] rfl rfl (by kernel_rfl) (fun _ _ _ h => h) (Or.inl ⟨by rfl, ?_⟩) ?_ ?_
                      rotate_left
                      · intro w'
                        go_simp
                        with_reducible rfl
                      rotate_left
                      · simp only [Act.put, List.setIfInBounds_toArray, List.set_cons_zero, List.set_cons_succ, i64_w, i32_w]
                        rfl
                      have HEX2 := Aside0.mk (show sd.ex x l2 o i = o.set i (if va < vb then vb else va) from HEX.out)
                      clear HEX
                      generalize hmv : (if va < vb then vb else va) = mv at HEX2 ⊢
                      have HEX := HEX2
                      clear HEX2 hmv
                      refine pure_ (i := 11) (N := some 153) (v := ?_) (a' := ?_) #[true, true, true, true, true, true, true, true, true, true, true, true, false] rfl rfl (by kernel_rfl) (fun _ _ _ h => h) (Or.inl ⟨by rfl, ?_⟩) ?_ ?_
                      rotate_left
                      · intro w'
                        go_simp
                        with_reducible rfl
                      rotate_left
                      · simp only [Act.put, List.setIfInBounds_toArray, List.set_cons_zero, List.set_cons_succ, i64_w, i32_w]
                        rfl
                      refine last_ (i := 12) (N := none) #[true, true, true, true, true, true, true, true, true, true, true, true, true] rfl rfl (by kernel_rfl) (by decide) (fun K hK => ?_)
                      obtain ⟨hcl, hfr⟩ := Kd.R_celln (0 : Int) HOd.out (i : Int) (by omega) (by omega)
                      have hput := Kd.R_putg HOd.out (i : Int) (mv)
                      simp only [Int.toNat_natCast] at hcl hfr hput
                      have HP := Aside0.mk hput.1
                      have HPG := Aside0.mk hput.2
                      clear hput
                      refine skip_ (w1 := ?_) (by rfl) rfl ?_ ?_
                      rotate_left
                      · go_simp
                        rfl
                      refine hK.out _ _ ?_
                      clear hK K
                      refine done_ (by kernel_rfl) ?_
                      have KO5 := Aside0.mk (blk_grown KOd.out HPG.out (Kd.R_ne HOd.out KOd.out (by decide)))
                      try go_wp2
                      go_roundg m
                      case measure => omega
                      case rel => exact ⟨kk + 1, _, (by rw [show wrap64 ((kk : Int) + 1) = ((kk + 1 : Nat) : Int) from by have := H12.out; have := HI.out; have := HOL.out; unfold wrap64; omega]), ⟨by have := HI.out; omega⟩, HRUN, ⟨by rw [sd.ex_len]; exact HOLEN.out⟩, KO5, ⟨by rw [HEX.out]; exact HP.out⟩, ⟨below_set HBd.out GR.out⟩⟩
                    have k4b : (x.f0 == 4) = false := beq_eq_false_iff_ne.mpr k4
                    have HEX := Aside0.mk (show sd.ex x l2 o i = o from by unfold sd.ex; rw [if_neg k1, if_neg k2, if_neg k3, if_neg k4])
                    clear k1 k2 k3 k4 hko hy1 hy2
                    go_wp2
                    go_roundg m
                    case measure => omega
                    case rel => exact ⟨kk + 1, _, (by rw [show wrap64 ((kk : Int) + 1) = ((kk + 1 : Nat) : Int) from by have := H12.out; have := HI.out; have := HOL.out; unfold wrap64; omega]), ⟨by have := HI.out; omega⟩, HRUN, ⟨by rw [sd.ex_len]; exact HOLEN.out⟩, KO1, ⟨by rw [HEX.out]; exact HO1.out⟩, HBW1⟩
                  | zero =>
                    have hi : kk = od.length := HI.out
                    subst hi
                    clear HI
                    have hltz3 : ¬ ((od.length : Int) < (od.length : Int)) := by omega
                    have hro := HRUN0.out
                    rw [List.drop_length] at hro
                    have hro2 : o = r1 := hro
                    subst hro2
                    clear hro HRUN0
                    rename World => wb
                    go_wp2
                    go_loopg [20, 157] l0.length (fun gg v20 v157 wr => ∃ i : Nat, v157 = .int .i64 (i : Int) ∧ Aside0 (i + gg = l0.length) ∧ Aside0 (Kd.R (Kd.int .i64) 3 wr wb.heap.size (fun _ => True) v20 (sd.next l0 l2 o i)) ∧ Aside0 (Below wb.heap.size wb wr))
                    case atStart => exact ⟨0, rfl, ⟨by omega⟩, ⟨Kd.R_nil _ _ _ _ _⟩, ⟨Below.refl _ _⟩⟩
                    case round =>
                      obtain ⟨i, rfl, HI, HN, HBN⟩ := hrel
                      obtain ⟨An, cn, en⟩ := Kd.R_slice HN.out
                      subst en
                      have KON := Aside0.mk (blk_below KO.out HBN.out)
                      have HON := Aside0.mk (Kd.R_below HO.out HBN.out)
                      have HBW2 := HBW
                      have HBW := Aside0.mk (below_step HBW2.out HBN.out)
                      cases gk with
                      | succ m =>
                        have hlt : i < l0.length := by have := HI.out; omega
                        have hltz2 : (i : Int) < (l0.length : Int) := by omega
                        have hi0 : (0 : Int) ≤ (i : Int) := by omega
                        obtain ⟨ad, e1, hx0, hx1, hx2⟩ := at_T52 HR0.out (i : Int) (by omega) (by omega)
                        simp only [Int.toNat_natCast] at hx0 hx1 hx2
                        subst e1
                        replace hx0 := (HBW.out.cell (World.block_lt_of_cell? w6 _ hx0)).trans hx0
                        replace hx1 := (HBW.out.cell (World.block_lt_of_cell? w6 _ hx1)).trans hx1
                        replace hx2 := (HBW.out.cell (World.block_lt_of_cell? w6 _ hx2)).trans hx2
                        have hrd : rd_T52 l0 (i : Int) = l0[i] := by unfold rd_T52; rw [Int.toNat_natCast, List.getD_eq_getElem?_getD, List.getElem?_eq_getElem hlt]; rfl
                        have hnx := sd.next_succ l0 l2 o i
                        rw [hrd] at hx0 hx1 hx2 hnx
                        have hall := HALL.out i hlt
                        clear hrd
                        generalize l0[i] = x at hx0 hx1 hx2 hnx hall
                        have HNX := Aside0.mk hnx
                        have HAL := Aside0.mk hall.1
                        have HNL := Aside0.mk (sd.next_len l0 l2 o i)
                        clear hall hnx
                        go_upto_region 39 with (first | ((with_reducible refine gate_dst (N := 22) rfl ?_); refine box_event ?b22g (N := 22) ?b22d (cs := #[.int .i64 0, .int .i64 0, .int .i64 0]) (t := 52) ?b22r ?_; (case b22d => rfl); (case b22g => rfl); (case b22r => first | (go_simp; done) | (go_simp; rfl)); intro gx hg w5 hbox hb; have BX := Aside0.mk hbox; have HBx := Aside0.mk hb; have GX := Aside0.mk (show wr.heap.size ≤ gx from by rw [hg]; exact Nat.le_refl _); clear hb hbox hg; have hcz0 : w5.cell? ⟨gx, 0, none⟩ = some (.int .i64 0) := (blk_cell BX.out 0).trans rfl; have hcz1 : w5.cell? ⟨gx, 1, none⟩ = some (.int .i64 0) := (blk_cell BX.out 1).trans rfl; have hcz2 : w5.cell? ⟨gx, 2, none⟩ = some (.int .i64 0) := (blk_cell BX.out 2).trans rfl; have hfz0 := blk_frozen BX.out 0; have hfz1 := blk_frozen BX.out 1; have hfz2 := blk_frozen BX.out 2))
                        clear hcz0 hcz1 hcz2 hfz0 hfz1 hfz2 hx0 hx1 hx2
                        have BX3 := Aside0.mk (blk_put (cs' := #[.int .i64 x.f0, .int .i64 x.f1, .int .i64 x.f2]) (blk_put (cs' := #[.int .i64 x.f0, .int .i64 x.f1, .int .i64 0]) (blk_put (cs' := #[.int .i64 x.f0, .int .i64 0, .int .i64 0]) BX.out 0 (.int .i64 x.f0) rfl) 1 (.int .i64 x.f1) rfl) 2 (.int .i64 x.f2) rfl)
                        have HB3 := Aside0.mk (below_set (j := 2) (v := .int .i64 x.f2) (below_set (j := 1) (v := .int .i64 x.f1) (below_set (j := 0) (v := .int .i64 x.f0) HBx.out GX.out) GX.out) GX.out)
                        clear BX HBx GX
                        generalize ((w5.setCell ⟨gx, 0, none⟩ (.int .i64 x.f0)).setCell ⟨gx, 1, none⟩ (.int .i64 x.f1)).setCell ⟨gx, 2, none⟩ (.int .i64 x.f2) = W1 at BX3 HB3 ⊢
                        have hy0 : W1.cell? ⟨gx, 0, none⟩ = some (.int .i64 x.f0) := (blk_cell BX3.out 0).trans rfl
                        have hy1 : W1.cell? ⟨gx, 1, none⟩ = some (.int .i64 x.f1) := (blk_cell BX3.out 1).trans rfl
                        have HBN1 := Aside0.mk (below_step HBN.out HB3.out)
                        have HN1 := Aside0.mk (Kd.R_below HN.out HB3.out)
                        have KO1 := Aside0.mk (blk_below KON.out HB3.out)
                        have HO1 := Aside0.mk (Kd.R_below HON.out HB3.out)
                        have HBW1 := Aside0.mk (below_step HBW.out HB3.out)
                        clear BX3 HB3
                        by_cases k5 : x.f0 = 5
                        · have k5b : (x.f0 == 5) = true := by rw [k5]; rfl
                          have HD := Aside0.mk (show sd.isD x = true from k5b)
                          have HCO := Aside0.mk (show Kd.C (Kd.int .i64) W1 Ar l0.length o from by have h_ := Kd.R_reads' HO1.out; rw [h_.1]; exact h_.2.2)
                          have HCA := Aside0.mk (impl_StepDiagram.value gi go A2 Ar c2 cr l0.length l2 o x.f1 W1 (blk_below KI6.out HBW1.out) KO1.out (Kd.C_below HR2.out HBW1.out) HCO.out HAL.out.1 HAL.out.2 HIN6.out)
                          obtain ⟨va, hva⟩ : ∃ v, sd.val o l2 x.f1 = v := ⟨_, rfl⟩
                          rw [hva] at HCA
                          have HVA := Aside0.mk hva
                          clear hva k5
                          go_wp2_with (first | (go_at_call 36; (with_reducible refine (HCA.out).mono ?_); rintro e w' ⟨rfl, rfl⟩) | ((with_reducible refine gate_builtin (b := .append) (xs := #[.tmp 164, .tmp 169]) rfl ?_); at_builtin; refine Kd.R_append (Kd.int .i64) (w0 := wb) wb.heap.size rfl (.tmp 164) (.tmp 169) 22 3 (.int .i64 0) 8 rfl Try.underlying22 info3 rfl (by decide) (by omega) _ (sd.next l0 l2 o i) va [.int .i64 va] (fun _ => True) (fun _ => False) rfl ?aX ?aP (fun _ hk => hk.elim) ?aF ?aO ?aB ?aS ?aL ?_; (case aX => first | rfl | (go_simp; done) | (go_simp; rfl)); (case aP => exact rfl); (case aB => exact HBN1.out); (case aF => exact (fun _ _ => trivial)); (case aO => exact HN1.out); (case aS => exact (below_size HBN1.out)); (case aL => have := HNL.out; have := HI.out; have := H12.out; omega); intro v170 w25 ho hb hg hat; have HB4 := Aside0.mk hb; have HN4 := Aside0.mk ho; clear ho hb hg hat))
                          go_roundg m
                          case measure => omega
                          case rel => exact ⟨i + 1, (by first | rw [show wrap64 ((i : Int) + 1) = ((i + 1 : Nat) : Int) from by have := H12.out; have := HI.out; unfold wrap64; omega] | go_num), ⟨by have := HI.out; omega⟩, ⟨by rw [HNX.out, HD.out, HVA.out]; exact HN4.out⟩, HB4⟩
                        · have k5b : (x.f0 == 5) = false := beq_eq_false_iff_ne.mpr k5
                          have HD := Aside0.mk (show sd.isD x = false from k5b)
                          clear k5
                          go_wp2
                          go_roundg m
                          case measure => omega
                          case rel => exact ⟨i + 1, (by first | rw [show wrap64 ((i : Int) + 1) = ((i + 1 : Nat) : Int) from by have := H12.out; have := HI.out; unfold wrap64; omega] | go_num), ⟨by have := HI.out; omega⟩, ⟨by rw [HNX.out, HD.out]; exact HN1.out⟩, HBN1⟩
                      | zero =>
                        have hi : i = l0.length := HI.out
                        subst hi
                        have hlen := sd.next_len l0 l2 o l0.length
                        have hf2 := HF2.out
                        clear HF2
                        generalize sd.next l0 l2 o l0.length = nx at HN hlen hf2 ⊢
                        have HNL := Aside0.mk (show nx.length ≤ 12 from by have h12_ := H12.out; omega)
                        clear hlen HI
                        subst hf2
                        have hko : wr.cell? ⟨go, 0, none⟩ = some (.slice Ar l0.length cr) := (blk_cell KON.out 0).trans rfl
                        go_wp2
                        refine start_ (n := 5) (S := fun w' => w'.cell? ⟨go, 0, none⟩ = some (.slice Ar l0.length cr) ∧ True) (ds := []) #[false, false, false, false, false] (by kernel_rfl) rfl rfl ⟨hko, trivial⟩ (fun hHeld => ?_)
                        have HOd := Aside0.mk (Kd.R_drew HON.out)
                        have HNd := Aside0.mk (Kd.R_drew HN.out)
                        have HBd := Aside0.mk (below_step HB6.out (below_drew1 HBW.out))
                        have KOd := Aside0.mk (blk_drew KON.out)
                        clear hko
                        generalize wr.drew = w9 at HOd HNd HBd KOd hHeld ⊢
                        refine take_ (i := 0) (N := some 172) (v := ?_) (a' := ?_) #[true, false, false, false, false] rfl rfl (by kernel_rfl) (fun _ _ _ h => h) (Or.inl ⟨by rfl, ?_⟩) hHeld ?_ ?_
                        rotate_left
                        · rintro w' ⟨s0, _⟩
                          go_simp
                          with_reducible rfl
                        rotate_left
                        · simp only [Act.put, List.setIfInBounds_toArray, List.set_cons_zero, List.set_cons_succ, i64_w, i32_w]
                          rfl
                        refine pure_ (i := 1) (N := some 173) (v := ?_) (a' := ?_) #[true, true, false, false, false] rfl rfl (by kernel_rfl) (fun _ _ _ h => h) (Or.inl ⟨by rfl, ?_⟩) ?_ ?_
                        rotate_left
                        · intro w'
                          go_simp
                          with_reducible rfl
                        rotate_left
                        · simp only [Act.put, List.setIfInBounds_toArray, List.set_cons_zero, List.set_cons_succ, i64_w, i32_w]
                          rfl
                        refine one_ (i := 2) (N := some 174) #[true, true, true, false, false] rfl rfl (by kernel_rfl) (by decide) (fun K hK => ?_)
                        refine goes_ Try.func38 (by kernel_rfl) rfl #[.slice An nx.length cn] (by rfl) rfl rfl (by (try simp only [List.map_toArray, List.map_cons, List.map_nil]); first | done | rfl) ?_
                        refine (impl_clone_int.calls An cn nx nx w9 (Kd.R_reads' HNd.out).2.2 (Kd.R_reads' HNd.out).2.1 (by have := HNL.out; unfold impl_clone_int.f slices_Clone_int_int.f slices_Clip_int_int.f; rw [if_pos (by omega)]; rfl)).mono ?_
                        rintro e w12 ⟨v9, rfl, hq, hb⟩
                        refine ⟨_, rfl, ?_⟩
                        have HQ := Aside0.mk hq
                        have HB12 := Aside0.mk hb
                        clear hq hb
                        refine hK.out _ _ ⟨(blk_cell (blk_below KOd.out HB12.out) 0).trans rfl, trivial⟩ (fun hHeldn => ?_)
                        clear hK K hHeld
                        refine norm_ (a' := ?_) ?_ ?_
                        rotate_left
                        · show Act.put _ (some 174) _ = _
                          simp only [Act.put, List.setIfInBounds_toArray, List.set_cons_zero, List.set_cons_succ, i64_w, i32_w]
                          rfl
                        refine pure_ (i := 3) (N := some 6) (v := ?_) (a' := ?_) #[true, true, true, true, false] rfl rfl (by kernel_rfl) (fun _ _ _ h => h) (Or.inl ⟨by rfl, ?_⟩) ?_ ?_
                        rotate_left
                        · intro w'
                          go_simp
                          with_reducible rfl
                        rotate_left
                        · simp only [Act.put, List.setIfInBounds_toArray, List.set_cons_zero, List.set_cons_succ, i64_w, i32_w]
                          rfl
                        refine pure_ (i := 4) (N := some 7) (v := ?_) (a' := ?_) #[true, true, true, true, true] rfl rfl (by kernel_rfl) (fun _ _ _ h => h) (Or.inl ⟨by rfl, ?_⟩) ?_ ?_
                        rotate_left
                        · intro w'
                          go_simp
                          with_reducible rfl
                        rotate_left
                        · simp only [Act.put, List.setIfInBounds_toArray, List.set_cons_zero, List.set_cons_succ, i64_w, i32_w]
                          rfl
                        refine done_ (by kernel_rfl) ?_
                        try go_wp2
                        go_ret2
                        exact ⟨_, _, rfl, Kd.R_mono (Kd.R_lower (Kd.R_below (Kd.R_bound HOd.out) HB12.out) (below_size HB6.out)) (fun k_ hk he => by have := Kd.Q_base HQ.out k_ he.symm; have := hk.2.2.1; omega), Kd.Q_mono (Kd.Q_lower (Kd.Q_new' HQ.out (Kd.R_lt HOd.out)) (below_size HBd.out)) (fun _ hk => hk.2), below_step HBd.out HB12.out⟩


end Go.Proofs.Ytpefkclpnkefnaa.GFnExactRunDiagram

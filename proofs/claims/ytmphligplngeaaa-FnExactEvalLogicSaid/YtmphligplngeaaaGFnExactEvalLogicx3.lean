/- Functions of the program as Lean functions, with proofs that the machine comes to their answers; written by this session's program mkprint.py; no condition beyond each theorem's own. -/
import Derived.Test.YtmphligplngeaaaGFnExactEvalLogicx0
namespace Go.Proofs.Ytmphligplngeaaa.GFnExactEvalLogic
open Go.RowKit Go.Proofs.YtmphligplngeaaaV.PrintWords Go.Proofs.YtmphligplngeaaaV.PrintLast Go.Proofs.YtmphligplngeaaaV.PrintMore
attribute [local go_sem] max2_int min2_int max_two min_two max_three min_three max_four min_four   -- for this text's walks alone
set_option linter.unusedVariables false
set_option linter.unusedSimpArgs false

/-! ### spec_l2Eval: function 54 -/
/-- One element on the stack of an expression's values. -/
def evl.step (bits : List Bool) (st : List Bool) (x : S69) : Option (List Bool) :=
  if x.f0 = 1 then (if 0 ≤ x.f1 ∧ x.f1 < (bits.length : Int) then some (st ++ [rdOf false bits x.f1]) else none)
  else if x.f0 = 2 then (if 1 ≤ st.length then some (st.take (st.length - 1) ++ [!(rdOf false st ((st.length - 1 : Nat) : Int))]) else none)
  else if x.f0 = 3 then (if 2 ≤ st.length then some (st.take (st.length - 2) ++ [rdOf false st ((st.length - 2 : Nat) : Int) && rdOf false st ((st.length - 1 : Nat) : Int)]) else none)
  else if x.f0 = 4 then (if 2 ≤ st.length then some (st.take (st.length - 2) ++ [rdOf false st ((st.length - 2 : Nat) : Int) || rdOf false st ((st.length - 1 : Nat) : Int)]) else none)
  else if x.f0 = 5 then (if 2 ≤ st.length then some (st.take (st.length - 2) ++ [rdOf false st ((st.length - 2 : Nat) : Int) != rdOf false st ((st.length - 1 : Nat) : Int)]) else none)
  else some (st ++ [x.f0 == 6])
def evl.run (bits : List Bool) : List S69 → List Bool → Option (List Bool)
  | [], st => some st
  | x :: r, st => (evl.step bits st x).bind (evl.run bits r)
def evl.val (bits : List Bool) (l : List S69) : Option Bool := if l.length ≤ 1000000 then (evl.run bits l []).bind fun st => if 0 < st.length then some (rdOf false st 0) else none else none
theorem evl.step_len {bits st : List Bool} {x : S69} {s : List Bool} (h : evl.step bits st x = some s) : s.length ≤ st.length + 1 := by
  unfold evl.step at h
  repeat' split at h
  all_goals first | (cases h; done) | (obtain rfl := Option.some.inj h; simp) | (obtain rfl := Option.some.inj h; simp; omega)
theorem evl.put_last {st : List Bool} (h : 1 ≤ st.length) (b : Bool) : st.take (st.length - 1) ++ [b] = st.set (st.length - 1) b := by
  have e : st.length - 1 + 1 = st.length := by omega
  rw [List.set_eq_take_append_cons_drop, if_pos (by omega), e, List.drop_length]
def spec_l2Eval.f (l0 : List S69) (l1 : List Bool) : Option Bool := evl.val l1 l0
set_option maxHeartbeats 8000000 in
set_option maxRecDepth 100000 in
theorem spec_l2Eval.calls (A0 : Option Addr) (c0 : Nat) (l0 : List S69) (A1 : Option Addr) (c1 : Nat) (l1 : List Bool) (r : Bool) (w : World) (hr0 : Kd.C k69 w A0 l0.length l0) (hc0 : l0.length ≤ c0) (hr1 : Kd.C Kd.bool w A1 l1.length l1) (hc1 : l1.length ≤ c1) (h : spec_l2Eval.f l0 l1 = some r) :
    Calls Try.prog 54 #[.slice A0 l0.length c0, .slice A1 l1.length c1] w fun e w' => e = .returned (.bool r) ∧ Below w.heap.size w w' := by
  have hu75 := Try.underlying69
  unfold spec_l2Eval.f evl.val at h
  by_cases hb : l0.length ≤ 1000000
  · rw [if_pos hb] at h
    obtain ⟨sf, hrun, hfin⟩ := Option.bind_eq_some_iff.mp h
    have HR0 := Aside0.mk hr0
    have HR1 := Aside0.mk hr1
    have HX := Aside0.mk hrun
    have HF := Aside0.mk hfin
    have HL := Aside0.mk hb
    have HB0 := Aside0.mk (Below.refl w.heap.size w)
    clear h hr0 hr1 hc0 hc1 hrun hfin hb
    go_enter Try.func54, Try.ntmps54
    go_wp2_with (first | ((with_reducible refine gate_dst (N := 8) rfl ?_); refine Kd.R_lit Kd.bool _ 4 ?hg (N := 8) ?hd (xs := ([] : List Bool)) (inner := []) (ok := fun _ => True) (okp := fun _ => True) ?hr ?hp (fun _ hk => hk) trivial (Below.refl _ _) (Nat.le_refl _) (by simp) ?_; (case hd => rfl); (case hg => rfl); (case hr => first | (go_simp; done) | (go_simp; rfl)); (case hp => exact (Reps.none _ _)); intro v150 w23 ho24 hb hg_ hnew_; clear hg_ hnew_; have HO0 := Aside0.mk (Kd.R_lower ho24 (Nat.le_refl _)); have HB1 := Aside0.mk hb; clear ho24 hb))
    go_loopg [5, 6] l0.length (fun gg v5 v6 wr => ∃ (st : List Bool) (i : Nat), v6 = .int .i64 (i : Int) ∧ Aside0 (evl.run l1 (l0.drop i) st = some sf) ∧ Aside0 (i + gg = l0.length) ∧ Aside0 (st.length ≤ i) ∧ Aside0 (Kd.R Kd.bool 4 wr w.heap.size (fun _ => True) v5 st) ∧ Aside0 (Below w.heap.size w wr))
    case atStart => exact ⟨[], 0, rfl, HX, ⟨by omega⟩, ⟨Nat.le_refl _⟩, HO0, HB1⟩
    case round =>
      obtain ⟨st, i, rfl, HA, HN, HS, HO, HB⟩ := hrel
      obtain ⟨A, c, e5⟩ := Kd.R_slice HO.out
      subst e5
      cases gk with
      | zero =>
        have hi : i = l0.length := HN.out
        subst hi
        have hst : st = sf := by
          have := HA.out
          rw [List.drop_length] at this
          exact Option.some.inj this
        subst hst
        have hF := HF.out
        by_cases hp : 0 < st.length
        · rw [if_pos hp] at hF
          have hrr := Option.some.inj hF
          obtain ⟨_, _, hcc⟩ := Kd.R_reads' HO.out
          obtain ⟨ad, e1, hx⟩ := Kd.at_bool hcc 0 (by omega) (by omega)
          subst e1
          have hltz : ¬ ((l0.length : Int) < (l0.length : Int)) := by omega
          have hpz : (0 : Int) < (st.length : Int) := by omega
          rw [hrr, show ad.add (Int.toNat 0) = ad by simp [Addr.add]] at hx
          have HX2 := Aside0.mk hcc
          clear hcc hF hp hrr
          go_wp2
          go_ret
          exact ⟨rfl, by repeat (first | (with_reducible first | exact HB.out | apply below_alloc | apply pw_below_drewN | apply below_drew1) | exact HB.out)⟩
        · rw [if_neg hp] at hF
          exact absurd hF (by simp)
      | succ m =>
        have hlt : i < l0.length := by have := HN.out; omega
        have hltz : (i : Int) < (l0.length : Int) := by omega
        have hdr : l0.drop i = l0[i] :: l0.drop (i + 1) := List.drop_eq_getElem_cons hlt
        have hA := HA.out
        rw [hdr] at hA
        obtain ⟨s2, hs, hA⟩ := Option.bind_eq_some_iff.mp hA
        have HS2 := Aside0.mk (evl.step_len hs)
        have HA2 := Aside0.mk hA
        obtain ⟨ad, e1, hx0, hx1⟩ := at_T69 HR0.out (i : Int) (by omega) (by omega)
        have hrd : rd_T69 l0 (i : Int) = l0[i] := by unfold rd_T69; rw [Int.toNat_natCast, List.getD_eq_getElem?_getD, List.getElem?_eq_getElem hlt]; rfl
        rw [hrd] at hx0 hx1
        simp only [Int.toNat_natCast] at hx0 hx1
        subst e1
        replace hx0 := (HB.out.cell (World.block_lt_of_cell? w _ hx0)).trans hx0
        replace hx1 := (HB.out.cell (World.block_lt_of_cell? w _ hx1)).trans hx1
        generalize l0[i] = x at hs hx0 hx1
        clear hdr hA HA hrd
        unfold evl.step at hs
        by_cases k1 : x.f0 = 1
        · rw [if_pos k1] at hs
          by_cases kb : 0 ≤ x.f1 ∧ x.f1 < (l1.length : Int)
          · rw [if_pos kb] at hs
            obtain rfl := Option.some.inj hs
            obtain ⟨adb, e2, hxb⟩ := Kd.at_bool HR1.out x.f1 kb.1 kb.2
            subst e2
            replace hxb := (HB.out.cell (World.block_lt_of_cell? w _ hxb)).trans hxb
            generalize hv : rdOf false l1 x.f1 = v at hxb
            rw [hv] at HA2 HS2
            have kb1 := kb.1
            have kb2 := kb.2
            have k1b : (x.f0 == 1) = true := beq_iff_eq.mpr k1
            clear hs hv kb
            go_wp2_with (first | ((with_reducible refine gate_builtin (b := .append) (xs := #[.tmp 33, .tmp 42]) rfl ?_); at_builtin; refine Kd.R_append Kd.bool (w0 := w) w.heap.size rfl (.tmp 33) (.tmp 42) 42 4 (.bool false) 1 rfl Try.underlying42 info4 rfl (by decide) (by omega) _ st v [.bool v] (fun _ => True) (fun _ => False) rfl rfl ?aP (fun _ hk => hk.elim) ?aF ?aO ?aB ?aS ?aL ?_; (case aP => exact rfl); (case aB => exact (by repeat (first | (with_reducible first | exact HB.out | apply below_alloc | apply pw_below_drewN | apply below_drew1) | exact HB.out))); (case aF => exact (fun _ _ => trivial)); (case aO => exact (by (with_reducible repeat (first | apply Kd.R_alloc | apply Kd.R_drewN | apply Kd.R_drew)); exact HO.out)); (case aS => exact (below_size (by repeat (first | (with_reducible first | exact HB.out | apply below_alloc | apply pw_below_drewN | apply below_drew1) | exact HB.out)))); (case aL => have := HS.out; have := HN.out; have := HL.out; omega); intro v153 w25 ho hb hg hat; have HB2 := Aside0.mk hb; have HO2 := Aside0.mk ho; clear ho hb hg hat))
            go_roundg m
            case measure => omega
            case rel => exact ⟨_, i + 1, (by first | rw [show wrap64 ((i : Int) + 1) = ((i + 1 : Nat) : Int) from by have := HL.out; have := HN.out; unfold wrap64; omega] | go_num), HA2, ⟨by have := HN.out; omega⟩, ⟨by have := HS.out; have := HS2.out; omega⟩, ⟨by (with_reducible repeat (first | apply Kd.R_alloc | apply Kd.R_drewN | apply Kd.R_drew)); exact HO2.out⟩, ⟨by repeat (first | (with_reducible first | exact HB2.out | apply below_alloc | apply pw_below_drewN | apply below_drew1) | exact HB2.out)⟩⟩
          · rw [if_neg kb] at hs
            exact absurd hs (by simp)
        · rw [if_neg k1] at hs
          have k1b : (x.f0 == 1) = false := beq_eq_false_iff_ne.mpr k1
          by_cases k2 : x.f0 = 2
          · rw [if_pos k2] at hs
            have k2b : (x.f0 == 2) = true := beq_iff_eq.mpr k2
            by_cases kb : 1 ≤ st.length
            · rw [if_pos kb] at hs
              obtain rfl := Option.some.inj hs
              obtain ⟨g, cap, e5, hgb, hgl, hgc⟩ := Kd.R_form HO.out (by omega)
              injection e5 with ea en ec
              subst ea ec
              clear en hgc
              obtain ⟨hcl, hfr⟩ := Kd.R_celln false HO.out ((st.length - 1 : Nat) : Int) (by omega) (by omega)
              have hput := Kd.R_putg HO.out ((st.length - 1 : Nat) : Int) (!(rdOf false st ((st.length - 1 : Nat) : Int)))
              simp only [Int.toNat_natCast] at hcl hfr hput
              rw [evl.put_last kb] at HA2 HS2
              generalize hv : rdOf false st ((st.length - 1 : Nat) : Int) = v at hcl HA2 HS2 hput
              have HP := Aside0.mk hput
              have HG := Aside0.mk hgb
              have w1 : wrap64 ((st.length : Int) - 1) = ((st.length - 1 : Nat) : Int) := by have := HS.out; have := HL.out; unfold wrap64; omega
              have q1 : ((st.length - 1 : Nat) : Int) < (st.length : Int) := by omega
              clear hput hgb hs hv kb
              go_wp2
              go_roundg m
              case measure => omega
              case rel => exact ⟨_, i + 1, (by first | rw [show wrap64 ((i : Int) + 1) = ((i + 1 : Nat) : Int) from by have := HL.out; have := HN.out; unfold wrap64; omega] | go_num), HA2, ⟨by have := HN.out; omega⟩, ⟨by have := HS.out; have := HS2.out; omega⟩, ⟨HP.out.1⟩, ⟨below_set HB.out HG.out⟩⟩
            · rw [if_neg kb] at hs
              exact absurd hs (by simp)
          · rw [if_neg k2] at hs
            have k2b : (x.f0 == 2) = false := beq_eq_false_iff_ne.mpr k2
            by_cases k3 : x.f0 = 3
            · rw [if_pos k3] at hs
              have k3b : (x.f0 == 3) = true := beq_iff_eq.mpr k3
              by_cases kb : 2 ≤ st.length
              · rw [if_pos kb] at hs
                obtain rfl := Option.some.inj hs
                obtain ⟨g, cap, e5, hgb, hgl, hgc⟩ := Kd.R_form HO.out (by omega)
                injection e5 with ea en ec
                subst ea ec
                clear en hgc hgb
                have hcap := (Kd.R_reads' HO.out).2.1
                obtain ⟨hu1, hfu⟩ := Kd.R_celln false HO.out ((st.length - 2 : Nat) : Int) (by omega) (by omega)
                obtain ⟨hv1, hfv⟩ := Kd.R_celln false HO.out ((st.length - 1 : Nat) : Int) (by omega) (by omega)
                simp only [Int.toNat_natCast] at hu1 hv1
                clear hfu hfv
                generalize hu : rdOf false st ((st.length - 2 : Nat) : Int) = u at hu1 HA2 HS2
                generalize hv : rdOf false st ((st.length - 1 : Nat) : Int) = v at hv1 HA2 HS2
                have HT := Aside0.mk (Kd.R_take HO.out (show st.length - 2 ≤ st.length by omega))
                have w2 : IntKind.i64.wrap ((st.length : Int) - 2) = ((st.length - 2 : Nat) : Int) := by have := HS.out; have := HL.out; rw [i64_w]; unfold wrap64; omega
                have w1 : IntKind.i64.wrap ((st.length : Int) - 1) = ((st.length - 1 : Nat) : Int) := by have := HS.out; have := HL.out; rw [i64_w]; unfold wrap64; omega
                have b1 : (0 : Int) ≤ ((st.length - 2 : Nat) : Int) := by omega
                have b2 : ((st.length - 2 : Nat) : Int) < (st.length : Int) := by omega
                have b3 : (0 : Int) ≤ ((st.length - 1 : Nat) : Int) := by omega
                have b4 : ((st.length - 1 : Nat) : Int) < (st.length : Int) := by omega
                have b5 : ((st.length - 2 : Nat) : Int) ≤ (c : Int) := by omega
                have HK := Aside0.mk kb
                clear hs hu hv kb hcap
                cases u with
                | false =>
                  simp only [Bool.false_and] at HA2 HS2
                  go_wp2
                  refine start_ (n := 19) (S := fun w' => w'.cell? ⟨g, st.length - 2, none⟩ = some (.bool false) ∧ w'.cell? ⟨g, st.length - 1, none⟩ = some (.bool v)) (ds := [17]) #[false, false, false, false, false, false, false, false, false, false, false, false, false, false, false, false, false, false, false] (by kernel_rfl) rfl rfl ⟨hu1, hv1⟩ (fun hHeld => ?_)
                  have HTd := Aside0.mk (Kd.R_drew HT.out)
                  have HBd := Aside0.mk (below_drew1 HB.out)
                  have HGd := Aside0.mk (show g < wr.drew.heap.size from hgl)
                  clear hu1 hv1
                  generalize wr.drew = w9 at HTd HBd HGd hHeld ⊢
                  refine pure_ (i := 0) (N := some 58) (v := ?_) (a' := ?_) #[true, false, false, false, false, false, false, false, false, false, false, false, false, false, false, false, false, false, false] rfl rfl (by kernel_rfl) (fun _ _ _ h => h) (Or.inl ⟨by rfl, ?_⟩) ?_ ?_
                  rotate_left
                  · intro w'
                    go_simp
                    with_reducible rfl
                  rotate_left
                  · simp only [Act.put, List.setIfInBounds_toArray, List.set_cons_zero, List.set_cons_succ, i64_w, i32_w]
                    rfl
                  refine pure_ (i := 1) (N := some 59) (v := ?_) (a' := ?_) #[true, true, false, false, false, false, false, false, false, false, false, false, false, false, false, false, false, false, false] rfl rfl (by kernel_rfl) (fun _ _ _ h => h) (Or.inl ⟨by rfl, ?_⟩) ?_ ?_
                  rotate_left
                  · intro w'
                    go_simp
                    with_reducible rfl
                  rotate_left
                  · simp only [Act.put, List.setIfInBounds_toArray, List.set_cons_zero, List.set_cons_succ, i64_w, i32_w]
                    rfl
                  refine pure_ (i := 2) (N := some 60) (v := ?_) (a' := ?_) #[true, true, true, false, false, false, false, false, false, false, false, false, false, false, false, false, false, false, false] rfl rfl (by kernel_rfl) (fun _ _ _ h => h) (Or.inl ⟨by rfl, ?_⟩) ?_ ?_
                  rotate_left
                  · intro w'
                    go_simp
                    with_reducible rfl
                  rotate_left
                  · simp only [Act.put, List.setIfInBounds_toArray, List.set_cons_zero, List.set_cons_succ, i64_w, i32_w]
                    rfl
                  refine pure_ (i := 4) (N := some 62) (v := ?_) (a' := ?_) #[true, true, true, false, true, false, false, false, false, false, false, false, false, false, false, false, false, false, false] rfl rfl (by kernel_rfl) (fun _ _ _ h => h) (Or.inl ⟨by rfl, ?_⟩) ?_ ?_
                  rotate_left
                  · intro w'
                    go_simp
                    with_reducible rfl
                  rotate_left
                  · simp only [Act.put, List.setIfInBounds_toArray, List.set_cons_zero, List.set_cons_succ, i64_w, i32_w]
                    rfl
                  refine pure_ (i := 5) (N := some 63) (v := ?_) (a' := ?_) #[true, true, true, false, true, true, false, false, false, false, false, false, false, false, false, false, false, false, false] rfl rfl (by kernel_rfl) (fun _ _ _ h => h) (Or.inl ⟨by rfl, ?_⟩) ?_ ?_
                  rotate_left
                  · intro w'
                    go_simp
                    with_reducible rfl
                  rotate_left
                  · simp only [Act.put, List.setIfInBounds_toArray, List.set_cons_zero, List.set_cons_succ, i64_w, i32_w]
                    rfl
                  refine pure_ (i := 6) (N := some 64) (v := ?_) (a' := ?_) #[true, true, true, false, true, true, true, false, false, false, false, false, false, false, false, false, false, false, false] rfl rfl (by kernel_rfl) (fun _ _ _ h => h) (Or.inl ⟨by rfl, ?_⟩) ?_ ?_
                  rotate_left
                  · intro w'
                    go_simp
                    with_reducible rfl
                  rotate_left
                  · simp only [Act.put, List.setIfInBounds_toArray, List.set_cons_zero, List.set_cons_succ, i64_w, i32_w]
                    rfl
                  refine pure_ (i := 3) (N := some 61) (v := ?_) (a' := ?_) #[true, true, true, true, true, true, true, false, false, false, false, false, false, false, false, false, false, false, false] rfl rfl (by kernel_rfl) (fun _ _ _ h => h) (Or.inl ⟨by rfl, ?_⟩) ?_ ?_
                  rotate_left
                  · intro w'
                    go_simp
                    with_reducible rfl
                  rotate_left
                  · simp only [Act.put, List.setIfInBounds_toArray, List.set_cons_zero, List.set_cons_succ, i64_w, i32_w]
                    rfl
                  refine pure_ (i := 7) (N := some 65) (v := ?_) (a' := ?_) #[true, true, true, true, true, true, true, true, false, false, false, false, false, false, false, false, false, false, false] rfl rfl (by kernel_rfl) (fun _ _ _ h => h) (Or.inl ⟨by rfl, ?_⟩) ?_ ?_
                  rotate_left
                  · intro w'
                    go_simp
                    with_reducible rfl
                  rotate_left
                  · simp only [Act.put, List.setIfInBounds_toArray, List.set_cons_zero, List.set_cons_succ, i64_w, i32_w]
                    rfl
                  refine take_ (i := 8) (N := some 66) (v := ?_) (a' := ?_) #[true, true, true, true, true, true, true, true, true, false, false, false, false, false, false, false, false, false, false] rfl rfl (by kernel_rfl) (fun _ _ _ h => h) (Or.inl ⟨by rfl, ?_⟩) hHeld ?_ ?_
                  rotate_left
                  · rintro w' ⟨s0, s1⟩
                    go_simp
                    with_reducible rfl
                  rotate_left
                  · simp only [Act.put, List.setIfInBounds_toArray, List.set_cons_zero, List.set_cons_succ, i64_w, i32_w]
                    rfl
                  refine pure_ (i := 9) (N := some 67) (v := ?_) (a' := ?_) #[true, true, true, true, true, true, true, true, true, true, false, false, false, false, false, false, false, false, false] rfl rfl (by kernel_rfl) (fun _ _ _ h => h) (Or.inl ⟨by rfl, ?_⟩) ?_ ?_
                  rotate_left
                  · intro w'
                    go_simp
                    with_reducible rfl
                  rotate_left
                  · simp only [Act.put, List.setIfInBounds_toArray, List.set_cons_zero, List.set_cons_succ, i64_w, i32_w]
                    rfl
                  refine pure_ (i := 10) (N := some 68) (v := undef) (a' := ?_) #[true, true, true, true, true, true, true, true, true, true, true, false, false, false, false, false, false, false, false] rfl rfl (by kernel_rfl) (fun _ _ _ h => h) (Or.inr ⟨by rfl, rfl⟩) ?_ ?_
                  rotate_left
                  · simp only [Act.put, List.setIfInBounds_toArray, List.set_cons_zero, List.set_cons_succ, i64_w, i32_w]
                    rfl
                  refine pure_ (i := 11) (N := some 69) (v := undef) (a' := ?_) #[true, true, true, true, true, true, true, true, true, true, true, true, false, false, false, false, false, false, false] rfl rfl (by kernel_rfl) (fun _ _ _ h => h) (Or.inr ⟨by rfl, rfl⟩) ?_ ?_
                  rotate_left
                  · simp only [Act.put, List.setIfInBounds_toArray, List.set_cons_zero, List.set_cons_succ, i64_w, i32_w]
                    rfl
                  refine pure_ (i := 12) (N := some 70) (v := undef) (a' := ?_) #[true, true, true, true, true, true, true, true, true, true, true, true, true, false, false, false, false, false, false] rfl rfl (by kernel_rfl) (fun _ _ _ h => h) (Or.inr ⟨by rfl, rfl⟩) ?_ ?_
                  rotate_left
                  · simp only [Act.put, List.setIfInBounds_toArray, List.set_cons_zero, List.set_cons_succ, i64_w, i32_w]
                    rfl
                  refine pure_ (i := 13) (N := some 71) (v := undef) (a' := ?_) #[true, true, true, true, true, true, true, true, true, true, true, true, true, true, false, false, false, false, false] rfl rfl (by kernel_rfl) (fun _ _ _ h => h) (Or.inr ⟨by rfl, rfl⟩) ?_ ?_
                  rotate_left
                  · simp only [Act.put, List.setIfInBounds_toArray, List.set_cons_zero, List.set_cons_succ, i64_w, i32_w]
                    rfl
                  refine pure_ (i := 14) (N := some 72) (v := undef) (a' := ?_) #[true, true, true, true, true, true, true, true, true, true, true, true, true, true, true, false, false, false, false] rfl rfl (by kernel_rfl) (fun _ _ _ h => h) (Or.inr ⟨by rfl, rfl⟩) ?_ ?_
                  rotate_left
                  · simp only [Act.put, List.setIfInBounds_toArray, List.set_cons_zero, List.set_cons_succ, i64_w, i32_w]
                    rfl
                  refine pure_ (i := 15) (N := some 73) (v := ?_) (a' := ?_) #[true, true, true, true, true, true, true, true, true, true, true, true, true, true, true, true, false, false, false] rfl rfl (by kernel_rfl) (fun _ _ _ h => h) (Or.inl ⟨by rfl, ?_⟩) ?_ ?_
                  rotate_left
                  · intro w'
                    go_simp
                    with_reducible rfl
                  rotate_left
                  · simp only [Act.put, List.setIfInBounds_toArray, List.set_cons_zero, List.set_cons_succ, i64_w, i32_w]
                    rfl
                  refine one_ (i := 16) (N := some 74) #[true, true, true, true, true, true, true, true, true, true, true, true, true, true, true, true, true, false, false] rfl rfl (by kernel_rfl) (by decide) (fun K hK => ?_)
                  refine value_ (w1 := w9.alloc (.cells #[.bool false] 4)) (v := .slice (some ⟨w9.heap.size, 0, none⟩) 1 1) (by rfl) rfl ?_ ?_
                  · first | (go_simp; done) | (go_simp; rfl)
                  refine hK.out _ _ ⟨(World.cell?_alloc_past _ _ _ HGd.out).trans hHeld.1, (World.cell?_alloc_past _ _ _ HGd.out).trans hHeld.2⟩ (fun _ => ?_)
                  clear hK K hHeld
                  refine norm_ (a' := ?_) ?_ ?_
                  rotate_left
                  · show Act.put _ (some 74) _ = _
                    simp only [Act.put, List.setIfInBounds_toArray, List.set_cons_zero, List.set_cons_succ, i64_w, i32_w]
                    rfl
                  refine last_ (i := 17) (N := some 75) #[true, true, true, true, true, true, true, true, true, true, true, true, true, true, true, true, true, true, false] rfl rfl (by kernel_rfl) (by decide) (fun K hK => ?_)
                  refine Kd.R_append_step Kd.bool (w0 := w) (W := w9) w.heap.size (by rfl) (.tmp 61) (.tmp 74) 42 4 (.bool false) 1 (by rfl) Try.underlying42 info4 rfl (by decide) (by omega) (.slice (some ⟨g, 0, none⟩) (st.length - 2) c) (st.take (st.length - 2)) false [.bool false] (fun _ => True) (fun _ => False) (by rfl) (by rfl) rfl (fun _ hk => hk.elim) (fun _ _ => trivial) HTd.out HBd.out (below_size HBd.out) (by have := HS.out; have := HN.out; have := HL.out; simp only [List.length_take]; omega) ?_
                  intro v153 w25 ho hb hg hat
                  have HB2 := Aside0.mk hb
                  have HO2 := Aside0.mk ho
                  clear ho hb hg hat
                  refine hK.out _ _ ?_
                  clear hK K
                  refine norm_ (a' := ?_) ?_ ?_
                  rotate_left
                  · show Act.put _ (some 75) _ = _
                    simp only [Act.put, List.setIfInBounds_toArray, List.set_cons_zero, List.set_cons_succ, i64_w, i32_w]
                    rfl
                  refine pure_ (i := 18) (N := some 5) (v := ?_) (a' := ?_) #[true, true, true, true, true, true, true, true, true, true, true, true, true, true, true, true, true, true, true] rfl rfl (by kernel_rfl) (fun _ _ _ h => h) (Or.inl ⟨by rfl, ?_⟩) ?_ ?_
                  rotate_left
                  · intro w'
                    go_simp
                    with_reducible rfl
                  rotate_left
                  · simp only [Act.put, List.setIfInBounds_toArray, List.set_cons_zero, List.set_cons_succ, i64_w, i32_w]
                    rfl
                  refine done_ (by kernel_rfl) ?_
                  try go_wp2
                  go_roundg m
                  case measure => omega
                  case rel => exact ⟨_, i + 1, (by first | rw [show wrap64 ((i : Int) + 1) = ((i + 1 : Nat) : Int) from by have := HL.out; have := HN.out; unfold wrap64; omega] | go_num), HA2, ⟨by have := HN.out; omega⟩, ⟨by have := HS.out; have := HS2.out; omega⟩, ⟨by (with_reducible repeat (first | apply Kd.R_alloc | apply Kd.R_drewN | apply Kd.R_drew)); exact HO2.out⟩, ⟨by repeat (first | (with_reducible first | exact HB2.out | apply below_alloc | apply pw_below_drewN | apply below_drew1) | exact HB2.out)⟩⟩
                | true =>
                  simp only [Bool.true_and] at HA2 HS2
                  go_wp2
                  refine start_ (n := 19) (S := fun w' => w'.cell? ⟨g, st.length - 2, none⟩ = some (.bool true) ∧ w'.cell? ⟨g, st.length - 1, none⟩ = some (.bool v)) (ds := [17]) #[false, false, false, false, false, false, false, false, false, false, false, false, false, false, false, false, false, false, false] (by kernel_rfl) rfl rfl ⟨hu1, hv1⟩ (fun hHeld => ?_)
                  have HTd := Aside0.mk (Kd.R_drew HT.out)
                  have HBd := Aside0.mk (below_drew1 HB.out)
                  have HGd := Aside0.mk (show g < wr.drew.heap.size from hgl)
                  clear hu1 hv1
                  generalize wr.drew = w9 at HTd HBd HGd hHeld ⊢
                  refine pure_ (i := 0) (N := some 58) (v := ?_) (a' := ?_) #[true, false, false, false, false, false, false, false, false, false, false, false, false, false, false, false, false, false, false] rfl rfl (by kernel_rfl) (fun _ _ _ h => h) (Or.inl ⟨by rfl, ?_⟩) ?_ ?_
                  rotate_left
                  · intro w'
                    go_simp
                    with_reducible rfl
                  rotate_left
                  · simp only [Act.put, List.setIfInBounds_toArray, List.set_cons_zero, List.set_cons_succ, i64_w, i32_w]
                    rfl
                  refine pure_ (i := 1) (N := some 59) (v := ?_) (a' := ?_) #[true, true, false, false, false, false, false, false, false, false, false, false, false, false, false, false, false, false, false] rfl rfl (by kernel_rfl) (fun _ _ _ h => h) (Or.inl ⟨by rfl, ?_⟩) ?_ ?_
                  rotate_left
                  · intro w'
                    go_simp
                    with_reducible rfl
                  rotate_left
                  · simp only [Act.put, List.setIfInBounds_toArray, List.set_cons_zero, List.set_cons_succ, i64_w, i32_w]
                    rfl
                  refine pure_ (i := 2) (N := some 60) (v := ?_) (a' := ?_) #[true, true, true, false, false, false, false, false, false, false, false, false, false, false, false, false, false, false, false] rfl rfl (by kernel_rfl) (fun _ _ _ h => h) (Or.inl ⟨by rfl, ?_⟩) ?_ ?_
                  rotate_left
                  · intro w'
                    go_simp
                    with_reducible rfl
                  rotate_left
                  · simp only [Act.put, List.setIfInBounds_toArray, List.set_cons_zero, List.set_cons_succ, i64_w, i32_w]
                    rfl
                  refine pure_ (i := 4) (N := some 62) (v := ?_) (a' := ?_) #[true, true, true, false, true, false, false, false, false, false, false, false, false, false, false, false, false, false, false] rfl rfl (by kernel_rfl) (fun _ _ _ h => h) (Or.inl ⟨by rfl, ?_⟩) ?_ ?_
                  rotate_left
                  · intro w'
                    go_simp
                    with_reducible rfl
                  rotate_left
                  · simp only [Act.put, List.setIfInBounds_toArray, List.set_cons_zero, List.set_cons_succ, i64_w, i32_w]
                    rfl
                  refine pure_ (i := 5) (N := some 63) (v := ?_) (a' := ?_) #[true, true, true, false, true, true, false, false, false, false, false, false, false, false, false, false, false, false, false] rfl rfl (by kernel_rfl) (fun _ _ _ h => h) (Or.inl ⟨by rfl, ?_⟩) ?_ ?_
                  rotate_left
                  · intro w'
                    go_simp
                    with_reducible rfl
                  rotate_left
                  · simp only [Act.put, List.setIfInBounds_toArray, List.set_cons_zero, List.set_cons_succ, i64_w, i32_w]
                    rfl
                  refine pure_ (i := 6) (N := some 64) (v := ?_) (a' := ?_) #[true, true, true, false, true, true, true, false, false, false, false, false, false, false, false, false, false, false, false] rfl rfl (by kernel_rfl) (fun _ _ _ h => h) (Or.inl ⟨by rfl, ?_⟩) ?_ ?_
                  rotate_left
                  · intro w'
                    go_simp
                    with_reducible rfl
                  rotate_left
                  · simp only [Act.put, List.setIfInBounds_toArray, List.set_cons_zero, List.set_cons_succ, i64_w, i32_w]
                    rfl
                  refine pure_ (i := 3) (N := some 61) (v := ?_) (a' := ?_) #[true, true, true, true, true, true, true, false, false, false, false, false, false, false, false, false, false, false, false] rfl rfl (by kernel_rfl) (fun _ _ _ h => h) (Or.inl ⟨by rfl, ?_⟩) ?_ ?_
                  rotate_left
                  · intro w'
                    go_simp
                    with_reducible rfl
                  rotate_left
                  · simp only [Act.put, List.setIfInBounds_toArray, List.set_cons_zero, List.set_cons_succ, i64_w, i32_w]
                    rfl
                  refine pure_ (i := 7) (N := some 65) (v := ?_) (a' := ?_) #[true, true, true, true, true, true, true, true, false, false, false, false, false, false, false, false, false, false, false] rfl rfl (by kernel_rfl) (fun _ _ _ h => h) (Or.inl ⟨by rfl, ?_⟩) ?_ ?_
                  rotate_left
                  · intro w'
                    go_simp
                    with_reducible rfl
                  rotate_left
                  · simp only [Act.put, List.setIfInBounds_toArray, List.set_cons_zero, List.set_cons_succ, i64_w, i32_w]
                    rfl
                  refine take_ (i := 8) (N := some 66) (v := ?_) (a' := ?_) #[true, true, true, true, true, true, true, true, true, false, false, false, false, false, false, false, false, false, false] rfl rfl (by kernel_rfl) (fun _ _ _ h => h) (Or.inl ⟨by rfl, ?_⟩) hHeld ?_ ?_
                  rotate_left
                  · rintro w' ⟨s0, s1⟩
                    go_simp
                    with_reducible rfl
                  rotate_left
                  · simp only [Act.put, List.setIfInBounds_toArray, List.set_cons_zero, List.set_cons_succ, i64_w, i32_w]
                    rfl
                  refine pure_ (i := 9) (N := some 67) (v := ?_) (a' := ?_) #[true, true, true, true, true, true, true, true, true, true, false, false, false, false, false, false, false, false, false] rfl rfl (by kernel_rfl) (fun _ _ _ h => h) (Or.inl ⟨by rfl, ?_⟩) ?_ ?_
                  rotate_left
                  · intro w'
                    go_simp
                    with_reducible rfl
                  rotate_left
                  · simp only [Act.put, List.setIfInBounds_toArray, List.set_cons_zero, List.set_cons_succ, i64_w, i32_w]
                    rfl
                  refine pure_ (i := 10) (N := some 68) (v := ?_) (a' := ?_) #[true, true, true, true, true, true, true, true, true, true, true, false, false, false, false, false, false, false, false] rfl rfl (by kernel_rfl) (fun _ _ _ h => h) (Or.inl ⟨by rfl, ?_⟩) ?_ ?_
                  rotate_left
                  · intro w'
                    go_simp
                    with_reducible rfl
                  rotate_left
                  · simp only [Act.put, List.setIfInBounds_toArray, List.set_cons_zero, List.set_cons_succ, i64_w, i32_w]
                    rfl
                  refine pure_ (i := 11) (N := some 69) (v := ?_) (a' := ?_) #[true, true, true, true, true, true, true, true, true, true, true, true, false, false, false, false, false, false, false] rfl rfl (by kernel_rfl) (fun _ _ _ h => h) (Or.inl ⟨by rfl, ?_⟩) ?_ ?_
                  rotate_left
                  · intro w'
                    go_simp
                    with_reducible rfl
                  rotate_left
                  · simp only [Act.put, List.setIfInBounds_toArray, List.set_cons_zero, List.set_cons_succ, i64_w, i32_w]
                    rfl
                  refine pure_ (i := 12) (N := some 70) (v := ?_) (a' := ?_) #[true, true, true, true, true, true, true, true, true, true, true, true, true, false, false, false, false, false, false] rfl rfl (by kernel_rfl) (fun _ _ _ h => h) (Or.inl ⟨by rfl, ?_⟩) ?_ ?_
                  rotate_left
                  · intro w'
                    go_simp
                    with_reducible rfl
                  rotate_left
                  · simp only [Act.put, List.setIfInBounds_toArray, List.set_cons_zero, List.set_cons_succ, i64_w, i32_w]
                    rfl
                  refine pure_ (i := 13) (N := some 71) (v := ?_) (a' := ?_) #[true, true, true, true, true, true, true, true, true, true, true, true, true, true, false, false, false, false, false] rfl rfl (by kernel_rfl) (fun _ _ _ h => h) (Or.inl ⟨by rfl, ?_⟩) ?_ ?_
                  rotate_left
                  · intro w'
                    go_simp
                    with_reducible rfl
                  rotate_left
                  · simp only [Act.put, List.setIfInBounds_toArray, List.set_cons_zero, List.set_cons_succ, i64_w, i32_w]
                    rfl
                  refine take_ (i := 14) (N := some 72) (v := ?_) (a' := ?_) #[true, true, true, true, true, true, true, true, true, true, true, true, true, true, true, false, false, false, false] rfl rfl (by kernel_rfl) (fun _ _ _ h => h) (Or.inl ⟨by rfl, ?_⟩) hHeld ?_ ?_
                  rotate_left
                  · rintro w' ⟨s0, s1⟩
                    go_simp
                    with_reducible rfl
                  rotate_left
                  · simp only [Act.put, List.setIfInBounds_toArray, List.set_cons_zero, List.set_cons_succ, i64_w, i32_w]
                    rfl
                  refine pure_ (i := 15) (N := some 73) (v := ?_) (a' := ?_) #[true, true, true, true, true, true, true, true, true, true, true, true, true, true, true, true, false, false, false] rfl rfl (by kernel_rfl) (fun _ _ _ h => h) (Or.inl ⟨by rfl, ?_⟩) ?_ ?_
                  rotate_left
                  · intro w'
                    go_simp
                    with_reducible rfl
                  rotate_left
                  · simp only [Act.put, List.setIfInBounds_toArray, List.set_cons_zero, List.set_cons_succ, i64_w, i32_w]
                    rfl
                  refine one_ (i := 16) (N := some 74) #[true, true, true, true, true, true, true, true, true, true, true, true, true, true, true, true, true, false, false] rfl rfl (by kernel_rfl) (by decide) (fun K hK => ?_)
                  refine value_ (w1 := w9.alloc (.cells #[.bool v] 4)) (v := .slice (some ⟨w9.heap.size, 0, none⟩) 1 1) (by rfl) rfl ?_ ?_
                  · first | (go_simp; done) | (go_simp; rfl)
                  refine hK.out _ _ ⟨(World.cell?_alloc_past _ _ _ HGd.out).trans hHeld.1, (World.cell?_alloc_past _ _ _ HGd.out).trans hHeld.2⟩ (fun _ => ?_)
                  clear hK K hHeld
                  refine norm_ (a' := ?_) ?_ ?_
                  rotate_left
                  · show Act.put _ (some 74) _ = _
                    simp only [Act.put, List.setIfInBounds_toArray, List.set_cons_zero, List.set_cons_succ, i64_w, i32_w]
                    rfl
                  refine last_ (i := 17) (N := some 75) #[true, true, true, true, true, true, true, true, true, true, true, true, true, true, true, true, true, true, false] rfl rfl (by kernel_rfl) (by decide) (fun K hK => ?_)
                  refine Kd.R_append_step Kd.bool (w0 := w) (W := w9) w.heap.size (by rfl) (.tmp 61) (.tmp 74) 42 4 (.bool false) 1 (by rfl) Try.underlying42 info4 rfl (by decide) (by omega) (.slice (some ⟨g, 0, none⟩) (st.length - 2) c) (st.take (st.length - 2)) v [.bool v] (fun _ => True) (fun _ => False) (by rfl) (by rfl) rfl (fun _ hk => hk.elim) (fun _ _ => trivial) HTd.out HBd.out (below_size HBd.out) (by have := HS.out; have := HN.out; have := HL.out; simp only [List.length_take]; omega) ?_
                  intro v153 w25 ho hb hg hat
                  have HB2 := Aside0.mk hb
                  have HO2 := Aside0.mk ho
                  clear ho hb hg hat
                  refine hK.out _ _ ?_
                  clear hK K
                  refine norm_ (a' := ?_) ?_ ?_
                  rotate_left
                  · show Act.put _ (some 75) _ = _
                    simp only [Act.put, List.setIfInBounds_toArray, List.set_cons_zero, List.set_cons_succ, i64_w, i32_w]
                    rfl
                  refine pure_ (i := 18) (N := some 5) (v := ?_) (a' := ?_) #[true, true, true, true, true, true, true, true, true, true, true, true, true, true, true, true, true, true, true] rfl rfl (by kernel_rfl) (fun _ _ _ h => h) (Or.inl ⟨by rfl, ?_⟩) ?_ ?_
                  rotate_left
                  · intro w'
                    go_simp
                    with_reducible rfl
                  rotate_left
                  · simp only [Act.put, List.setIfInBounds_toArray, List.set_cons_zero, List.set_cons_succ, i64_w, i32_w]
                    rfl
                  refine done_ (by kernel_rfl) ?_
                  try go_wp2
                  go_roundg m
                  case measure => omega
                  case rel => exact ⟨_, i + 1, (by first | rw [show wrap64 ((i : Int) + 1) = ((i + 1 : Nat) : Int) from by have := HL.out; have := HN.out; unfold wrap64; omega] | go_num), HA2, ⟨by have := HN.out; omega⟩, ⟨by have := HS.out; have := HS2.out; omega⟩, ⟨by (with_reducible repeat (first | apply Kd.R_alloc | apply Kd.R_drewN | apply Kd.R_drew)); exact HO2.out⟩, ⟨by repeat (first | (with_reducible first | exact HB2.out | apply below_alloc | apply pw_below_drewN | apply below_drew1) | exact HB2.out)⟩⟩
              · rw [if_neg kb] at hs
                exact absurd hs (by simp)
            · rw [if_neg k3] at hs
              have k3b : (x.f0 == 3) = false := beq_eq_false_iff_ne.mpr k3
              by_cases k4 : x.f0 = 4
              · rw [if_pos k4] at hs
                have k4b : (x.f0 == 4) = true := beq_iff_eq.mpr k4
                by_cases kb : 2 ≤ st.length
                · rw [if_pos kb] at hs
                  obtain rfl := Option.some.inj hs
                  obtain ⟨g, cap, e5, hgb, hgl, hgc⟩ := Kd.R_form HO.out (by omega)
                  injection e5 with ea en ec
                  subst ea ec
                  clear en hgc hgb
                  have hcap := (Kd.R_reads' HO.out).2.1
                  obtain ⟨hu1, hfu⟩ := Kd.R_celln false HO.out ((st.length - 2 : Nat) : Int) (by omega) (by omega)
                  obtain ⟨hv1, hfv⟩ := Kd.R_celln false HO.out ((st.length - 1 : Nat) : Int) (by omega) (by omega)
                  simp only [Int.toNat_natCast] at hu1 hv1
                  clear hfu hfv
                  generalize hu : rdOf false st ((st.length - 2 : Nat) : Int) = u at hu1 HA2 HS2
                  generalize hv : rdOf false st ((st.length - 1 : Nat) : Int) = v at hv1 HA2 HS2
                  have HT := Aside0.mk (Kd.R_take HO.out (show st.length - 2 ≤ st.length by omega))
                  have w2 : IntKind.i64.wrap ((st.length : Int) - 2) = ((st.length - 2 : Nat) : Int) := by have := HS.out; have := HL.out; rw [i64_w]; unfold wrap64; omega
                  have w1 : IntKind.i64.wrap ((st.length : Int) - 1) = ((st.length - 1 : Nat) : Int) := by have := HS.out; have := HL.out; rw [i64_w]; unfold wrap64; omega
                  have b1 : (0 : Int) ≤ ((st.length - 2 : Nat) : Int) := by omega
                  have b2 : ((st.length - 2 : Nat) : Int) < (st.length : Int) := by omega
                  have b3 : (0 : Int) ≤ ((st.length - 1 : Nat) : Int) := by omega
                  have b4 : ((st.length - 1 : Nat) : Int) < (st.length : Int) := by omega
                  have b5 : ((st.length - 2 : Nat) : Int) ≤ (c : Int) := by omega
                  have HK := Aside0.mk kb
                  clear hs hu hv kb hcap
                  cases u with
                  | false =>
                    simp only [Bool.false_or] at HA2 HS2
                    go_wp2
                    refine start_ (n := 19) (S := fun w' => w'.cell? ⟨g, st.length - 2, none⟩ = some (.bool false) ∧ w'.cell? ⟨g, st.length - 1, none⟩ = some (.bool v)) (ds := [17]) #[false, false, false, false, false, false, false, false, false, false, false, false, false, false, false, false, false, false, false] (by kernel_rfl) rfl rfl ⟨hu1, hv1⟩ (fun hHeld => ?_)
                    have HTd := Aside0.mk (Kd.R_drew HT.out)
                    have HBd := Aside0.mk (below_drew1 HB.out)
                    have HGd := Aside0.mk (show g < wr.drew.heap.size from hgl)
                    clear hu1 hv1
                    generalize wr.drew = w9 at HTd HBd HGd hHeld ⊢
                    refine pure_ (i := 0) (N := some 78) (v := ?_) (a' := ?_) #[true, false, false, false, false, false, false, false, false, false, false, false, false, false, false, false, false, false, false] rfl rfl (by kernel_rfl) (fun _ _ _ h => h) (Or.inl ⟨by rfl, ?_⟩) ?_ ?_
                    rotate_left
                    · intro w'
                      go_simp
                      with_reducible rfl
                    rotate_left
                    · simp only [Act.put, List.setIfInBounds_toArray, List.set_cons_zero, List.set_cons_succ, i64_w, i32_w]
                      rfl
                    refine pure_ (i := 1) (N := some 79) (v := ?_) (a' := ?_) #[true, true, false, false, false, false, false, false, false, false, false, false, false, false, false, false, false, false, false] rfl rfl (by kernel_rfl) (fun _ _ _ h => h) (Or.inl ⟨by rfl, ?_⟩) ?_ ?_
                    rotate_left
                    · intro w'
                      go_simp
                      with_reducible rfl
                    rotate_left
                    · simp only [Act.put, List.setIfInBounds_toArray, List.set_cons_zero, List.set_cons_succ, i64_w, i32_w]
                      rfl
                    refine pure_ (i := 2) (N := some 80) (v := ?_) (a' := ?_) #[true, true, true, false, false, false, false, false, false, false, false, false, false, false, false, false, false, false, false] rfl rfl (by kernel_rfl) (fun _ _ _ h => h) (Or.inl ⟨by rfl, ?_⟩) ?_ ?_
                    rotate_left
                    · intro w'
                      go_simp
                      with_reducible rfl
                    rotate_left
                    · simp only [Act.put, List.setIfInBounds_toArray, List.set_cons_zero, List.set_cons_succ, i64_w, i32_w]
                      rfl
                    refine pure_ (i := 4) (N := some 82) (v := ?_) (a' := ?_) #[true, true, true, false, true, false, false, false, false, false, false, false, false, false, false, false, false, false, false] rfl rfl (by kernel_rfl) (fun _ _ _ h => h) (Or.inl ⟨by rfl, ?_⟩) ?_ ?_
                    rotate_left
                    · intro w'
                      go_simp
                      with_reducible rfl
                    rotate_left
                    · simp only [Act.put, List.setIfInBounds_toArray, List.set_cons_zero, List.set_cons_succ, i64_w, i32_w]
                      rfl
                    refine pure_ (i := 5) (N := some 83) (v := ?_) (a' := ?_) #[true, true, true, false, true, true, false, false, false, false, false, false, false, false, false, false, false, false, false] rfl rfl (by kernel_rfl) (fun _ _ _ h => h) (Or.inl ⟨by rfl, ?_⟩) ?_ ?_
                    rotate_left
                    · intro w'
                      go_simp
                      with_reducible rfl
                    rotate_left
                    · simp only [Act.put, List.setIfInBounds_toArray, List.set_cons_zero, List.set_cons_succ, i64_w, i32_w]
                      rfl
                    refine pure_ (i := 6) (N := some 84) (v := ?_) (a' := ?_) #[true, true, true, false, true, true, true, false, false, false, false, false, false, false, false, false, false, false, false] rfl rfl (by kernel_rfl) (fun _ _ _ h => h) (Or.inl ⟨by rfl, ?_⟩) ?_ ?_
                    rotate_left
                    · intro w'
                      go_simp
                      with_reducible rfl
                    rotate_left
                    · simp only [Act.put, List.setIfInBounds_toArray, List.set_cons_zero, List.set_cons_succ, i64_w, i32_w]
                      rfl
                    refine pure_ (i := 3) (N := some 81) (v := ?_) (a' := ?_) #[true, true, true, true, true, true, true, false, false, false, false, false, false, false, false, false, false, false, false] rfl rfl (by kernel_rfl) (fun _ _ _ h => h) (Or.inl ⟨by rfl, ?_⟩) ?_ ?_
                    rotate_left
                    · intro w'
                      go_simp
                      with_reducible rfl
                    rotate_left
                    · simp only [Act.put, List.setIfInBounds_toArray, List.set_cons_zero, List.set_cons_succ, i64_w, i32_w]
                      rfl
                    refine pure_ (i := 7) (N := some 85) (v := ?_) (a' := ?_) #[true, true, true, true, true, true, true, true, false, false, false, false, false, false, false, false, false, false, false] rfl rfl (by kernel_rfl) (fun _ _ _ h => h) (Or.inl ⟨by rfl, ?_⟩) ?_ ?_
                    rotate_left
                    · intro w'
                      go_simp
                      with_reducible rfl
                    rotate_left
                    · simp only [Act.put, List.setIfInBounds_toArray, List.set_cons_zero, List.set_cons_succ, i64_w, i32_w]
                      rfl
                    refine take_ (i := 8) (N := some 86) (v := ?_) (a' := ?_) #[true, true, true, true, true, true, true, true, true, false, false, false, false, false, false, false, false, false, false] rfl rfl (by kernel_rfl) (fun _ _ _ h => h) (Or.inl ⟨by rfl, ?_⟩) hHeld ?_ ?_
                    rotate_left
                    · rintro w' ⟨s0, s1⟩
                      go_simp
                      with_reducible rfl
                    rotate_left
                    · simp only [Act.put, List.setIfInBounds_toArray, List.set_cons_zero, List.set_cons_succ, i64_w, i32_w]
                      rfl
                    refine pure_ (i := 9) (N := some 87) (v := ?_) (a' := ?_) #[true, true, true, true, true, true, true, true, true, true, false, false, false, false, false, false, false, false, false] rfl rfl (by kernel_rfl) (fun _ _ _ h => h) (Or.inl ⟨by rfl, ?_⟩) ?_ ?_
                    rotate_left
                    · intro w'
                      go_simp
                      with_reducible rfl
                    rotate_left
                    · simp only [Act.put, List.setIfInBounds_toArray, List.set_cons_zero, List.set_cons_succ, i64_w, i32_w]
                      rfl
                    refine pure_ (i := 10) (N := some 88) (v := ?_) (a' := ?_) #[true, true, true, true, true, true, true, true, true, true, true, false, false, false, false, false, false, false, false] rfl rfl (by kernel_rfl) (fun _ _ _ h => h) (Or.inl ⟨by rfl, ?_⟩) ?_ ?_
                    rotate_left
                    · intro w'
                      go_simp
                      with_reducible rfl
                    rotate_left
                    · simp only [Act.put, List.setIfInBounds_toArray, List.set_cons_zero, List.set_cons_succ, i64_w, i32_w]
                      rfl
                    refine pure_ (i := 11) (N := some 89) (v := ?_) (a' := ?_) #[true, true, true, true, true, true, true, true, true, true, true, true, false, false, false, false, false, false, false] rfl rfl (by kernel_rfl) (fun _ _ _ h => h) (Or.inl ⟨by rfl, ?_⟩) ?_ ?_
                    rotate_left
                    · intro w'
                      go_simp
                      with_reducible rfl
                    rotate_left
                    · simp only [Act.put, List.setIfInBounds_toArray, List.set_cons_zero, List.set_cons_succ, i64_w, i32_w]
                      rfl
                    refine pure_ (i := 12) (N := some 90) (v := ?_) (a' := ?_) #[true, true, true, true, true, true, true, true, true, true, true, true, true, false, false, false, false, false, false] rfl rfl (by kernel_rfl) (fun _ _ _ h => h) (Or.inl ⟨by rfl, ?_⟩) ?_ ?_
                    rotate_left
                    · intro w'
                      go_simp
                      with_reducible rfl
                    rotate_left
                    · simp only [Act.put, List.setIfInBounds_toArray, List.set_cons_zero, List.set_cons_succ, i64_w, i32_w]
                      rfl
                    refine pure_ (i := 13) (N := some 91) (v := ?_) (a' := ?_) #[true, true, true, true, true, true, true, true, true, true, true, true, true, true, false, false, false, false, false] rfl rfl (by kernel_rfl) (fun _ _ _ h => h) (Or.inl ⟨by rfl, ?_⟩) ?_ ?_
                    rotate_left
                    · intro w'
                      go_simp
                      with_reducible rfl
                    rotate_left
                    · simp only [Act.put, List.setIfInBounds_toArray, List.set_cons_zero, List.set_cons_succ, i64_w, i32_w]
                      rfl
                    refine take_ (i := 14) (N := some 92) (v := ?_) (a' := ?_) #[true, true, true, true, true, true, true, true, true, true, true, true, true, true, true, false, false, false, false] rfl rfl (by kernel_rfl) (fun _ _ _ h => h) (Or.inl ⟨by rfl, ?_⟩) hHeld ?_ ?_
                    rotate_left
                    · rintro w' ⟨s0, s1⟩
                      go_simp
                      with_reducible rfl
                    rotate_left
                    · simp only [Act.put, List.setIfInBounds_toArray, List.set_cons_zero, List.set_cons_succ, i64_w, i32_w]
                      rfl
                    refine pure_ (i := 15) (N := some 93) (v := ?_) (a' := ?_) #[true, true, true, true, true, true, true, true, true, true, true, true, true, true, true, true, false, false, false] rfl rfl (by kernel_rfl) (fun _ _ _ h => h) (Or.inl ⟨by rfl, ?_⟩) ?_ ?_
                    rotate_left
                    · intro w'
                      go_simp
                      with_reducible rfl
                    rotate_left
                    · simp only [Act.put, List.setIfInBounds_toArray, List.set_cons_zero, List.set_cons_succ, i64_w, i32_w]
                      rfl
                    refine one_ (i := 16) (N := some 94) #[true, true, true, true, true, true, true, true, true, true, true, true, true, true, true, true, true, false, false] rfl rfl (by kernel_rfl) (by decide) (fun K hK => ?_)
                    refine value_ (w1 := w9.alloc (.cells #[.bool v] 4)) (v := .slice (some ⟨w9.heap.size, 0, none⟩) 1 1) (by rfl) rfl ?_ ?_
                    · first | (go_simp; done) | (go_simp; rfl)
                    refine hK.out _ _ ⟨(World.cell?_alloc_past _ _ _ HGd.out).trans hHeld.1, (World.cell?_alloc_past _ _ _ HGd.out).trans hHeld.2⟩ (fun _ => ?_)
                    clear hK K hHeld
                    refine norm_ (a' := ?_) ?_ ?_
                    rotate_left
                    · show Act.put _ (some 94) _ = _
                      simp only [Act.put, List.setIfInBounds_toArray, List.set_cons_zero, List.set_cons_succ, i64_w, i32_w]
                      rfl
                    refine last_ (i := 17) (N := some 95) #[true, true, true, true, true, true, true, true, true, true, true, true, true, true, true, true, true, true, false] rfl rfl (by kernel_rfl) (by decide) (fun K hK => ?_)
                    refine Kd.R_append_step Kd.bool (w0 := w) (W := w9) w.heap.size (by rfl) (.tmp 81) (.tmp 94) 42 4 (.bool false) 1 (by rfl) Try.underlying42 info4 rfl (by decide) (by omega) (.slice (some ⟨g, 0, none⟩) (st.length - 2) c) (st.take (st.length - 2)) v [.bool v] (fun _ => True) (fun _ => False) (by rfl) (by rfl) rfl (fun _ hk => hk.elim) (fun _ _ => trivial) HTd.out HBd.out (below_size HBd.out) (by have := HS.out; have := HN.out; have := HL.out; simp only [List.length_take]; omega) ?_
                    intro v153 w25 ho hb hg hat
                    have HB2 := Aside0.mk hb
                    have HO2 := Aside0.mk ho
                    clear ho hb hg hat
                    refine hK.out _ _ ?_
                    clear hK K
                    refine norm_ (a' := ?_) ?_ ?_
                    rotate_left
                    · show Act.put _ (some 95) _ = _
                      simp only [Act.put, List.setIfInBounds_toArray, List.set_cons_zero, List.set_cons_succ, i64_w, i32_w]
                      rfl
                    refine pure_ (i := 18) (N := some 5) (v := ?_) (a' := ?_) #[true, true, true, true, true, true, true, true, true, true, true, true, true, true, true, true, true, true, true] rfl rfl (by kernel_rfl) (fun _ _ _ h => h) (Or.inl ⟨by rfl, ?_⟩) ?_ ?_
                    rotate_left
                    · intro w'
                      go_simp
                      with_reducible rfl
                    rotate_left
                    · simp only [Act.put, List.setIfInBounds_toArray, List.set_cons_zero, List.set_cons_succ, i64_w, i32_w]
                      rfl
                    refine done_ (by kernel_rfl) ?_
                    try go_wp2
                    go_roundg m
                    case measure => omega
                    case rel => exact ⟨_, i + 1, (by first | rw [show wrap64 ((i : Int) + 1) = ((i + 1 : Nat) : Int) from by have := HL.out; have := HN.out; unfold wrap64; omega] | go_num), HA2, ⟨by have := HN.out; omega⟩, ⟨by have := HS.out; have := HS2.out; omega⟩, ⟨by (with_reducible repeat (first | apply Kd.R_alloc | apply Kd.R_drewN | apply Kd.R_drew)); exact HO2.out⟩, ⟨by repeat (first | (with_reducible first | exact HB2.out | apply below_alloc | apply pw_below_drewN | apply below_drew1) | exact HB2.out)⟩⟩
                  | true =>
                    simp only [Bool.true_or] at HA2 HS2
                    go_wp2
                    refine start_ (n := 19) (S := fun w' => w'.cell? ⟨g, st.length - 2, none⟩ = some (.bool true) ∧ w'.cell? ⟨g, st.length - 1, none⟩ = some (.bool v)) (ds := [17]) #[false, false, false, false, false, false, false, false, false, false, false, false, false, false, false, false, false, false, false] (by kernel_rfl) rfl rfl ⟨hu1, hv1⟩ (fun hHeld => ?_)
                    have HTd := Aside0.mk (Kd.R_drew HT.out)
                    have HBd := Aside0.mk (below_drew1 HB.out)
                    have HGd := Aside0.mk (show g < wr.drew.heap.size from hgl)
                    clear hu1 hv1
                    generalize wr.drew = w9 at HTd HBd HGd hHeld ⊢
                    refine pure_ (i := 0) (N := some 78) (v := ?_) (a' := ?_) #[true, false, false, false, false, false, false, false, false, false, false, false, false, false, false, false, false, false, false] rfl rfl (by kernel_rfl) (fun _ _ _ h => h) (Or.inl ⟨by rfl, ?_⟩) ?_ ?_
                    rotate_left
                    · intro w'
                      go_simp
                      with_reducible rfl
                    rotate_left
                    · simp only [Act.put, List.setIfInBounds_toArray, List.set_cons_zero, List.set_cons_succ, i64_w, i32_w]
                      rfl
                    refine pure_ (i := 1) (N := some 79) (v := ?_) (a' := ?_) #[true, true, false, false, false, false, false, false, false, false, false, false, false, false, false, false, false, false, false] rfl rfl (by kernel_rfl) (fun _ _ _ h => h) (Or.inl ⟨by rfl, ?_⟩) ?_ ?_
                    rotate_left
                    · intro w'
                      go_simp
                      with_reducible rfl
                    rotate_left
                    · simp only [Act.put, List.setIfInBounds_toArray, List.set_cons_zero, List.set_cons_succ, i64_w, i32_w]
                      rfl
                    refine pure_ (i := 2) (N := some 80) (v := ?_) (a' := ?_) #[true, true, true, false, false, false, false, false, false, false, false, false, false, false, false, false, false, false, false] rfl rfl (by kernel_rfl) (fun _ _ _ h => h) (Or.inl ⟨by rfl, ?_⟩) ?_ ?_
                    rotate_left
                    · intro w'
                      go_simp
                      with_reducible rfl
                    rotate_left
                    · simp only [Act.put, List.setIfInBounds_toArray, List.set_cons_zero, List.set_cons_succ, i64_w, i32_w]
                      rfl
                    refine pure_ (i := 4) (N := some 82) (v := ?_) (a' := ?_) #[true, true, true, false, true, false, false, false, false, false, false, false, false, false, false, false, false, false, false] rfl rfl (by kernel_rfl) (fun _ _ _ h => h) (Or.inl ⟨by rfl, ?_⟩) ?_ ?_
                    rotate_left
                    · intro w'
                      go_simp
                      with_reducible rfl
                    rotate_left
                    · simp only [Act.put, List.setIfInBounds_toArray, List.set_cons_zero, List.set_cons_succ, i64_w, i32_w]
                      rfl
                    refine pure_ (i := 5) (N := some 83) (v := ?_) (a' := ?_) #[true, true, true, false, true, true, false, false, false, false, false, false, false, false, false, false, false, false, false] rfl rfl (by kernel_rfl) (fun _ _ _ h => h) (Or.inl ⟨by rfl, ?_⟩) ?_ ?_
                    rotate_left
                    · intro w'
                      go_simp
                      with_reducible rfl
                    rotate_left
                    · simp only [Act.put, List.setIfInBounds_toArray, List.set_cons_zero, List.set_cons_succ, i64_w, i32_w]
                      rfl
                    refine pure_ (i := 6) (N := some 84) (v := ?_) (a' := ?_) #[true, true, true, false, true, true, true, false, false, false, false, false, false, false, false, false, false, false, false] rfl rfl (by kernel_rfl) (fun _ _ _ h => h) (Or.inl ⟨by rfl, ?_⟩) ?_ ?_
                    rotate_left
                    · intro w'
                      go_simp
                      with_reducible rfl
                    rotate_left
                    · simp only [Act.put, List.setIfInBounds_toArray, List.set_cons_zero, List.set_cons_succ, i64_w, i32_w]
                      rfl
                    refine pure_ (i := 3) (N := some 81) (v := ?_) (a' := ?_) #[true, true, true, true, true, true, true, false, false, false, false, false, false, false, false, false, false, false, false] rfl rfl (by kernel_rfl) (fun _ _ _ h => h) (Or.inl ⟨by rfl, ?_⟩) ?_ ?_
                    rotate_left
                    · intro w'
                      go_simp
                      with_reducible rfl
                    rotate_left
                    · simp only [Act.put, List.setIfInBounds_toArray, List.set_cons_zero, List.set_cons_succ, i64_w, i32_w]
                      rfl
                    refine pure_ (i := 7) (N := some 85) (v := ?_) (a' := ?_) #[true, true, true, true, true, true, true, true, false, false, false, false, false, false, false, false, false, false, false] rfl rfl (by kernel_rfl) (fun _ _ _ h => h) (Or.inl ⟨by rfl, ?_⟩) ?_ ?_
                    rotate_left
                    · intro w'
                      go_simp
                      with_reducible rfl
                    rotate_left
                    · simp only [Act.put, List.setIfInBounds_toArray, List.set_cons_zero, List.set_cons_succ, i64_w, i32_w]
                      rfl
                    refine take_ (i := 8) (N := some 86) (v := ?_) (a' := ?_) #[true, true, true, true, true, true, true, true, true, false, false, false, false, false, false, false, false, false, false] rfl rfl (by kernel_rfl) (fun _ _ _ h => h) (Or.inl ⟨by rfl, ?_⟩) hHeld ?_ ?_
                    rotate_left
                    · rintro w' ⟨s0, s1⟩
                      go_simp
                      with_reducible rfl
                    rotate_left
                    · simp only [Act.put, List.setIfInBounds_toArray, List.set_cons_zero, List.set_cons_succ, i64_w, i32_w]
                      rfl
                    refine pure_ (i := 9) (N := some 87) (v := ?_) (a' := ?_) #[true, true, true, true, true, true, true, true, true, true, false, false, false, false, false, false, false, false, false] rfl rfl (by kernel_rfl) (fun _ _ _ h => h) (Or.inl ⟨by rfl, ?_⟩) ?_ ?_
                    rotate_left
                    · intro w'
                      go_simp
                      with_reducible rfl
                    rotate_left
                    · simp only [Act.put, List.setIfInBounds_toArray, List.set_cons_zero, List.set_cons_succ, i64_w, i32_w]
                      rfl
                    refine pure_ (i := 10) (N := some 88) (v := undef) (a' := ?_) #[true, true, true, true, true, true, true, true, true, true, true, false, false, false, false, false, false, false, false] rfl rfl (by kernel_rfl) (fun _ _ _ h => h) (Or.inr ⟨by rfl, rfl⟩) ?_ ?_
                    rotate_left
                    · simp only [Act.put, List.setIfInBounds_toArray, List.set_cons_zero, List.set_cons_succ, i64_w, i32_w]
                      rfl
                    refine pure_ (i := 11) (N := some 89) (v := undef) (a' := ?_) #[true, true, true, true, true, true, true, true, true, true, true, true, false, false, false, false, false, false, false] rfl rfl (by kernel_rfl) (fun _ _ _ h => h) (Or.inr ⟨by rfl, rfl⟩) ?_ ?_
                    rotate_left
                    · simp only [Act.put, List.setIfInBounds_toArray, List.set_cons_zero, List.set_cons_succ, i64_w, i32_w]
                      rfl
                    refine pure_ (i := 12) (N := some 90) (v := undef) (a' := ?_) #[true, true, true, true, true, true, true, true, true, true, true, true, true, false, false, false, false, false, false] rfl rfl (by kernel_rfl) (fun _ _ _ h => h) (Or.inr ⟨by rfl, rfl⟩) ?_ ?_
                    rotate_left
                    · simp only [Act.put, List.setIfInBounds_toArray, List.set_cons_zero, List.set_cons_succ, i64_w, i32_w]
                      rfl
                    refine pure_ (i := 13) (N := some 91) (v := undef) (a' := ?_) #[true, true, true, true, true, true, true, true, true, true, true, true, true, true, false, false, false, false, false] rfl rfl (by kernel_rfl) (fun _ _ _ h => h) (Or.inr ⟨by rfl, rfl⟩) ?_ ?_
                    rotate_left
                    · simp only [Act.put, List.setIfInBounds_toArray, List.set_cons_zero, List.set_cons_succ, i64_w, i32_w]
                      rfl
                    refine pure_ (i := 14) (N := some 92) (v := undef) (a' := ?_) #[true, true, true, true, true, true, true, true, true, true, true, true, true, true, true, false, false, false, false] rfl rfl (by kernel_rfl) (fun _ _ _ h => h) (Or.inr ⟨by rfl, rfl⟩) ?_ ?_
                    rotate_left
                    · simp only [Act.put, List.setIfInBounds_toArray, List.set_cons_zero, List.set_cons_succ, i64_w, i32_w]
                      rfl
                    refine pure_ (i := 15) (N := some 93) (v := ?_) (a' := ?_) #[true, true, true, true, true, true, true, true, true, true, true, true, true, true, true, true, false, false, false] rfl rfl (by kernel_rfl) (fun _ _ _ h => h) (Or.inl ⟨by rfl, ?_⟩) ?_ ?_
                    rotate_left
                    · intro w'
                      go_simp
                      with_reducible rfl
                    rotate_left
                    · simp only [Act.put, List.setIfInBounds_toArray, List.set_cons_zero, List.set_cons_succ, i64_w, i32_w]
                      rfl
                    refine one_ (i := 16) (N := some 94) #[true, true, true, true, true, true, true, true, true, true, true, true, true, true, true, true, true, false, false] rfl rfl (by kernel_rfl) (by decide) (fun K hK => ?_)
                    refine value_ (w1 := w9.alloc (.cells #[.bool true] 4)) (v := .slice (some ⟨w9.heap.size, 0, none⟩) 1 1) (by rfl) rfl ?_ ?_
                    · first | (go_simp; done) | (go_simp; rfl)
                    refine hK.out _ _ ⟨(World.cell?_alloc_past _ _ _ HGd.out).trans hHeld.1, (World.cell?_alloc_past _ _ _ HGd.out).trans hHeld.2⟩ (fun _ => ?_)
                    clear hK K hHeld
                    refine norm_ (a' := ?_) ?_ ?_
                    rotate_left
                    · show Act.put _ (some 94) _ = _
                      simp only [Act.put, List.setIfInBounds_toArray, List.set_cons_zero, List.set_cons_succ, i64_w, i32_w]
                      rfl
                    refine last_ (i := 17) (N := some 95) #[true, true, true, true, true, true, true, true, true, true, true, true, true, true, true, true, true, true, false] rfl rfl (by kernel_rfl) (by decide) (fun K hK => ?_)
                    refine Kd.R_append_step Kd.bool (w0 := w) (W := w9) w.heap.size (by rfl) (.tmp 81) (.tmp 94) 42 4 (.bool false) 1 (by rfl) Try.underlying42 info4 rfl (by decide) (by omega) (.slice (some ⟨g, 0, none⟩) (st.length - 2) c) (st.take (st.length - 2)) true [.bool true] (fun _ => True) (fun _ => False) (by rfl) (by rfl) rfl (fun _ hk => hk.elim) (fun _ _ => trivial) HTd.out HBd.out (below_size HBd.out) (by have := HS.out; have := HN.out; have := HL.out; simp only [List.length_take]; omega) ?_
                    intro v153 w25 ho hb hg hat
                    have HB2 := Aside0.mk hb
                    have HO2 := Aside0.mk ho
                    clear ho hb hg hat
                    refine hK.out _ _ ?_
                    clear hK K
                    refine norm_ (a' := ?_) ?_ ?_
                    rotate_left
                    · show Act.put _ (some 95) _ = _
                      simp only [Act.put, List.setIfInBounds_toArray, List.set_cons_zero, List.set_cons_succ, i64_w, i32_w]
                      rfl
                    refine pure_ (i := 18) (N := some 5) (v := ?_) (a' := ?_) #[true, true, true, true, true, true, true, true, true, true, true, true, true, true, true, true, true, true, true] rfl rfl (by kernel_rfl) (fun _ _ _ h => h) (Or.inl ⟨by rfl, ?_⟩) ?_ ?_
                    rotate_left
                    · intro w'
                      go_simp
                      with_reducible rfl
                    rotate_left
                    · simp only [Act.put, List.setIfInBounds_toArray, List.set_cons_zero, List.set_cons_succ, i64_w, i32_w]
                      rfl
                    refine done_ (by kernel_rfl) ?_
                    try go_wp2
                    go_roundg m
                    case measure => omega
                    case rel => exact ⟨_, i + 1, (by first | rw [show wrap64 ((i : Int) + 1) = ((i + 1 : Nat) : Int) from by have := HL.out; have := HN.out; unfold wrap64; omega] | go_num), HA2, ⟨by have := HN.out; omega⟩, ⟨by have := HS.out; have := HS2.out; omega⟩, ⟨by (with_reducible repeat (first | apply Kd.R_alloc | apply Kd.R_drewN | apply Kd.R_drew)); exact HO2.out⟩, ⟨by repeat (first | (with_reducible first | exact HB2.out | apply below_alloc | apply pw_below_drewN | apply below_drew1) | exact HB2.out)⟩⟩
                · rw [if_neg kb] at hs
                  exact absurd hs (by simp)
              · rw [if_neg k4] at hs
                have k4b : (x.f0 == 4) = false := beq_eq_false_iff_ne.mpr k4
                by_cases k5 : x.f0 = 5
                · rw [if_pos k5] at hs
                  have k5b : (x.f0 == 5) = true := beq_iff_eq.mpr k5
                  by_cases kb : 2 ≤ st.length
                  · rw [if_pos kb] at hs
                    obtain rfl := Option.some.inj hs
                    obtain ⟨g, cap, e5, hgb, hgl, hgc⟩ := Kd.R_form HO.out (by omega)
                    injection e5 with ea en ec
                    subst ea ec
                    clear en hgc hgb
                    have hcap := (Kd.R_reads' HO.out).2.1
                    obtain ⟨hu1, hfu⟩ := Kd.R_celln false HO.out ((st.length - 2 : Nat) : Int) (by omega) (by omega)
                    obtain ⟨hv1, hfv⟩ := Kd.R_celln false HO.out ((st.length - 1 : Nat) : Int) (by omega) (by omega)
                    simp only [Int.toNat_natCast] at hu1 hv1
                    clear hfu hfv
                    generalize hu : rdOf false st ((st.length - 2 : Nat) : Int) = u at hu1 HA2 HS2
                    generalize hv : rdOf false st ((st.length - 1 : Nat) : Int) = v at hv1 HA2 HS2
                    have HT := Aside0.mk (Kd.R_take HO.out (show st.length - 2 ≤ st.length by omega))
                    have w2 : IntKind.i64.wrap ((st.length : Int) - 2) = ((st.length - 2 : Nat) : Int) := by have := HS.out; have := HL.out; rw [i64_w]; unfold wrap64; omega
                    have w1 : IntKind.i64.wrap ((st.length : Int) - 1) = ((st.length - 1 : Nat) : Int) := by have := HS.out; have := HL.out; rw [i64_w]; unfold wrap64; omega
                    have b1 : (0 : Int) ≤ ((st.length - 2 : Nat) : Int) := by omega
                    have b2 : ((st.length - 2 : Nat) : Int) < (st.length : Int) := by omega
                    have b3 : (0 : Int) ≤ ((st.length - 1 : Nat) : Int) := by omega
                    have b4 : ((st.length - 1 : Nat) : Int) < (st.length : Int) := by omega
                    have b5 : ((st.length - 2 : Nat) : Int) ≤ (c : Int) := by omega
                    have HK := Aside0.mk kb
                    clear hs hu hv kb hcap
                    go_wp2
                    refine start_ (n := 18) (S := fun w' => w'.cell? ⟨g, st.length - 2, none⟩ = some (.bool u) ∧ w'.cell? ⟨g, st.length - 1, none⟩ = some (.bool v)) (ds := [16]) #[false, false, false, false, false, false, false, false, false, false, false, false, false, false, false, false, false, false] (by kernel_rfl) rfl rfl ⟨hu1, hv1⟩ (fun hHeld => ?_)
                    have HTd := Aside0.mk (Kd.R_drew HT.out)
                    have HBd := Aside0.mk (below_drew1 HB.out)
                    have HGd := Aside0.mk (show g < wr.drew.heap.size from hgl)
                    clear hu1 hv1
                    generalize wr.drew = w9 at HTd HBd HGd hHeld ⊢
                    refine pure_ (i := 0) (N := some 98) (v := ?_) (a' := ?_) #[true, false, false, false, false, false, false, false, false, false, false, false, false, false, false, false, false, false] rfl rfl (by kernel_rfl) (fun _ _ _ h => h) (Or.inl ⟨by rfl, ?_⟩) ?_ ?_
                    rotate_left
                    · intro w'
                      go_simp
                      with_reducible rfl
                    rotate_left
                    · simp only [Act.put, List.setIfInBounds_toArray, List.set_cons_zero, List.set_cons_succ, i64_w, i32_w]
                      rfl
                    refine pure_ (i := 1) (N := some 99) (v := ?_) (a' := ?_) #[true, true, false, false, false, false, false, false, false, false, false, false, false, false, false, false, false, false] rfl rfl (by kernel_rfl) (fun _ _ _ h => h) (Or.inl ⟨by rfl, ?_⟩) ?_ ?_
                    rotate_left
                    · intro w'
                      go_simp
                      with_reducible rfl
                    rotate_left
                    · simp only [Act.put, List.setIfInBounds_toArray, List.set_cons_zero, List.set_cons_succ, i64_w, i32_w]
                      rfl
                    refine pure_ (i := 2) (N := some 100) (v := ?_) (a' := ?_) #[true, true, true, false, false, false, false, false, false, false, false, false, false, false, false, false, false, false] rfl rfl (by kernel_rfl) (fun _ _ _ h => h) (Or.inl ⟨by rfl, ?_⟩) ?_ ?_
                    rotate_left
                    · intro w'
                      go_simp
                      with_reducible rfl
                    rotate_left
                    · simp only [Act.put, List.setIfInBounds_toArray, List.set_cons_zero, List.set_cons_succ, i64_w, i32_w]
                      rfl
                    refine pure_ (i := 4) (N := some 102) (v := ?_) (a' := ?_) #[true, true, true, false, true, false, false, false, false, false, false, false, false, false, false, false, false, false] rfl rfl (by kernel_rfl) (fun _ _ _ h => h) (Or.inl ⟨by rfl, ?_⟩) ?_ ?_
                    rotate_left
                    · intro w'
                      go_simp
                      with_reducible rfl
                    rotate_left
                    · simp only [Act.put, List.setIfInBounds_toArray, List.set_cons_zero, List.set_cons_succ, i64_w, i32_w]
                      rfl
                    refine pure_ (i := 5) (N := some 103) (v := ?_) (a' := ?_) #[true, true, true, false, true, true, false, false, false, false, false, false, false, false, false, false, false, false] rfl rfl (by kernel_rfl) (fun _ _ _ h => h) (Or.inl ⟨by rfl, ?_⟩) ?_ ?_
                    rotate_left
                    · intro w'
                      go_simp
                      with_reducible rfl
                    rotate_left
                    · simp only [Act.put, List.setIfInBounds_toArray, List.set_cons_zero, List.set_cons_succ, i64_w, i32_w]
                      rfl
                    refine pure_ (i := 6) (N := some 104) (v := ?_) (a' := ?_) #[true, true, true, false, true, true, true, false, false, false, false, false, false, false, false, false, false, false] rfl rfl (by kernel_rfl) (fun _ _ _ h => h) (Or.inl ⟨by rfl, ?_⟩) ?_ ?_
                    rotate_left
                    · intro w'
                      go_simp
                      with_reducible rfl
                    rotate_left
                    · simp only [Act.put, List.setIfInBounds_toArray, List.set_cons_zero, List.set_cons_succ, i64_w, i32_w]
                      rfl
                    refine pure_ (i := 3) (N := some 101) (v := ?_) (a' := ?_) #[true, true, true, true, true, true, true, false, false, false, false, false, false, false, false, false, false, false] rfl rfl (by kernel_rfl) (fun _ _ _ h => h) (Or.inl ⟨by rfl, ?_⟩) ?_ ?_
                    rotate_left
                    · intro w'
                      go_simp
                      with_reducible rfl
                    rotate_left
                    · simp only [Act.put, List.setIfInBounds_toArray, List.set_cons_zero, List.set_cons_succ, i64_w, i32_w]
                      rfl
                    refine pure_ (i := 7) (N := some 105) (v := ?_) (a' := ?_) #[true, true, true, true, true, true, true, true, false, false, false, false, false, false, false, false, false, false] rfl rfl (by kernel_rfl) (fun _ _ _ h => h) (Or.inl ⟨by rfl, ?_⟩) ?_ ?_
                    rotate_left
                    · intro w'
                      go_simp
                      with_reducible rfl
                    rotate_left
                    · simp only [Act.put, List.setIfInBounds_toArray, List.set_cons_zero, List.set_cons_succ, i64_w, i32_w]
                      rfl
                    refine take_ (i := 8) (N := some 106) (v := ?_) (a' := ?_) #[true, true, true, true, true, true, true, true, true, false, false, false, false, false, false, false, false, false] rfl rfl (by kernel_rfl) (fun _ _ _ h => h) (Or.inl ⟨by rfl, ?_⟩) hHeld ?_ ?_
                    rotate_left
                    · rintro w' ⟨s0, s1⟩
                      go_simp
                      with_reducible rfl
                    rotate_left
                    · simp only [Act.put, List.setIfInBounds_toArray, List.set_cons_zero, List.set_cons_succ, i64_w, i32_w]
                      rfl
                    refine pure_ (i := 9) (N := some 107) (v := ?_) (a' := ?_) #[true, true, true, true, true, true, true, true, true, true, false, false, false, false, false, false, false, false] rfl rfl (by kernel_rfl) (fun _ _ _ h => h) (Or.inl ⟨by rfl, ?_⟩) ?_ ?_
                    rotate_left
                    · intro w'
                      go_simp
                      with_reducible rfl
                    rotate_left
                    · simp only [Act.put, List.setIfInBounds_toArray, List.set_cons_zero, List.set_cons_succ, i64_w, i32_w]
                      rfl
                    refine pure_ (i := 10) (N := some 108) (v := ?_) (a' := ?_) #[true, true, true, true, true, true, true, true, true, true, true, false, false, false, false, false, false, false] rfl rfl (by kernel_rfl) (fun _ _ _ h => h) (Or.inl ⟨by rfl, ?_⟩) ?_ ?_
                    rotate_left
                    · intro w'
                      go_simp
                      with_reducible rfl
                    rotate_left
                    · simp only [Act.put, List.setIfInBounds_toArray, List.set_cons_zero, List.set_cons_succ, i64_w, i32_w]
                      rfl
                    refine pure_ (i := 11) (N := some 109) (v := ?_) (a' := ?_) #[true, true, true, true, true, true, true, true, true, true, true, true, false, false, false, false, false, false] rfl rfl (by kernel_rfl) (fun _ _ _ h => h) (Or.inl ⟨by rfl, ?_⟩) ?_ ?_
                    rotate_left
                    · intro w'
                      go_simp
                      with_reducible rfl
                    rotate_left
                    · simp only [Act.put, List.setIfInBounds_toArray, List.set_cons_zero, List.set_cons_succ, i64_w, i32_w]
                      rfl
                    refine pure_ (i := 12) (N := some 110) (v := ?_) (a' := ?_) #[true, true, true, true, true, true, true, true, true, true, true, true, true, false, false, false, false, false] rfl rfl (by kernel_rfl) (fun _ _ _ h => h) (Or.inl ⟨by rfl, ?_⟩) ?_ ?_
                    rotate_left
                    · intro w'
                      go_simp
                      with_reducible rfl
                    rotate_left
                    · simp only [Act.put, List.setIfInBounds_toArray, List.set_cons_zero, List.set_cons_succ, i64_w, i32_w]
                      rfl
                    refine take_ (i := 13) (N := some 111) (v := ?_) (a' := ?_) #[true, true, true, true, true, true, true, true, true, true, true, true, true, true, false, false, false, false] rfl rfl (by kernel_rfl) (fun _ _ _ h => h) (Or.inl ⟨by rfl, ?_⟩) hHeld ?_ ?_
                    rotate_left
                    · rintro w' ⟨s0, s1⟩
                      go_simp
                      with_reducible rfl
                    rotate_left
                    · simp only [Act.put, List.setIfInBounds_toArray, List.set_cons_zero, List.set_cons_succ, i64_w, i32_w]
                      rfl
                    refine pure_ (i := 14) (N := some 112) (v := ?_) (a' := ?_) #[true, true, true, true, true, true, true, true, true, true, true, true, true, true, true, false, false, false] rfl rfl (by kernel_rfl) (fun _ _ _ h => h) (Or.inl ⟨by rfl, ?_⟩) ?_ ?_
                    rotate_left
                    · intro w'
                      go_simp
                      with_reducible rfl
                    rotate_left
                    · simp only [Act.put, List.setIfInBounds_toArray, List.set_cons_zero, List.set_cons_succ, i64_w, i32_w]
                      rfl
                    refine one_ (i := 15) (N := some 113) #[true, true, true, true, true, true, true, true, true, true, true, true, true, true, true, true, false, false] rfl rfl (by kernel_rfl) (by decide) (fun K hK => ?_)
                    refine value_ (w1 := w9.alloc (.cells #[.bool (u != v)] 4)) (v := .slice (some ⟨w9.heap.size, 0, none⟩) 1 1) (by rfl) rfl ?_ ?_
                    · first | (go_simp; done) | (go_simp; rfl)
                    refine hK.out _ _ ⟨(World.cell?_alloc_past _ _ _ HGd.out).trans hHeld.1, (World.cell?_alloc_past _ _ _ HGd.out).trans hHeld.2⟩ (fun _ => ?_)
                    clear hK K hHeld
                    refine norm_ (a' := ?_) ?_ ?_
                    rotate_left
                    · show Act.put _ (some 113) _ = _
                      simp only [Act.put, List.setIfInBounds_toArray, List.set_cons_zero, List.set_cons_succ, i64_w, i32_w]
                      rfl
                    refine last_ (i := 16) (N := some 114) #[true, true, true, true, true, true, true, true, true, true, true, true, true, true, true, true, true, false] rfl rfl (by kernel_rfl) (by decide) (fun K hK => ?_)
                    refine Kd.R_append_step Kd.bool (w0 := w) (W := w9) w.heap.size (by rfl) (.tmp 101) (.tmp 113) 42 4 (.bool false) 1 (by rfl) Try.underlying42 info4 rfl (by decide) (by omega) (.slice (some ⟨g, 0, none⟩) (st.length - 2) c) (st.take (st.length - 2)) (u != v) [.bool (u != v)] (fun _ => True) (fun _ => False) (by rfl) (by rfl) rfl (fun _ hk => hk.elim) (fun _ _ => trivial) HTd.out HBd.out (below_size HBd.out) (by have := HS.out; have := HN.out; have := HL.out; simp only [List.length_take]; omega) ?_
                    intro v153 w25 ho hb hg hat
                    have HB2 := Aside0.mk hb
                    have HO2 := Aside0.mk ho
                    clear ho hb hg hat
                    refine hK.out _ _ ?_
                    clear hK K
                    refine norm_ (a' := ?_) ?_ ?_
                    rotate_left
                    · show Act.put _ (some 114) _ = _
                      simp only [Act.put, List.setIfInBounds_toArray, List.set_cons_zero, List.set_cons_succ, i64_w, i32_w]
                      rfl
                    refine pure_ (i := 17) (N := some 5) (v := ?_) (a' := ?_) #[true, true, true, true, true, true, true, true, true, true, true, true, true, true, true, true, true, true] rfl rfl (by kernel_rfl) (fun _ _ _ h => h) (Or.inl ⟨by rfl, ?_⟩) ?_ ?_
                    rotate_left
                    · intro w'
                      go_simp
                      with_reducible rfl
                    rotate_left
                    · simp only [Act.put, List.setIfInBounds_toArray, List.set_cons_zero, List.set_cons_succ, i64_w, i32_w]
                      rfl
                    refine done_ (by kernel_rfl) ?_
                    try go_wp2
                    go_roundg m
                    case measure => omega
                    case rel => exact ⟨_, i + 1, (by first | rw [show wrap64 ((i : Int) + 1) = ((i + 1 : Nat) : Int) from by have := HL.out; have := HN.out; unfold wrap64; omega] | go_num), HA2, ⟨by have := HN.out; omega⟩, ⟨by have := HS.out; have := HS2.out; omega⟩, ⟨by (with_reducible repeat (first | apply Kd.R_alloc | apply Kd.R_drewN | apply Kd.R_drew)); exact HO2.out⟩, ⟨by repeat (first | (with_reducible first | exact HB2.out | apply below_alloc | apply pw_below_drewN | apply below_drew1) | exact HB2.out)⟩⟩
                  · rw [if_neg kb] at hs
                    exact absurd hs (by simp)
                · rw [if_neg k5] at hs
                  have k5b : (x.f0 == 5) = false := beq_eq_false_iff_ne.mpr k5
                  obtain rfl := Option.some.inj hs
                  generalize hv : (x.f0 == 6) = v at HA2 HS2
                  clear hs
                  go_wp2_with (first | ((with_reducible refine gate_builtin (b := .append) (xs := #[.tmp 22, .tmp 29]) rfl ?_); at_builtin; refine Kd.R_append Kd.bool (w0 := w) w.heap.size rfl (.tmp 22) (.tmp 29) 42 4 (.bool false) 1 rfl Try.underlying42 info4 rfl (by decide) (by omega) _ st v [.bool v] (fun _ => True) (fun _ => False) rfl rfl ?aP (fun _ hk => hk.elim) ?aF ?aO ?aB ?aS ?aL ?_; (case aP => exact rfl); (case aB => exact (by repeat (first | (with_reducible first | exact HB.out | apply below_alloc | apply pw_below_drewN | apply below_drew1) | exact HB.out))); (case aF => exact (fun _ _ => trivial)); (case aO => exact (by (with_reducible repeat (first | apply Kd.R_alloc | apply Kd.R_drewN | apply Kd.R_drew)); exact HO.out)); (case aS => exact (below_size (by repeat (first | (with_reducible first | exact HB.out | apply below_alloc | apply pw_below_drewN | apply below_drew1) | exact HB.out)))); (case aL => have := HS.out; have := HN.out; have := HL.out; omega); intro v153 w25 ho hb hg hat; have HB2 := Aside0.mk hb; have HO2 := Aside0.mk ho; clear ho hb hg hat))
                  go_roundg m
                  case measure => omega
                  case rel => exact ⟨_, i + 1, (by first | rw [show wrap64 ((i : Int) + 1) = ((i + 1 : Nat) : Int) from by have := HL.out; have := HN.out; unfold wrap64; omega] | go_num), HA2, ⟨by have := HN.out; omega⟩, ⟨by have := HS.out; have := HS2.out; omega⟩, ⟨by (with_reducible repeat (first | apply Kd.R_alloc | apply Kd.R_drewN | apply Kd.R_drew)); exact HO2.out⟩, ⟨by repeat (first | (with_reducible first | exact HB2.out | apply below_alloc | apply pw_below_drewN | apply below_drew1) | exact HB2.out)⟩⟩
  · rw [if_neg hb] at h
    exact absurd h (by simp)


end Go.Proofs.Ytmphligplngeaaa.GFnExactEvalLogic

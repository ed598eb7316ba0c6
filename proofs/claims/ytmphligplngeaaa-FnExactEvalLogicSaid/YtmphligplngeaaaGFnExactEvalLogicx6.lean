/- Functions of the program as Lean functions, with proofs that the machine comes to their answers; written by this session's program mkprint.py; no condition beyond each theorem's own. -/
import Derived.Test.YtmphligplngeaaaGFnExactEvalLogicx0
import Derived.Test.YtmphligplngeaaaGFnExactEvalLogicx3
import Derived.Test.YtmphligplngeaaaGFnExactEvalLogicx5
namespace Go.Proofs.Ytmphligplngeaaa.GFnExactEvalLogic
open Go.RowKit Go.Proofs.YtmphligplngeaaaV.PrintWords Go.Proofs.YtmphligplngeaaaV.PrintLast Go.Proofs.YtmphligplngeaaaV.PrintMore
attribute [local go_sem] max2_int min2_int max_two min_two max_three min_three max_four min_four   -- for this text's walks alone
set_option linter.unusedVariables false
set_option linter.unusedSimpArgs false

/-! ### impl_EvalLogic: function 36 -/
theorem impl_EvalLogic.rd_take {st : List Bool} {m : Nat} (h : m + 1 ≤ st.length) : rdOf false (st.take (m + 1)) (m : Int) = rdOf false st (m : Int) := by
  simp [rdOf, List.getD_eq_getElem?_getD, List.getElem?_take]
/-- pop: the last value; the stack goes on without it. -/
theorem impl_EvalLogic.pop (g g2 n c : Nat) (top : Bool) (w : World) (hn : 1 ≤ n) (hbig : n ≤ 1000000) (hc : n ≤ c) (hbox : w.heap[g]? = some (.cells #[.slice (some ⟨g2, 0, none⟩) n c] 42 (0, 0))) (hcell : w.cell? ⟨g2, n - 1, none⟩ = some (.bool top)) :
    Calls Try.prog 71 #[.pointer (some ⟨g, 0, none⟩)] w fun e w' => e = .returned (.bool top) ∧ w' = w.setCell ⟨g, 0, none⟩ (.slice (some ⟨g2, 0, none⟩) (n - 1) c) := by
  have hbc : w.cell? ⟨g, 0, none⟩ = some (.slice (some ⟨g2, 0, none⟩) n c) := (blk_cell hbox 0).trans rfl
  have hbf : w.frozen? ⟨g, 0, none⟩ = false := blk_frozen hbox 0
  have w1 : wrap64 ((n : Int) - 1) = ((n - 1 : Nat) : Int) := by unfold wrap64; omega
  have b2 : ((n - 1 : Nat) : Int) < (n : Int) := by omega
  have b3 : ((n - 1 : Nat) : Int) ≤ (c : Int) := by omega
  clear hbox hn hbig hc
  go_enter Try.func71, Try.ntmps71
  go_wp2
  go_ret
  exact ⟨rfl, rfl⟩
set_option maxHeartbeats 8000000 in
set_option maxRecDepth 100000 in
theorem impl_EvalLogic.eval (bits : List Bool) (A0 : Option Addr) (c0 : Nat) (l0 : List S69) (cap : Value) (r : Bool) (w : World) (hr0 : Kd.C k69 w A0 l0.length l0) (h : evl.val bits l0 = some r)
    (hbit : ∀ (n : Int) (w' : World), 0 ≤ n → n < (bits.length : Int) → Below w.heap.size w w' → Calls Try.prog 63 #[.int .i64 n, cap] w' fun e w'' => e = .returned (.bool (rdOf false bits n)) ∧ Below w'.heap.size w' w'') :
    Calls Try.prog 62 #[.slice A0 l0.length c0, .func (.func 63) #[] #[cap]] w fun e w' => e = .returned (.bool r) ∧ Below w.heap.size w w' := by
  have hu69 := Try.underlying69
  unfold evl.val at h
  by_cases hb : l0.length ≤ 1000000
  · rw [if_pos hb] at h
    obtain ⟨sf, hrun, hfin⟩ := Option.bind_eq_some_iff.mp h
    have HR0 := Aside0.mk hr0
    have HX := Aside0.mk hrun
    have HF := Aside0.mk hfin
    have HL := Aside0.mk hb
    have HBIT := Aside0.mk hbit
    clear h hr0 hrun hfin hb hbit
    go_enter Try.func62, Try.ntmps62
    go_wp2_with (first | ((with_reducible refine gate_dst (N := 5) rfl ?_); refine box_event ?hg (N := 5) ?hd (cs := #[.slice none 0 0]) (t := 42) ?hr ?_; (case hd => rfl); (case hg => rfl); (case hr => first | (go_simp; done) | (go_simp; rfl)); intro gs hg w1 hbox hb; have BK0 := Aside0.mk hbox; have HB1 := Aside0.mk hb; have GS := Aside0.mk (show w.heap.size ≤ gs from by rw [hg]; exact Nat.le_refl _); clear hb hbox hg))
    go_loopg [17] l0.length (fun gg v17 wr => ∃ (st : List Bool) (i : Nat) (v5 : Value), v17 = .int .i64 (i : Int) ∧ Aside0 (evl.run bits (l0.drop i) st = some sf) ∧ Aside0 (i + gg = l0.length) ∧ Aside0 (st.length ≤ i) ∧ Aside0 (wr.heap[gs]? = some (.cells #[v5] 42 (0, 0))) ∧ Aside0 (Kd.R Kd.bool 4 wr w.heap.size (fun _ => True) v5 st) ∧ Aside0 (Below w.heap.size w wr))
    case atStart => exact ⟨[], 0, .slice none 0 0, rfl, HX, ⟨by omega⟩, ⟨Nat.le_refl _⟩, BK0, ⟨Kd.R_nil _ _ _ _ _⟩, HB1⟩
    case round =>
      obtain ⟨st, i, v5, rfl, HA, HN, HS, BK, HO, HB⟩ := hrel
      obtain ⟨A, c, e5⟩ := Kd.R_slice HO.out
      subst e5
      cases gk with
      | zero =>
        have hi : i = l0.length := HN.out
        subst hi
        have hst : st = sf := by
          have := HA.out
          rw [List.drop_length] at this
          exact Option.some.inj this
        subst hst
        have hF := HF.out
        by_cases hp : 0 < st.length
        · rw [if_pos hp] at hF
          have hrr := Option.some.inj hF
          obtain ⟨_, _, hcc⟩ := Kd.R_reads' HO.out
          obtain ⟨ad, e1, hx⟩ := Kd.at_bool hcc 0 (by omega) (by omega)
          subst e1
          have hltz : ¬ ((l0.length : Int) < (l0.length : Int)) := by omega
          have hpz : (0 : Int) < (st.length : Int) := by omega
          rw [hrr, show ad.add (Int.toNat 0) = ad by simp [Addr.add]] at hx
          have hbc : wr.cell? ⟨gs, 0, none⟩ = some (.slice (some ad) st.length c) := (blk_cell BK.out 0).trans rfl
          clear hcc hF hp hrr
          go_wp2
          go_ret
          exact ⟨rfl, HB.out⟩
        · rw [if_neg hp] at hF
          exact absurd hF (by simp)
      | succ m =>
        have hlt : i < l0.length := by have := HN.out; omega
        have hltz : (i : Int) < (l0.length : Int) := by omega
        have hdr : l0.drop i = l0[i] :: l0.drop (i + 1) := List.drop_eq_getElem_cons hlt
        have hA := HA.out
        rw [hdr] at hA
        obtain ⟨s2, hs, hA⟩ := Option.bind_eq_some_iff.mp hA
        have HS2 := Aside0.mk (evl.step_len hs)
        have HA2 := Aside0.mk hA
        obtain ⟨ad, e1, hx0, hx1⟩ := at_T69 HR0.out (i : Int) (by omega) (by omega)
        have hrd : rd_T69 l0 (i : Int) = l0[i] := by unfold rd_T69; rw [Int.toNat_natCast, List.getD_eq_getElem?_getD, List.getElem?_eq_getElem hlt]; rfl
        rw [hrd] at hx0 hx1
        simp only [Int.toNat_natCast] at hx0 hx1
        subst e1
        replace hx0 := (HB.out.cell (World.block_lt_of_cell? w _ hx0)).trans hx0
        replace hx1 := (HB.out.cell (World.block_lt_of_cell? w _ hx1)).trans hx1
        generalize l0[i] = x at hs hx0 hx1
        have HST := Aside0.mk hs
        clear hdr hA HA hrd hs
        go_upto_region 7 with (first | ((with_reducible refine gate_dst (N := 8) rfl ?_); refine box_event ?hg (N := 8) ?hd (cs := #[.int .i64 0, .int .i64 0]) (t := 69) ?hr ?_; (case hd => rfl); (case hg => rfl); (case hr => first | (go_simp; done) | (go_simp; rfl)); intro gx hg w2 hbox hb; have BX := Aside0.mk hbox; have HB2 := Aside0.mk (below_step HB.out hb); have HO2 := Aside0.mk (Kd.R_below HO.out hb); have BK2 := Aside0.mk (blk_below BK.out hb); have GX := Aside0.mk (show w.heap.size ≤ gx from by rw [hg]; exact below_size HB.out); clear hb hbox hg; clear HB HO BK; have hcz0 : w2.cell? ⟨gx, 0, none⟩ = some (.int .i64 0) := (blk_cell BX.out 0).trans rfl; have hcz1 : w2.cell? ⟨gx, 1, none⟩ = some (.int .i64 0) := (blk_cell BX.out 1).trans rfl; have hfz0 := blk_frozen BX.out 0; have hfz1 := blk_frozen BX.out 1))
        clear hcz0 hcz1 hfz0 hfz1 hx0 hx1
        have NX := Aside0.mk (blk_ne BK2.out BX.out (by decide))
        have BX3 := Aside0.mk (blk_put (cs' := #[.int .i64 x.f0, .int .i64 x.f1]) (blk_put (cs' := #[.int .i64 x.f0, .int .i64 0]) BX.out 0 (.int .i64 x.f0) rfl) 1 (.int .i64 x.f1) rfl)
        have BK := Aside0.mk (blk_far (p := ⟨gx, 1, none⟩) (blk_far (p := ⟨gx, 0, none⟩) BK2.out NX.out (.int .i64 x.f0)) NX.out (.int .i64 x.f1))
        have HO := Aside0.mk (Kd.R_set (Kd.R_set HO2.out BX.out (by decide) 0 (.int .i64 x.f0)) (blk_put (cs' := #[.int .i64 x.f0, .int .i64 0]) BX.out 0 (.int .i64 x.f0) rfl) (by decide) 1 (.int .i64 x.f1))
        have HB := Aside0.mk (below_set (j := 1) (v := .int .i64 x.f1) (below_set (j := 0) (v := .int .i64 x.f0) HB2.out GX.out) GX.out)
        clear BX HB2 HO2 BK2
        generalize (w2.setCell ⟨gx, 0, none⟩ (.int .i64 x.f0)).setCell ⟨gx, 1, none⟩ (.int .i64 x.f1) = W1 at BX3 BK HO HB ⊢
        have hx0 : W1.cell? ⟨gx, 0, none⟩ = some (.int .i64 x.f0) := (blk_cell BX3.out 0).trans rfl
        have hx1 : W1.cell? ⟨gx, 1, none⟩ = some (.int .i64 x.f1) := (blk_cell BX3.out 1).trans rfl
        have hs := HST.out
        clear HST BX3 NX GX
        unfold evl.step at hs
        by_cases k1 : x.f0 = 1
        · rw [if_pos k1] at hs
          have kb1 : (x.f0 == 1) = true := by rw [k1]; rfl
          have kb6 : (x.f0 == 6) = false := by rw [k1]; rfl
          have kb2 : (x.f0 == 2) = false := by rw [k1]; rfl
          have kb3 : (x.f0 == 3) = false := by rw [k1]; rfl
          have kb4 : (x.f0 == 4) = false := by rw [k1]; rfl
          have kb5 : (x.f0 == 5) = false := by rw [k1]; rfl
          by_cases kb : 0 ≤ x.f1 ∧ x.f1 < (bits.length : Int)
          · rw [if_pos kb] at hs
            obtain rfl := Option.some.inj hs
            have hcon := HBIT.out x.f1 W1 kb.1 kb.2 HB.out
            generalize hv : rdOf false bits x.f1 = v at hcon HA2 HS2
            clear hs kb hv k1
            go_wp2_with fail
            go_at_call 63
            refine hcon.mono ?_
            rintro e W2 ⟨rfl, hb⟩
            have BK3 := Aside0.mk (blk_below BK.out hb)
            have HO3 := Aside0.mk (Kd.R_below HO.out hb)
            have HB3 := Aside0.mk (below_step HB.out hb)
            clear hb hcon
            have hbc : W2.cell? ⟨gs, 0, none⟩ = some (.slice A st.length c) := (blk_cell BK3.out 0).trans rfl
            go_wp2_with (first | ((with_reducible refine gate_builtin (b := .append) (xs := #[.tmp 63, .tmp 65]) rfl ?_); at_builtin; refine Kd.R_append Kd.bool (w0 := w) w.heap.size rfl (.tmp 63) (.tmp 65) 42 4 (.bool false) 1 rfl Try.underlying42 info4 rfl (by decide) (by omega) _ (st) (v) [.bool (v)] (fun _ => True) (fun _ => False) rfl rfl ?aP (fun _ hk => hk.elim) ?aF ?aO ?aB ?aS ?aL ?_; (case aP => exact rfl); (case aB => exact HB3.out); (case aF => exact (fun _ _ => trivial)); (case aO => exact HO3.out); (case aS => exact (below_size HB3.out)); (case aL => have := HS.out; have := HN.out; have := HL.out; (try simp only [List.length_take]); omega); intro v153 w25 ho hb hg hat; obtain ⟨A5_, c5_, e5_⟩ := Kd.R_slice ho; generalize (st ++ [v]).length = n5_ at e5_; subst e5_; have HB5 := Aside0.mk hb; have HO5 := Aside0.mk ho; have BK5 := Aside0.mk (blk_grown BK3.out hg (Kd.R_ne HO3.out BK3.out (by decide))); clear ho hb hg hat; clear hbc; have hbc5 : w25.cell? ⟨gs, 0, none⟩ = some (.slice A st.length c) := (blk_cell BK5.out 0).trans rfl; have hbf5 := blk_frozen BK5.out 0))
            go_roundg m
            case measure => omega
            case rel => exact ⟨_, i + 1, _, (by first | rw [show wrap64 ((i : Int) + 1) = ((i + 1 : Nat) : Int) from by have := HL.out; have := HN.out; unfold wrap64; omega] | go_num), HA2, ⟨by have := HN.out; omega⟩, ⟨by have := HS.out; have := HS2.out; omega⟩, ⟨blk_put BK5.out 0 _ rfl⟩, ⟨Kd.R_set HO5.out BK5.out (by decide) 0 _⟩, ⟨below_set HB5.out GS.out⟩⟩
          · rw [if_neg kb] at hs
            exact absurd hs (by simp)
        · rw [if_neg k1] at hs
          by_cases k2 : x.f0 = 2
          · rw [if_pos k2] at hs
            have kb1 : (x.f0 == 1) = false := by rw [k2]; rfl
            have kb6 : (x.f0 == 6) = false := by rw [k2]; rfl
            have kb2 : (x.f0 == 2) = true := by rw [k2]; rfl
            have kb3 : (x.f0 == 3) = false := by rw [k2]; rfl
            have kb4 : (x.f0 == 4) = false := by rw [k2]; rfl
            have kb5 : (x.f0 == 5) = false := by rw [k2]; rfl
            by_cases kb : 1 ≤ st.length
            · rw [if_pos kb] at hs
              obtain rfl := Option.some.inj hs
              clear k1 k2
              obtain ⟨g, cap', e5, hgb, hgl, hgc⟩ := Kd.R_form HO.out (by omega)
              injection e5 with ea en ec
              subst ea ec
              clear en hgc hgb hgl
              have hcap := (Kd.R_reads' HO.out).2.1
              have hv1 := (Kd.R_celln false HO.out ((st.length - 1 : Nat) : Int) (by omega) (by omega)).1
              simp only [Int.toNat_natCast] at hv1
              generalize hv : rdOf false st ((st.length - 1 : Nat) : Int) = v at hv1 HA2 HS2
              have BK3 := Aside0.mk (blk_put (cs' := #[.slice (some ⟨g, 0, none⟩) (st.length - 1) c]) BK.out 0 (.slice (some ⟨g, 0, none⟩) (st.length - 1) c) rfl)
              have HO3 := Aside0.mk (Kd.R_set (Kd.R_take HO.out (show st.length - 1 ≤ st.length by omega)) BK.out (by decide) 0 (.slice (some ⟨g, 0, none⟩) (st.length - 1) c))
              have HB3 := Aside0.mk (below_set (j := 0) (v := .slice (some ⟨g, 0, none⟩) (st.length - 1) c) HB.out GS.out)
              have HL1 := Aside0.mk (show 1 ≤ st.length by omega)
              have HCAP := Aside0.mk hcap
              have HV1 := Aside0.mk hv1
              clear hs hv kb hcap hv1
              go_wp2_with fail
              go_at_call 71
              refine (impl_EvalLogic.pop gs g st.length c v W1 HL1.out (by have := HS.out; have := HN.out; have := HL.out; omega) HCAP.out BK.out HV1.out).mono ?_
              rintro e w' ⟨rfl, rfl⟩
              generalize hW2 : W1.setCell ⟨gs, 0, none⟩ (.slice (some ⟨g, 0, none⟩) (st.length - 1) c) = W2 at BK3 HO3 HB3 ⊢
              clear hW2
              have hbc : W2.cell? ⟨gs, 0, none⟩ = some (.slice (some ⟨g, 0, none⟩) (st.length - 1) c) := (blk_cell BK3.out 0).trans rfl
              go_wp2_with (first | ((with_reducible refine gate_builtin (b := .append) (xs := #[.tmp 63, .tmp 65]) rfl ?_); at_builtin; refine Kd.R_append Kd.bool (w0 := w) w.heap.size rfl (.tmp 63) (.tmp 65) 42 4 (.bool false) 1 rfl Try.underlying42 info4 rfl (by decide) (by omega) _ (st.take (st.length - 1)) (!v) [.bool (!v)] (fun _ => True) (fun _ => False) rfl rfl ?aP (fun _ hk => hk.elim) ?aF ?aO ?aB ?aS ?aL ?_; (case aP => exact rfl); (case aB => exact HB3.out); (case aF => exact (fun _ _ => trivial)); (case aO => exact HO3.out); (case aS => exact (below_size HB3.out)); (case aL => have := HS.out; have := HN.out; have := HL.out; (try simp only [List.length_take]); omega); intro v153 w25 ho hb hg hat; obtain ⟨A5_, c5_, e5_⟩ := Kd.R_slice ho; generalize (st.take (st.length - 1) ++ [!v]).length = n5_ at e5_; subst e5_; have HB5 := Aside0.mk hb; have HO5 := Aside0.mk ho; have BK5 := Aside0.mk (blk_grown BK3.out hg (Kd.R_ne HO3.out BK3.out (by decide))); clear ho hb hg hat; clear hbc; have hbc5 : w25.cell? ⟨gs, 0, none⟩ = some (.slice (some ⟨g, 0, none⟩) (st.length - 1) c) := (blk_cell BK5.out 0).trans rfl; have hbf5 := blk_frozen BK5.out 0))
              go_roundg m
              case measure => omega
              case rel => exact ⟨_, i + 1, _, (by first | rw [show wrap64 ((i : Int) + 1) = ((i + 1 : Nat) : Int) from by have := HL.out; have := HN.out; unfold wrap64; omega] | go_num), HA2, ⟨by have := HN.out; omega⟩, ⟨by have := HS.out; have := HS2.out; omega⟩, ⟨blk_put BK5.out 0 _ rfl⟩, ⟨Kd.R_set HO5.out BK5.out (by decide) 0 _⟩, ⟨below_set HB5.out GS.out⟩⟩
            · rw [if_neg kb] at hs
              exact absurd hs (by simp)
          · rw [if_neg k2] at hs
            by_cases k3 : x.f0 = 3
            · rw [if_pos k3] at hs
              have kb1 : (x.f0 == 1) = false := by rw [k3]; rfl
              have kb6 : (x.f0 == 6) = false := by rw [k3]; rfl
              have kb2 : (x.f0 == 2) = false := by rw [k3]; rfl
              have kb3 : (x.f0 == 3) = true := by rw [k3]; rfl
              have kb4 : (x.f0 == 4) = false := by rw [k3]; rfl
              have kb5 : (x.f0 == 5) = false := by rw [k3]; rfl
              by_cases kb : 2 ≤ st.length
              · rw [if_pos kb] at hs
                obtain rfl := Option.some.inj hs
                clear k1 k2 k3
                obtain ⟨g, cap', e5, hgb, hgl, hgc⟩ := Kd.R_form HO.out (by omega)
                injection e5 with ea en ec
                subst ea ec
                clear en hgc hgb hgl
                have hcap := (Kd.R_reads' HO.out).2.1
                have hv1 := (Kd.R_celln false HO.out ((st.length - 1 : Nat) : Int) (by omega) (by omega)).1
                have hu1 := (Kd.R_celln false HO.out ((st.length - 2 : Nat) : Int) (by omega) (by omega)).1
                simp only [Int.toNat_natCast] at hv1 hu1
                generalize hv : rdOf false st ((st.length - 1 : Nat) : Int) = v at hv1 HA2 HS2
                generalize hu : rdOf false st ((st.length - 2 : Nat) : Int) = u at hu1 HA2 HS2
                have BK3 := Aside0.mk (blk_put (cs' := #[.slice (some ⟨g, 0, none⟩) (st.length - 1) c]) BK.out 0 (.slice (some ⟨g, 0, none⟩) (st.length - 1) c) rfl)
                have HO3 := Aside0.mk (Kd.R_set (Kd.R_take HO.out (show st.length - 1 ≤ st.length by omega)) BK.out (by decide) 0 (.slice (some ⟨g, 0, none⟩) (st.length - 1) c))
                have HB3 := Aside0.mk (below_set (j := 0) (v := .slice (some ⟨g, 0, none⟩) (st.length - 1) c) HB.out GS.out)
                have hu2 : (W1.setCell ⟨gs, 0, none⟩ (.slice (some ⟨g, 0, none⟩) (st.length - 1) c)).cell? ⟨g, st.length - 1 - 1, none⟩ = some (.bool u) := (cell_far (p := ⟨gs, 0, none⟩) (a := ⟨g, st.length - 1 - 1, none⟩) (fun e => Kd.R_ne HO.out BK.out (by decide) (congrArg some (Eq.symm e))) _).trans hu1
                have BK4 := Aside0.mk (blk_put (cs' := #[.slice (some ⟨g, 0, none⟩) (st.length - 1 - 1) c]) BK3.out 0 (.slice (some ⟨g, 0, none⟩) (st.length - 1 - 1) c) rfl)
                have HO4 := Aside0.mk (Kd.R_set (Kd.R_take HO3.out (show st.length - 1 - 1 ≤ (st.take (st.length - 1)).length by simp only [List.length_take]; omega)) BK3.out (by decide) 0 (.slice (some ⟨g, 0, none⟩) (st.length - 1 - 1) c))
                have HO5_ := HO4.out
                rw [List.take_take, Nat.min_eq_left (by omega)] at HO5_
                clear HO4
                have HO4 := Aside0.mk HO5_
                clear HO5_
                have HB4 := Aside0.mk (below_set (j := 0) (v := .slice (some ⟨g, 0, none⟩) (st.length - 1 - 1) c) HB3.out GS.out)
                have HU2 := Aside0.mk hu2
                clear hu2
                have HL1 := Aside0.mk (show 1 ≤ st.length by omega)
                have HL2 := Aside0.mk (show 2 ≤ st.length by omega)
                have HCAP := Aside0.mk hcap
                have HV1 := Aside0.mk hv1
                clear hs hv kb hcap hv1 hu hu1
                go_wp2_with fail
                go_at_call 71
                refine (impl_EvalLogic.pop gs g st.length c v W1 HL1.out (by have := HS.out; have := HN.out; have := HL.out; omega) HCAP.out BK.out HV1.out).mono ?_
                rintro e w' ⟨rfl, rfl⟩
                generalize hW2 : W1.setCell ⟨gs, 0, none⟩ (.slice (some ⟨g, 0, none⟩) (st.length - 1) c) = W2 at BK3 HO3 HB3 BK4 HO4 HB4 HU2 ⊢
                clear hW2
                go_wp2_with fail
                go_at_call 71
                refine (impl_EvalLogic.pop gs g (st.length - 1) c u W2 (by have := HL2.out; omega) (by have := HS.out; have := HN.out; have := HL.out; omega) (by have := HCAP.out; omega) BK3.out HU2.out).mono ?_
                rintro e w' ⟨rfl, rfl⟩
                generalize hW3 : W2.setCell ⟨gs, 0, none⟩ (.slice (some ⟨g, 0, none⟩) (st.length - 1 - 1) c) = W3 at BK4 HO4 HB4 ⊢
                clear hW3
                try rw [show st.length - 2 = st.length - 1 - 1 by omega] at HA2 HS2
                cases u with
                | false =>
                  simp only [Bool.false_and] at HA2 HS2
                  have hbc : W3.cell? ⟨gs, 0, none⟩ = some (.slice (some ⟨g, 0, none⟩) (st.length - 1 - 1) c) := (blk_cell BK4.out 0).trans rfl
                  go_wp2_with (first | ((with_reducible refine gate_builtin (b := .append) (xs := #[.tmp 63, .tmp 65]) rfl ?_); at_builtin; refine Kd.R_append Kd.bool (w0 := w) w.heap.size rfl (.tmp 63) (.tmp 65) 42 4 (.bool false) 1 rfl Try.underlying42 info4 rfl (by decide) (by omega) _ (st.take (st.length - 1 - 1)) (false) [.bool (false)] (fun _ => True) (fun _ => False) rfl rfl ?aP (fun _ hk => hk.elim) ?aF ?aO ?aB ?aS ?aL ?_; (case aP => exact rfl); (case aB => exact HB4.out); (case aF => exact (fun _ _ => trivial)); (case aO => exact HO4.out); (case aS => exact (below_size HB4.out)); (case aL => have := HS.out; have := HN.out; have := HL.out; (try simp only [List.length_take]); omega); intro v153 w25 ho hb hg hat; obtain ⟨A5_, c5_, e5_⟩ := Kd.R_slice ho; generalize (st.take (st.length - 1 - 1) ++ [false]).length = n5_ at e5_; subst e5_; have HB5 := Aside0.mk hb; have HO5 := Aside0.mk ho; have BK5 := Aside0.mk (blk_grown BK4.out hg (Kd.R_ne HO4.out BK4.out (by decide))); clear ho hb hg hat; clear hbc; have hbc5 : w25.cell? ⟨gs, 0, none⟩ = some (.slice (some ⟨g, 0, none⟩) (st.length - 1 - 1) c) := (blk_cell BK5.out 0).trans rfl; have hbf5 := blk_frozen BK5.out 0))
                  go_roundg m
                  case measure => omega
                  case rel => exact ⟨_, i + 1, _, (by first | rw [show wrap64 ((i : Int) + 1) = ((i + 1 : Nat) : Int) from by have := HL.out; have := HN.out; unfold wrap64; omega] | go_num), HA2, ⟨by have := HN.out; omega⟩, ⟨by have := HS.out; have := HS2.out; omega⟩, ⟨blk_put BK5.out 0 _ rfl⟩, ⟨Kd.R_set HO5.out BK5.out (by decide) 0 _⟩, ⟨below_set HB5.out GS.out⟩⟩
                | true =>
                  simp only [Bool.true_and] at HA2 HS2
                  have hbc : W3.cell? ⟨gs, 0, none⟩ = some (.slice (some ⟨g, 0, none⟩) (st.length - 1 - 1) c) := (blk_cell BK4.out 0).trans rfl
                  go_wp2_with (first | ((with_reducible refine gate_builtin (b := .append) (xs := #[.tmp 63, .tmp 65]) rfl ?_); at_builtin; refine Kd.R_append Kd.bool (w0 := w) w.heap.size rfl (.tmp 63) (.tmp 65) 42 4 (.bool false) 1 rfl Try.underlying42 info4 rfl (by decide) (by omega) _ (st.take (st.length - 1 - 1)) (v) [.bool (v)] (fun _ => True) (fun _ => False) rfl rfl ?aP (fun _ hk => hk.elim) ?aF ?aO ?aB ?aS ?aL ?_; (case aP => exact rfl); (case aB => exact HB4.out); (case aF => exact (fun _ _ => trivial)); (case aO => exact HO4.out); (case aS => exact (below_size HB4.out)); (case aL => have := HS.out; have := HN.out; have := HL.out; (try simp only [List.length_take]); omega); intro v153 w25 ho hb hg hat; obtain ⟨A5_, c5_, e5_⟩ := Kd.R_slice ho; generalize (st.take (st.length - 1 - 1) ++ [v]).length = n5_ at e5_; subst e5_; have HB5 := Aside0.mk hb; have HO5 := Aside0.mk ho; have BK5 := Aside0.mk (blk_grown BK4.out hg (Kd.R_ne HO4.out BK4.out (by decide))); clear ho hb hg hat; clear hbc; have hbc5 : w25.cell? ⟨gs, 0, none⟩ = some (.slice (some ⟨g, 0, none⟩) (st.length - 1 - 1) c) := (blk_cell BK5.out 0).trans rfl; have hbf5 := blk_frozen BK5.out 0))
                  go_roundg m
                  case measure => omega
                  case rel => exact ⟨_, i + 1, _, (by first | rw [show wrap64 ((i : Int) + 1) = ((i + 1 : Nat) : Int) from by have := HL.out; have := HN.out; unfold wrap64; omega] | go_num), HA2, ⟨by have := HN.out; omega⟩, ⟨by have := HS.out; have := HS2.out; omega⟩, ⟨blk_put BK5.out 0 _ rfl⟩, ⟨Kd.R_set HO5.out BK5.out (by decide) 0 _⟩, ⟨below_set HB5.out GS.out⟩⟩
              · rw [if_neg kb] at hs
                exact absurd hs (by simp)
            · rw [if_neg k3] at hs
              by_cases k4 : x.f0 = 4
              · rw [if_pos k4] at hs
                have kb1 : (x.f0 == 1) = false := by rw [k4]; rfl
                have kb6 : (x.f0 == 6) = false := by rw [k4]; rfl
                have kb2 : (x.f0 == 2) = false := by rw [k4]; rfl
                have kb3 : (x.f0 == 3) = false := by rw [k4]; rfl
                have kb4 : (x.f0 == 4) = true := by rw [k4]; rfl
                have kb5 : (x.f0 == 5) = false := by rw [k4]; rfl
                by_cases kb : 2 ≤ st.length
                · rw [if_pos kb] at hs
                  obtain rfl := Option.some.inj hs
                  clear k1 k2 k3 k4
                  obtain ⟨g, cap', e5, hgb, hgl, hgc⟩ := Kd.R_form HO.out (by omega)
                  injection e5 with ea en ec
                  subst ea ec
                  clear en hgc hgb hgl
                  have hcap := (Kd.R_reads' HO.out).2.1
                  have hv1 := (Kd.R_celln false HO.out ((st.length - 1 : Nat) : Int) (by omega) (by omega)).1
                  have hu1 := (Kd.R_celln false HO.out ((st.length - 2 : Nat) : Int) (by omega) (by omega)).1
                  simp only [Int.toNat_natCast] at hv1 hu1
                  generalize hv : rdOf false st ((st.length - 1 : Nat) : Int) = v at hv1 HA2 HS2
                  generalize hu : rdOf false st ((st.length - 2 : Nat) : Int) = u at hu1 HA2 HS2
                  have BK3 := Aside0.mk (blk_put (cs' := #[.slice (some ⟨g, 0, none⟩) (st.length - 1) c]) BK.out 0 (.slice (some ⟨g, 0, none⟩) (st.length - 1) c) rfl)
                  have HO3 := Aside0.mk (Kd.R_set (Kd.R_take HO.out (show st.length - 1 ≤ st.length by omega)) BK.out (by decide) 0 (.slice (some ⟨g, 0, none⟩) (st.length - 1) c))
                  have HB3 := Aside0.mk (below_set (j := 0) (v := .slice (some ⟨g, 0, none⟩) (st.length - 1) c) HB.out GS.out)
                  have hu2 : (W1.setCell ⟨gs, 0, none⟩ (.slice (some ⟨g, 0, none⟩) (st.length - 1) c)).cell? ⟨g, st.length - 1 - 1, none⟩ = some (.bool u) := (cell_far (p := ⟨gs, 0, none⟩) (a := ⟨g, st.length - 1 - 1, none⟩) (fun e => Kd.R_ne HO.out BK.out (by decide) (congrArg some (Eq.symm e))) _).trans hu1
                  have BK4 := Aside0.mk (blk_put (cs' := #[.slice (some ⟨g, 0, none⟩) (st.length - 1 - 1) c]) BK3.out 0 (.slice (some ⟨g, 0, none⟩) (st.length - 1 - 1) c) rfl)
                  have HO4 := Aside0.mk (Kd.R_set (Kd.R_take HO3.out (show st.length - 1 - 1 ≤ (st.take (st.length - 1)).length by simp only [List.length_take]; omega)) BK3.out (by decide) 0 (.slice (some ⟨g, 0, none⟩) (st.length - 1 - 1) c))
                  have HO5_ := HO4.out
                  rw [List.take_take, Nat.min_eq_left (by omega)] at HO5_
                  clear HO4
                  have HO4 := Aside0.mk HO5_
                  clear HO5_
                  have HB4 := Aside0.mk (below_set (j := 0) (v := .slice (some ⟨g, 0, none⟩) (st.length - 1 - 1) c) HB3.out GS.out)
                  have HU2 := Aside0.mk hu2
                  clear hu2
                  have HL1 := Aside0.mk (show 1 ≤ st.length by omega)
                  have HL2 := Aside0.mk (show 2 ≤ st.length by omega)
                  have HCAP := Aside0.mk hcap
                  have HV1 := Aside0.mk hv1
                  clear hs hv kb hcap hv1 hu hu1
                  go_wp2_with fail
                  go_at_call 71
                  refine (impl_EvalLogic.pop gs g st.length c v W1 HL1.out (by have := HS.out; have := HN.out; have := HL.out; omega) HCAP.out BK.out HV1.out).mono ?_
                  rintro e w' ⟨rfl, rfl⟩
                  generalize hW2 : W1.setCell ⟨gs, 0, none⟩ (.slice (some ⟨g, 0, none⟩) (st.length - 1) c) = W2 at BK3 HO3 HB3 BK4 HO4 HB4 HU2 ⊢
                  clear hW2
                  go_wp2_with fail
                  go_at_call 71
                  refine (impl_EvalLogic.pop gs g (st.length - 1) c u W2 (by have := HL2.out; omega) (by have := HS.out; have := HN.out; have := HL.out; omega) (by have := HCAP.out; omega) BK3.out HU2.out).mono ?_
                  rintro e w' ⟨rfl, rfl⟩
                  generalize hW3 : W2.setCell ⟨gs, 0, none⟩ (.slice (some ⟨g, 0, none⟩) (st.length - 1 - 1) c) = W3 at BK4 HO4 HB4 ⊢
                  clear hW3
                  try rw [show st.length - 2 = st.length - 1 - 1 by omega] at HA2 HS2
                  cases u with
                  | false =>
                    simp only [Bool.false_or] at HA2 HS2
                    have hbc : W3.cell? ⟨gs, 0, none⟩ = some (.slice (some ⟨g, 0, none⟩) (st.length - 1 - 1) c) := (blk_cell BK4.out 0).trans rfl
                    go_wp2_with (first | ((with_reducible refine gate_builtin (b := .append) (xs := #[.tmp 63, .tmp 65]) rfl ?_); at_builtin; refine Kd.R_append Kd.bool (w0 := w) w.heap.size rfl (.tmp 63) (.tmp 65) 42 4 (.bool false) 1 rfl Try.underlying42 info4 rfl (by decide) (by omega) _ (st.take (st.length - 1 - 1)) (v) [.bool (v)] (fun _ => True) (fun _ => False) rfl rfl ?aP (fun _ hk => hk.elim) ?aF ?aO ?aB ?aS ?aL ?_; (case aP => exact rfl); (case aB => exact HB4.out); (case aF => exact (fun _ _ => trivial)); (case aO => exact HO4.out); (case aS => exact (below_size HB4.out)); (case aL => have := HS.out; have := HN.out; have := HL.out; (try simp only [List.length_take]); omega); intro v153 w25 ho hb hg hat; obtain ⟨A5_, c5_, e5_⟩ := Kd.R_slice ho; generalize (st.take (st.length - 1 - 1) ++ [v]).length = n5_ at e5_; subst e5_; have HB5 := Aside0.mk hb; have HO5 := Aside0.mk ho; have BK5 := Aside0.mk (blk_grown BK4.out hg (Kd.R_ne HO4.out BK4.out (by decide))); clear ho hb hg hat; clear hbc; have hbc5 : w25.cell? ⟨gs, 0, none⟩ = some (.slice (some ⟨g, 0, none⟩) (st.length - 1 - 1) c) := (blk_cell BK5.out 0).trans rfl; have hbf5 := blk_frozen BK5.out 0))
                    go_roundg m
                    case measure => omega
                    case rel => exact ⟨_, i + 1, _, (by first | rw [show wrap64 ((i : Int) + 1) = ((i + 1 : Nat) : Int) from by have := HL.out; have := HN.out; unfold wrap64; omega] | go_num), HA2, ⟨by have := HN.out; omega⟩, ⟨by have := HS.out; have := HS2.out; omega⟩, ⟨blk_put BK5.out 0 _ rfl⟩, ⟨Kd.R_set HO5.out BK5.out (by decide) 0 _⟩, ⟨below_set HB5.out GS.out⟩⟩
                  | true =>
                    simp only [Bool.true_or] at HA2 HS2
                    have hbc : W3.cell? ⟨gs, 0, none⟩ = some (.slice (some ⟨g, 0, none⟩) (st.length - 1 - 1) c) := (blk_cell BK4.out 0).trans rfl
                    go_wp2_with (first | ((with_reducible refine gate_builtin (b := .append) (xs := #[.tmp 63, .tmp 65]) rfl ?_); at_builtin; refine Kd.R_append Kd.bool (w0 := w) w.heap.size rfl (.tmp 63) (.tmp 65) 42 4 (.bool false) 1 rfl Try.underlying42 info4 rfl (by decide) (by omega) _ (st.take (st.length - 1 - 1)) (true) [.bool (true)] (fun _ => True) (fun _ => False) rfl rfl ?aP (fun _ hk => hk.elim) ?aF ?aO ?aB ?aS ?aL ?_; (case aP => exact rfl); (case aB => exact HB4.out); (case aF => exact (fun _ _ => trivial)); (case aO => exact HO4.out); (case aS => exact (below_size HB4.out)); (case aL => have := HS.out; have := HN.out; have := HL.out; (try simp only [List.length_take]); omega); intro v153 w25 ho hb hg hat; obtain ⟨A5_, c5_, e5_⟩ := Kd.R_slice ho; generalize (st.take (st.length - 1 - 1) ++ [true]).length = n5_ at e5_; subst e5_; have HB5 := Aside0.mk hb; have HO5 := Aside0.mk ho; have BK5 := Aside0.mk (blk_grown BK4.out hg (Kd.R_ne HO4.out BK4.out (by decide))); clear ho hb hg hat; clear hbc; have hbc5 : w25.cell? ⟨gs, 0, none⟩ = some (.slice (some ⟨g, 0, none⟩) (st.length - 1 - 1) c) := (blk_cell BK5.out 0).trans rfl; have hbf5 := blk_frozen BK5.out 0))
                    go_roundg m
                    case measure => omega
                    case rel => exact ⟨_, i + 1, _, (by first | rw [show wrap64 ((i : Int) + 1) = ((i + 1 : Nat) : Int) from by have := HL.out; have := HN.out; unfold wrap64; omega] | go_num), HA2, ⟨by have := HN.out; omega⟩, ⟨by have := HS.out; have := HS2.out; omega⟩, ⟨blk_put BK5.out 0 _ rfl⟩, ⟨Kd.R_set HO5.out BK5.out (by decide) 0 _⟩, ⟨below_set HB5.out GS.out⟩⟩
                · rw [if_neg kb] at hs
                  exact absurd hs (by simp)
              · rw [if_neg k4] at hs
                by_cases k5 : x.f0 = 5
                · rw [if_pos k5] at hs
                  have kb1 : (x.f0 == 1) = false := by rw [k5]; rfl
                  have kb6 : (x.f0 == 6) = false := by rw [k5]; rfl
                  have kb2 : (x.f0 == 2) = false := by rw [k5]; rfl
                  have kb3 : (x.f0 == 3) = false := by rw [k5]; rfl
                  have kb4 : (x.f0 == 4) = false := by rw [k5]; rfl
                  have kb5 : (x.f0 == 5) = true := by rw [k5]; rfl
                  by_cases kb : 2 ≤ st.length
                  · rw [if_pos kb] at hs
                    obtain rfl := Option.some.inj hs
                    clear k1 k2 k3 k4 k5
                    obtain ⟨g, cap', e5, hgb, hgl, hgc⟩ := Kd.R_form HO.out (by omega)
                    injection e5 with ea en ec
                    subst ea ec
                    clear en hgc hgb hgl
                    have hcap := (Kd.R_reads' HO.out).2.1
                    have hv1 := (Kd.R_celln false HO.out ((st.length - 1 : Nat) : Int) (by omega) (by omega)).1
                    have hu1 := (Kd.R_celln false HO.out ((st.length - 2 : Nat) : Int) (by omega) (by omega)).1
                    simp only [Int.toNat_natCast] at hv1 hu1
                    generalize hv : rdOf false st ((st.length - 1 : Nat) : Int) = v at hv1 HA2 HS2
                    generalize hu : rdOf false st ((st.length - 2 : Nat) : Int) = u at hu1 HA2 HS2
                    have BK3 := Aside0.mk (blk_put (cs' := #[.slice (some ⟨g, 0, none⟩) (st.length - 1) c]) BK.out 0 (.slice (some ⟨g, 0, none⟩) (st.length - 1) c) rfl)
                    have HO3 := Aside0.mk (Kd.R_set (Kd.R_take HO.out (show st.length - 1 ≤ st.length by omega)) BK.out (by decide) 0 (.slice (some ⟨g, 0, none⟩) (st.length - 1) c))
                    have HB3 := Aside0.mk (below_set (j := 0) (v := .slice (some ⟨g, 0, none⟩) (st.length - 1) c) HB.out GS.out)
                    have hu2 : (W1.setCell ⟨gs, 0, none⟩ (.slice (some ⟨g, 0, none⟩) (st.length - 1) c)).cell? ⟨g, st.length - 1 - 1, none⟩ = some (.bool u) := (cell_far (p := ⟨gs, 0, none⟩) (a := ⟨g, st.length - 1 - 1, none⟩) (fun e => Kd.R_ne HO.out BK.out (by decide) (congrArg some (Eq.symm e))) _).trans hu1
                    have BK4 := Aside0.mk (blk_put (cs' := #[.slice (some ⟨g, 0, none⟩) (st.length - 1 - 1) c]) BK3.out 0 (.slice (some ⟨g, 0, none⟩) (st.length - 1 - 1) c) rfl)
                    have HO4 := Aside0.mk (Kd.R_set (Kd.R_take HO3.out (show st.length - 1 - 1 ≤ (st.take (st.length - 1)).length by simp only [List.length_take]; omega)) BK3.out (by decide) 0 (.slice (some ⟨g, 0, none⟩) (st.length - 1 - 1) c))
                    have HO5_ := HO4.out
                    rw [List.take_take, Nat.min_eq_left (by omega)] at HO5_
                    clear HO4
                    have HO4 := Aside0.mk HO5_
                    clear HO5_
                    have HB4 := Aside0.mk (below_set (j := 0) (v := .slice (some ⟨g, 0, none⟩) (st.length - 1 - 1) c) HB3.out GS.out)
                    have HU2 := Aside0.mk hu2
                    clear hu2
                    have HL1 := Aside0.mk (show 1 ≤ st.length by omega)
                    have HL2 := Aside0.mk (show 2 ≤ st.length by omega)
                    have HCAP := Aside0.mk hcap
                    have HV1 := Aside0.mk hv1
                    clear hs hv kb hcap hv1 hu hu1
                    go_wp2_with fail
                    go_at_call 71
                    refine (impl_EvalLogic.pop gs g st.length c v W1 HL1.out (by have := HS.out; have := HN.out; have := HL.out; omega) HCAP.out BK.out HV1.out).mono ?_
                    rintro e w' ⟨rfl, rfl⟩
                    generalize hW2 : W1.setCell ⟨gs, 0, none⟩ (.slice (some ⟨g, 0, none⟩) (st.length - 1) c) = W2 at BK3 HO3 HB3 BK4 HO4 HB4 HU2 ⊢
                    clear hW2
                    go_wp2_with fail
                    go_at_call 71
                    refine (impl_EvalLogic.pop gs g (st.length - 1) c u W2 (by have := HL2.out; omega) (by have := HS.out; have := HN.out; have := HL.out; omega) (by have := HCAP.out; omega) BK3.out HU2.out).mono ?_
                    rintro e w' ⟨rfl, rfl⟩
                    generalize hW3 : W2.setCell ⟨gs, 0, none⟩ (.slice (some ⟨g, 0, none⟩) (st.length - 1 - 1) c) = W3 at BK4 HO4 HB4 ⊢
                    clear hW3
                    try rw [show st.length - 2 = st.length - 1 - 1 by omega] at HA2 HS2
                    rw [show (u != v) = (v != u) by cases u <;> cases v <;> rfl] at HA2 HS2
                    have hbc : W3.cell? ⟨gs, 0, none⟩ = some (.slice (some ⟨g, 0, none⟩) (st.length - 1 - 1) c) := (blk_cell BK4.out 0).trans rfl
                    go_wp2_with (first | ((with_reducible refine gate_builtin (b := .append) (xs := #[.tmp 63, .tmp 65]) rfl ?_); at_builtin; refine Kd.R_append Kd.bool (w0 := w) w.heap.size rfl (.tmp 63) (.tmp 65) 42 4 (.bool false) 1 rfl Try.underlying42 info4 rfl (by decide) (by omega) _ (st.take (st.length - 1 - 1)) (v != u) [.bool (v != u)] (fun _ => True) (fun _ => False) rfl rfl ?aP (fun _ hk => hk.elim) ?aF ?aO ?aB ?aS ?aL ?_; (case aP => exact rfl); (case aB => exact HB4.out); (case aF => exact (fun _ _ => trivial)); (case aO => exact HO4.out); (case aS => exact (below_size HB4.out)); (case aL => have := HS.out; have := HN.out; have := HL.out; (try simp only [List.length_take]); omega); intro v153 w25 ho hb hg hat; obtain ⟨A5_, c5_, e5_⟩ := Kd.R_slice ho; generalize (st.take (st.length - 1 - 1) ++ [v != u]).length = n5_ at e5_; subst e5_; have HB5 := Aside0.mk hb; have HO5 := Aside0.mk ho; have BK5 := Aside0.mk (blk_grown BK4.out hg (Kd.R_ne HO4.out BK4.out (by decide))); clear ho hb hg hat; clear hbc; have hbc5 : w25.cell? ⟨gs, 0, none⟩ = some (.slice (some ⟨g, 0, none⟩) (st.length - 1 - 1) c) := (blk_cell BK5.out 0).trans rfl; have hbf5 := blk_frozen BK5.out 0))
                    go_roundg m
                    case measure => omega
                    case rel => exact ⟨_, i + 1, _, (by first | rw [show wrap64 ((i : Int) + 1) = ((i + 1 : Nat) : Int) from by have := HL.out; have := HN.out; unfold wrap64; omega] | go_num), HA2, ⟨by have := HN.out; omega⟩, ⟨by have := HS.out; have := HS2.out; omega⟩, ⟨blk_put BK5.out 0 _ rfl⟩, ⟨Kd.R_set HO5.out BK5.out (by decide) 0 _⟩, ⟨below_set HB5.out GS.out⟩⟩
                  · rw [if_neg kb] at hs
                    exact absurd hs (by simp)
                · rw [if_neg k5] at hs
                  obtain rfl := Option.some.inj hs
                  clear hs
                  have n1 := k1
                  have n2 := k2
                  have n3 := k3
                  have n4 := k4
                  have n5 := k5
                  by_cases k6 : x.f0 = 6
                  · clear k1 k2 k3 k4 k5 n1 n2 n3 n4 n5
                    have kb1 : (x.f0 == 1) = false := by rw [k6]; rfl
                    have kb6 : (x.f0 == 6) = true := by rw [k6]; rfl
                    have kb2 : (x.f0 == 2) = false := by rw [k6]; rfl
                    have kb3 : (x.f0 == 3) = false := by rw [k6]; rfl
                    have kb4 : (x.f0 == 4) = false := by rw [k6]; rfl
                    have kb5 : (x.f0 == 5) = false := by rw [k6]; rfl
                    rw [kb6] at HA2 HS2
                    clear k6
                    have hbc : W1.cell? ⟨gs, 0, none⟩ = some (.slice A st.length c) := (blk_cell BK.out 0).trans rfl
                    go_wp2_with (first | ((with_reducible refine gate_builtin (b := .append) (xs := #[.tmp 63, .tmp 65]) rfl ?_); at_builtin; refine Kd.R_append Kd.bool (w0 := w) w.heap.size rfl (.tmp 63) (.tmp 65) 42 4 (.bool false) 1 rfl Try.underlying42 info4 rfl (by decide) (by omega) _ (st) (true) [.bool (true)] (fun _ => True) (fun _ => False) rfl rfl ?aP (fun _ hk => hk.elim) ?aF ?aO ?aB ?aS ?aL ?_; (case aP => exact rfl); (case aB => exact HB.out); (case aF => exact (fun _ _ => trivial)); (case aO => exact HO.out); (case aS => exact (below_size HB.out)); (case aL => have := HS.out; have := HN.out; have := HL.out; (try simp only [List.length_take]); omega); intro v153 w25 ho hb hg hat; obtain ⟨A5_, c5_, e5_⟩ := Kd.R_slice ho; generalize (st ++ [true]).length = n5_ at e5_; subst e5_; have HB5 := Aside0.mk hb; have HO5 := Aside0.mk ho; have BK5 := Aside0.mk (blk_grown BK.out hg (Kd.R_ne HO.out BK.out (by decide))); clear ho hb hg hat; clear hbc; have hbc5 : w25.cell? ⟨gs, 0, none⟩ = some (.slice A st.length c) := (blk_cell BK5.out 0).trans rfl; have hbf5 := blk_frozen BK5.out 0))
                    go_roundg m
                    case measure => omega
                    case rel => exact ⟨_, i + 1, _, (by first | rw [show wrap64 ((i : Int) + 1) = ((i + 1 : Nat) : Int) from by have := HL.out; have := HN.out; unfold wrap64; omega] | go_num), HA2, ⟨by have := HN.out; omega⟩, ⟨by have := HS.out; have := HS2.out; omega⟩, ⟨blk_put BK5.out 0 _ rfl⟩, ⟨Kd.R_set HO5.out BK5.out (by decide) 0 _⟩, ⟨below_set HB5.out GS.out⟩⟩
                  · have n6 := k6
                    have kb1 : (x.f0 == 1) = false := beq_eq_false_iff_ne.mpr n1
                    have kb6 : (x.f0 == 6) = false := beq_eq_false_iff_ne.mpr n6
                    have kb2 : (x.f0 == 2) = false := beq_eq_false_iff_ne.mpr n2
                    have kb3 : (x.f0 == 3) = false := beq_eq_false_iff_ne.mpr n3
                    have kb4 : (x.f0 == 4) = false := beq_eq_false_iff_ne.mpr n4
                    have kb5 : (x.f0 == 5) = false := beq_eq_false_iff_ne.mpr n5
                    rw [kb6] at HA2 HS2
                    clear k1 k2 k3 k4 k5 k6 n1 n2 n3 n4 n5 n6
                    have hbc : W1.cell? ⟨gs, 0, none⟩ = some (.slice A st.length c) := (blk_cell BK.out 0).trans rfl
                    go_wp2_with (first | ((with_reducible refine gate_builtin (b := .append) (xs := #[.tmp 63, .tmp 65]) rfl ?_); at_builtin; refine Kd.R_append Kd.bool (w0 := w) w.heap.size rfl (.tmp 63) (.tmp 65) 42 4 (.bool false) 1 rfl Try.underlying42 info4 rfl (by decide) (by omega) _ (st) (false) [.bool (false)] (fun _ => True) (fun _ => False) rfl rfl ?aP (fun _ hk => hk.elim) ?aF ?aO ?aB ?aS ?aL ?_; (case aP => exact rfl); (case aB => exact HB.out); (case aF => exact (fun _ _ => trivial)); (case aO => exact HO.out); (case aS => exact (below_size HB.out)); (case aL => have := HS.out; have := HN.out; have := HL.out; (try simp only [List.length_take]); omega); intro v153 w25 ho hb hg hat; obtain ⟨A5_, c5_, e5_⟩ := Kd.R_slice ho; generalize (st ++ [false]).length = n5_ at e5_; subst e5_; have HB5 := Aside0.mk hb; have HO5 := Aside0.mk ho; have BK5 := Aside0.mk (blk_grown BK.out hg (Kd.R_ne HO.out BK.out (by decide))); clear ho hb hg hat; clear hbc; have hbc5 : w25.cell? ⟨gs, 0, none⟩ = some (.slice A st.length c) := (blk_cell BK5.out 0).trans rfl; have hbf5 := blk_frozen BK5.out 0))
                    go_roundg m
                    case measure => omega
                    case rel => exact ⟨_, i + 1, _, (by first | rw [show wrap64 ((i : Int) + 1) = ((i + 1 : Nat) : Int) from by have := HL.out; have := HN.out; unfold wrap64; omega] | go_num), HA2, ⟨by have := HN.out; omega⟩, ⟨by have := HS.out; have := HS2.out; omega⟩, ⟨blk_put BK5.out 0 _ rfl⟩, ⟨Kd.R_set HO5.out BK5.out (by decide) 0 _⟩, ⟨below_set HB5.out GS.out⟩⟩
  · rw [if_neg hb] at h
    exact absurd h (by simp)
/-- The closure reads a bit of the image. -/
theorem impl_EvalLogic.clos (gm : Nat) (A0 : Option Addr) (c0 : Nat) (l : List Bool) (v1 : Value) (n : Int) (w : World) (h0 : 0 ≤ n) (h1 : n < (l.length : Int)) (hC : Kd.C Kd.bool w A0 l.length l) (hbox : w.heap[gm]? = some (.cells #[.slice A0 l.length c0, v1] 52 (0, 0))) :
    Calls Try.prog 63 #[.int .i64 n, .pointer (some ⟨gm, 0, none⟩)] w fun e w' => e = .returned (.bool (rdOf false l n)) ∧ Below w.heap.size w w' := by
  have hu := Try.underlying52
  have hc : w.cell? ⟨gm, 0, none⟩ = some (.slice A0 l.length c0) := (blk_cell hbox 0).trans rfl
  obtain ⟨ad, e1, hx⟩ := Kd.at_bool hC n h0 h1
  subst e1
  generalize rdOf false l n = v at hx ⊢
  clear hbox hC
  go_enter Try.func63, Try.ntmps63
  go_wp2
  go_ret
  exact ⟨rfl, Below.refl _ _⟩
def impl_EvalLogic.f (k : Nat) (l0 : List Bool) (l1 : List Int) (l2 : List S69) : Option Bool :=
  (impl_ImageValid.f l0 l1).bind fun b => if b = true then (impl_LogicValid.f k l2 (l0.length : Int)).bind fun c => (if c = true then evl.val l0 l2 else some false) else some false
theorem impl_EvalLogic.mono : ∀ a0 a1 a2 k, LeO (impl_EvalLogic.f k a0 a1 a2) (impl_EvalLogic.f (k + 1) a0 a1 a2) := by
  intro a0 a1 a2 k
  unfold impl_EvalLogic.f
  refine LeO.bind (LeO.refl _) (fun b => LeO.ite (LeO.bind (impl_LogicValid.mono _ _ _) (fun _ => LeO.refl _)) (LeO.refl _))
set_option maxHeartbeats 8000000 in
set_option maxRecDepth 100000 in
theorem impl_EvalLogic.calls (k : Nat) (A0_0 : Option Addr) (c0_0 : Nat) (l0_0 : List Bool) (A0_1 : Option Addr) (c0_1 : Nat) (l0_1 : List Int) (A1 : Option Addr) (c1 : Nat) (l1 : List S69) (r : Bool) (w : World) (hr0_0 : Kd.C Kd.bool w A0_0 l0_0.length l0_0) (hc0_0 : l0_0.length ≤ c0_0) (hr0_1 : Kd.C (Kd.int .i64) w A0_1 l0_1.length l0_1) (hc0_1 : l0_1.length ≤ c0_1) (hr1 : Kd.C k69 w A1 l1.length l1) (hc1 : l1.length ≤ c1) (h : impl_EvalLogic.f k l0_0 l0_1 l1 = some r) :
    Calls Try.prog 36 #[.agg #[.slice A0_0 l0_0.length c0_0, .slice A0_1 l0_1.length c0_1], .slice A1 l1.length c1] w fun e w' => e = .returned (.bool r) ∧ Below w.heap.size w w' := by
  have hu := Try.underlying52
  have R0 := Aside0.mk hr0_0
  have R1 := Aside0.mk hr0_1
  have R2 := Aside0.mk hr1
  have C0 := Aside0.mk hc0_0
  have C1 := Aside0.mk hc0_1
  have C2 := Aside0.mk hc1
  unfold impl_EvalLogic.f at h
  obtain ⟨b, hb, h⟩ := Option.bind_eq_some_iff.mp h
  have HB := Aside0.mk hb
  clear hr0_0 hr0_1 hr1 hc0_0 hc0_1 hc1 hb
  cases b with
  | false =>
    rw [if_neg (by decide)] at h
    obtain rfl := Option.some.inj h
    clear h
    go_enter Try.func36, Try.ntmps36
    go_wp2_with (first | ((with_reducible refine gate_dst (N := 2) rfl ?_); refine box_event ?hg (N := 2) ?hd (cs := #[.slice A0_0 l0_0.length c0_0, .slice A0_1 l0_1.length c0_1]) (t := 52) ?hr ?_; (case hd => rfl); (case hg => rfl); (case hr => first | (go_simp; done) | (go_simp; rfl)); intro gm hg wb hbox hb; have K1 := Aside0.mk hbox; have B1 := Aside0.mk hb; clear hb hbox hg; have hm0 : wb.cell? ⟨gm, 0, none⟩ = some (.slice A0_0 l0_0.length c0_0) := (blk_cell K1.out 0).trans rfl; have hm1 : wb.cell? ⟨gm, 1, none⟩ = some (.slice A0_1 l0_1.length c0_1) := (blk_cell K1.out 1).trans rfl) | (go_at_call 61; refine (impl_ImageValid.calls A0_0 c0_0 l0_0 A0_1 c0_1 l0_1 false wb (Kd.C_below R0.out B1.out) C0.out (Kd.C_below R1.out B1.out) C1.out HB.out).mono ?_; rintro e w2 ⟨rfl, hb⟩; have K2 := Aside0.mk (blk_below K1.out hb); have B2 := Aside0.mk (below_step B1.out hb); clear hb hm0 hm1; have hm0 : w2.cell? ⟨gm, 0, none⟩ = some (.slice A0_0 l0_0.length c0_0) := (blk_cell K2.out 0).trans rfl))
    go_ret
    exact ⟨rfl, B2.out⟩
  | true =>
    rw [if_pos rfl] at h
    obtain ⟨c, hc, h⟩ := Option.bind_eq_some_iff.mp h
    have HC := Aside0.mk hc
    clear hc
    cases c with
    | false =>
      rw [if_neg (by decide)] at h
      obtain rfl := Option.some.inj h
      clear h
      go_enter Try.func36, Try.ntmps36
      go_wp2_with (first | ((with_reducible refine gate_dst (N := 2) rfl ?_); refine box_event ?hg (N := 2) ?hd (cs := #[.slice A0_0 l0_0.length c0_0, .slice A0_1 l0_1.length c0_1]) (t := 52) ?hr ?_; (case hd => rfl); (case hg => rfl); (case hr => first | (go_simp; done) | (go_simp; rfl)); intro gm hg wb hbox hb; have K1 := Aside0.mk hbox; have B1 := Aside0.mk hb; clear hb hbox hg; have hm0 : wb.cell? ⟨gm, 0, none⟩ = some (.slice A0_0 l0_0.length c0_0) := (blk_cell K1.out 0).trans rfl; have hm1 : wb.cell? ⟨gm, 1, none⟩ = some (.slice A0_1 l0_1.length c0_1) := (blk_cell K1.out 1).trans rfl) | (go_at_call 61; refine (impl_ImageValid.calls A0_0 c0_0 l0_0 A0_1 c0_1 l0_1 true wb (Kd.C_below R0.out B1.out) C0.out (Kd.C_below R1.out B1.out) C1.out HB.out).mono ?_; rintro e w2 ⟨rfl, hb⟩; have K2 := Aside0.mk (blk_below K1.out hb); have B2 := Aside0.mk (below_step B1.out hb); clear hb hm0 hm1; have hm0 : w2.cell? ⟨gm, 0, none⟩ = some (.slice A0_0 l0_0.length c0_0) := (blk_cell K2.out 0).trans rfl) | (go_at_call 49; refine (impl_LogicValid.calls k A1 c1 l1 (l0_0.length : Int) false w2 (Kd.C_below R2.out B2.out) C2.out HC.out).mono ?_; rintro e w3 ⟨rfl, hb⟩; have K3 := Aside0.mk (blk_below K2.out hb); have B3 := Aside0.mk (below_step B2.out hb); clear hb hm0))
      go_ret
      exact ⟨rfl, B3.out⟩
    | true =>
      rw [if_pos rfl] at h
      have HV := Aside0.mk h
      clear h
      go_enter Try.func36, Try.ntmps36
      go_wp2_with (first | ((with_reducible refine gate_dst (N := 2) rfl ?_); refine box_event ?hg (N := 2) ?hd (cs := #[.slice A0_0 l0_0.length c0_0, .slice A0_1 l0_1.length c0_1]) (t := 52) ?hr ?_; (case hd => rfl); (case hg => rfl); (case hr => first | (go_simp; done) | (go_simp; rfl)); intro gm hg wb hbox hb; have K1 := Aside0.mk hbox; have B1 := Aside0.mk hb; clear hb hbox hg; have hm0 : wb.cell? ⟨gm, 0, none⟩ = some (.slice A0_0 l0_0.length c0_0) := (blk_cell K1.out 0).trans rfl; have hm1 : wb.cell? ⟨gm, 1, none⟩ = some (.slice A0_1 l0_1.length c0_1) := (blk_cell K1.out 1).trans rfl) | (go_at_call 61; refine (impl_ImageValid.calls A0_0 c0_0 l0_0 A0_1 c0_1 l0_1 true wb (Kd.C_below R0.out B1.out) C0.out (Kd.C_below R1.out B1.out) C1.out HB.out).mono ?_; rintro e w2 ⟨rfl, hb⟩; have K2 := Aside0.mk (blk_below K1.out hb); have B2 := Aside0.mk (below_step B1.out hb); clear hb hm0 hm1; have hm0 : w2.cell? ⟨gm, 0, none⟩ = some (.slice A0_0 l0_0.length c0_0) := (blk_cell K2.out 0).trans rfl) | (go_at_call 49; refine (impl_LogicValid.calls k A1 c1 l1 (l0_0.length : Int) true w2 (Kd.C_below R2.out B2.out) C2.out HC.out).mono ?_; rintro e w3 ⟨rfl, hb⟩; have K3 := Aside0.mk (blk_below K2.out hb); have B3 := Aside0.mk (below_step B2.out hb); clear hb hm0) | (go_at_call 62; refine (impl_EvalLogic.eval l0_0 A1 c1 l1 (.pointer (some ⟨gm, 0, none⟩)) r w3 (Kd.C_below R2.out B3.out) HV.out (fun n w' h0 h1 hB => impl_EvalLogic.clos gm A0_0 c0_0 l0_0 _ n w' h0 h1 (Kd.C_below (Kd.C_below R0.out B3.out) hB) (blk_below K3.out hB))).mono ?_; rintro e w4 ⟨rfl, hb⟩; have B4 := Aside0.mk (below_step B3.out hb); clear hb))
      go_ret
      exact ⟨rfl, B4.out⟩


/-! ### laws_eqIntS: function 13 -/
def laws_eqIntS.l0 : Nat → List Int → List Int → Int → Option (Bool)
  | 0, _, _, _ => none
  | k + 1, x0, x1, x5 => if x5 < (x0.length : Int) then (if 0 ≤ x5 then (if x5 < (x1.length : Int) then (if (rd x0 x5) = (rd x1 x5) then (laws_eqIntS.l0 k x0 x1 (wrap64 (x5 + 1))) else (some false)) else (none)) else (none)) else (some true)
def laws_eqIntS.f (k : Nat) (l0 : List Int) (l1 : List Int) : Option (Bool) := if (l0.length : Int) = (l1.length : Int) then (laws_eqIntS.l0 k l0 l1 0) else (some false)
theorem laws_eqIntS.mono_l : ∀ k, (∀ y0 y1 y2, LeO (laws_eqIntS.l0 k y0 y1 y2) (laws_eqIntS.l0 (k + 1) y0 y1 y2))
  | 0 => fun _ _ _ r h => by simp [laws_eqIntS.l0] at h
  | k + 1 => by
    have ih0 := laws_eqIntS.mono_l k
    · intro y0 y1 y2
      unfold laws_eqIntS.l0
      repeat' first
      | (with_reducible exact ih0 _ _ _)
      | (with_reducible exact LeO.refl _)
      | (with_reducible exact LeO.none _)
      | (with_reducible refine LeO.ite ?_ ?_)
      | (with_reducible refine LeO.bind ?_ (fun _ => ?_))
      | exact ih0 _ _ _
      | exact LeO.none _
      | refine LeO.ite ?_ ?_
      | refine LeO.bind ?_ (fun _ => ?_)
theorem laws_eqIntS.mono : ∀ a0 a1 k, LeO (laws_eqIntS.f k a0 a1) (laws_eqIntS.f (k + 1) a0 a1) := by
  intro a0 a1 k
  have ih0 := laws_eqIntS.mono_l k
  unfold laws_eqIntS.f
  repeat' first
      | (with_reducible exact ih0 _ _ _)
      | (with_reducible exact LeO.refl _)
      | (with_reducible exact LeO.none _)
      | (with_reducible refine LeO.ite ?_ ?_)
      | (with_reducible refine LeO.bind ?_ (fun _ => ?_))
      | exact ih0 _ _ _
      | exact LeO.none _
      | refine LeO.ite ?_ ?_
      | refine LeO.bind ?_ (fun _ => ?_)
set_option maxHeartbeats 8000000 in
set_option maxRecDepth 100000 in
theorem laws_eqIntS.calls (k : Nat) (A0 : Option Addr) (c0 : Nat) (l0 : List Int) (A1 : Option Addr) (c1 : Nat) (l1 : List Int) (r : Bool) (w : World) (hr0 : Kd.C (Kd.int .i64) w A0 l0.length l0) (hc0 : l0.length ≤ c0) (hr1 : Kd.C (Kd.int .i64) w A1 l1.length l1) (hc1 : l1.length ≤ c1) (h : laws_eqIntS.f k l0 l1 = some r) :
    Calls Try.prog 13 #[.slice A0 l0.length c0, .slice A1 l1.length c1] w fun e w' => e = .returned (.bool r) ∧ Drawn0 w w' := by
  have HR0 := Aside0.mk hr0
  have HC0 := Aside0.mk hc0
  clear hr0 hc0
  have HR1 := Aside0.mk hr1
  have HC1 := Aside0.mk hc1
  clear hr1 hc1
  have H : (if (l0.length : Int) = (l1.length : Int) then (laws_eqIntS.l0 k l0 l1 0) else (some false)) = some r := h
  clear h
  by_cases c3 : (l0.length : Int) = (l1.length : Int)
  · rw [if_pos c3] at H
    have c3b0 : ((l0.length : Int) == (l1.length : Int)) = true := beq_iff_eq.mpr c3
    have c3b1 : ((l0.length : Int) != (l1.length : Int)) = false := bne_eq_false_iff_eq.mpr c3
    have c3b2 : (l0.length == l1.length) = true := by first | simpa using c3 | (simp at c3 ⊢; omega)
    clear c3
    have H' := Aside0.mk H
    clear H
    go_enter Try.func13, Try.ntmps13
    go_wp2
    repeat (go_quiet (fail); try go_wp2)
    go_loopg [5] k (fun kq v5 w' => ∃ (x5_1 : Int), v5 = .int .i64 x5_1 ∧ Aside0 (laws_eqIntS.l0 kq l0 l1 x5_1 = some r) ∧ Aside0 (kq ≤ k) ∧ Drawn0 w w')
    case atStart => exact ⟨(0), (by first | rfl | (simp; done) | (simp [*]; done)), H', ⟨Nat.le_refl _⟩, by repeat (first | exact Drawn0.refl _ | apply Drawn0.step)⟩
    case round =>
      clear H'
      try clear c1
      try clear p2
      try clear c3
      try clear c3b0
      try clear c3b1
      try clear c3b2
      obtain ⟨x5_1, rfl, HA, HK1, ⟨m1, rfl⟩⟩ := hrel
      cases gk with
      | zero => exact absurd HA.out (by simp [laws_eqIntS.l0])
      | succ k1 =>
        have H := HA.out
        clear HA
        simp only [laws_eqIntS.l0] at H
        by_cases c4 : x5_1 < (l0.length : Int)
        · rw [if_pos c4] at H
          have c4b0 : decide (x5_1 < (l0.length : Int)) = true := decide_eq_true c4
          clear c4
          by_cases c5 : 0 ≤ x5_1
          · rw [if_pos c5] at H
            have c5b0 : decide (0 ≤ x5_1) = true := decide_eq_true c5
            clear c5
            by_cases c6 : x5_1 < (l1.length : Int)
            · rw [if_pos c6] at H
              have c6b0 : decide (x5_1 < (l1.length : Int)) = true := decide_eq_true c6
              clear c6
              by_cases c7 : (rd l0 x5_1) = (rd l1 x5_1)
              · rw [if_pos c7] at H
                have c7b0 : ((rd l0 x5_1) == (rd l1 x5_1)) = true := beq_iff_eq.mpr c7
                have c7b1 : ((rd l0 x5_1) != (rd l1 x5_1)) = false := bne_eq_false_iff_eq.mpr c7
                clear c7
                have H' := Aside0.mk H
                clear H
                have p162 : 0 ≤ (x5_1 : Int) := of_decide_eq_true (by first | (with_reducible assumption) | assumption)
                have q162 : x5_1 < (l0.length : Int) := of_decide_eq_true (by first | (with_reducible assumption) | assumption)
                obtain ⟨ad162, e162, hx162_0⟩ := Kd.at_int HR0.out x5_1 p162 q162
                cases e162
                replace p162 := eq_true p162
                replace q162 := eq_true q162
                have p163 : 0 ≤ (x5_1 : Int) := of_decide_eq_true (by first | (with_reducible assumption) | assumption)
                have q163 : x5_1 < (l1.length : Int) := of_decide_eq_true (by first | (with_reducible assumption) | assumption)
                obtain ⟨ad163, e163, hx163_0⟩ := Kd.at_int HR1.out x5_1 p163 q163
                cases e163
                replace p163 := eq_true p163
                replace q163 := eq_true q163
                go_wp2
                repeat (go_quiet (fail); try go_wp2)
                go_roundg k1
                case measure => have := HK1.out; omega
                case rel => exact ⟨(wrap64 (x5_1 + 1)), (by first | rfl | (simp; done) | (simp [*]; done)), H', ⟨by have := HK1.out; omega⟩, by repeat (first | exact Drawn0.refl _ | apply Drawn0.step)⟩
              · rw [if_neg c7] at H
                have c7b0 : ((rd l0 x5_1) == (rd l1 x5_1)) = false := beq_eq_false_iff_ne.mpr c7
                have c7b1 : ((rd l0 x5_1) != (rd l1 x5_1)) = true := bne_iff_ne.mpr c7
                obtain rfl := Option.some.inj H
                have p162 : 0 ≤ (x5_1 : Int) := of_decide_eq_true (by first | (with_reducible assumption) | assumption)
                have q162 : x5_1 < (l0.length : Int) := of_decide_eq_true (by first | (with_reducible assumption) | assumption)
                obtain ⟨ad162, e162, hx162_0⟩ := Kd.at_int HR0.out x5_1 p162 q162
                cases e162
                replace p162 := eq_true p162
                replace q162 := eq_true q162
                have p163 : 0 ≤ (x5_1 : Int) := of_decide_eq_true (by first | (with_reducible assumption) | assumption)
                have q163 : x5_1 < (l1.length : Int) := of_decide_eq_true (by first | (with_reducible assumption) | assumption)
                obtain ⟨ad163, e163, hx163_0⟩ := Kd.at_int HR1.out x5_1 p163 q163
                cases e163
                replace p163 := eq_true p163
                replace q163 := eq_true q163
                go_wp2
                repeat (go_quiet (fail); try go_wp2)
                go_ret
                exact ⟨by first | rfl | (simp; done) | (simp [*]; done), by repeat (first | exact Drawn0.refl _ | apply Drawn0.step)⟩
            · rw [if_neg c6] at H
              exact absurd H (by simp)
          · rw [if_neg c5] at H
            exact absurd H (by simp)
        · rw [if_neg c4] at H
          have c4b0 : decide (x5_1 < (l0.length : Int)) = false := decide_eq_false c4
          clear c4
          obtain rfl := Option.some.inj H
          go_wp2
          repeat (go_quiet (fail); try go_wp2)
          go_ret
          exact ⟨by first | rfl | (simp; done) | (simp [*]; done), by repeat (first | exact Drawn0.refl _ | apply Drawn0.step)⟩
  · rw [if_neg c3] at H
    have c3b0 : ((l0.length : Int) == (l1.length : Int)) = false := beq_eq_false_iff_ne.mpr c3
    have c3b1 : ((l0.length : Int) != (l1.length : Int)) = true := bne_iff_ne.mpr c3
    have c3b2 : (l0.length == l1.length) = false := by first | simpa using c3 | (simp at c3 ⊢; omega)
    obtain rfl := Option.some.inj H
    go_enter Try.func13, Try.ntmps13
    go_wp2
    repeat (go_quiet (fail); try go_wp2)
    go_ret
    exact ⟨by first | rfl | (simp; done) | (simp [*]; done), by repeat (first | exact Drawn0.refl _ | apply Drawn0.step)⟩

/-! ### laws_eqBoolS: function 29 -/
def laws_eqBoolS.l0 : Nat → List Bool → List Bool → Int → Option (Bool)
  | 0, _, _, _ => none
  | k + 1, x0, x1, x5 => if x5 < (x0.length : Int) then (if 0 ≤ x5 then (if x5 < (x1.length : Int) then (if ((rdOf false x0 x5) != (rdOf false x1 x5)) = true then (some false) else (laws_eqBoolS.l0 k x0 x1 (wrap64 (x5 + 1)))) else (none)) else (none)) else (some true)
def laws_eqBoolS.f (k : Nat) (l0 : List Bool) (l1 : List Bool) : Option (Bool) := if (l0.length : Int) = (l1.length : Int) then (laws_eqBoolS.l0 k l0 l1 0) else (some false)
theorem laws_eqBoolS.mono_l : ∀ k, (∀ y0 y1 y2, LeO (laws_eqBoolS.l0 k y0 y1 y2) (laws_eqBoolS.l0 (k + 1) y0 y1 y2))
  | 0 => fun _ _ _ r h => by simp [laws_eqBoolS.l0] at h
  | k + 1 => by
    have ih0 := laws_eqBoolS.mono_l k
    · intro y0 y1 y2
      unfold laws_eqBoolS.l0
      repeat' first
      | (with_reducible exact ih0 _ _ _)
      | (with_reducible exact LeO.refl _)
      | (with_reducible exact LeO.none _)
      | (with_reducible refine LeO.ite ?_ ?_)
      | (with_reducible refine LeO.bind ?_ (fun _ => ?_))
      | exact ih0 _ _ _
      | exact LeO.none _
      | refine LeO.ite ?_ ?_
      | refine LeO.bind ?_ (fun _ => ?_)
theorem laws_eqBoolS.mono : ∀ a0 a1 k, LeO (laws_eqBoolS.f k a0 a1) (laws_eqBoolS.f (k + 1) a0 a1) := by
  intro a0 a1 k
  have ih0 := laws_eqBoolS.mono_l k
  unfold laws_eqBoolS.f
  repeat' first
      | (with_reducible exact ih0 _ _ _)
      | (with_reducible exact LeO.refl _)
      | (with_reducible exact LeO.none _)
      | (with_reducible refine LeO.ite ?_ ?_)
      | (with_reducible refine LeO.bind ?_ (fun _ => ?_))
      | exact ih0 _ _ _
      | exact LeO.none _
      | refine LeO.ite ?_ ?_
      | refine LeO.bind ?_ (fun _ => ?_)
set_option maxHeartbeats 8000000 in
set_option maxRecDepth 100000 in
theorem laws_eqBoolS.calls (k : Nat) (A0 : Option Addr) (c0 : Nat) (l0 : List Bool) (A1 : Option Addr) (c1 : Nat) (l1 : List Bool) (r : Bool) (w : World) (hr0 : Kd.C Kd.bool w A0 l0.length l0) (hc0 : l0.length ≤ c0) (hr1 : Kd.C Kd.bool w A1 l1.length l1) (hc1 : l1.length ≤ c1) (h : laws_eqBoolS.f k l0 l1 = some r) :
    Calls Try.prog 29 #[.slice A0 l0.length c0, .slice A1 l1.length c1] w fun e w' => e = .returned (.bool r) ∧ Drawn0 w w' := by
  have HR0 := Aside0.mk hr0
  have HC0 := Aside0.mk hc0
  clear hr0 hc0
  have HR1 := Aside0.mk hr1
  have HC1 := Aside0.mk hc1
  clear hr1 hc1
  have H : (if (l0.length : Int) = (l1.length : Int) then (laws_eqBoolS.l0 k l0 l1 0) else (some false)) = some r := h
  clear h
  by_cases c3 : (l0.length : Int) = (l1.length : Int)
  · rw [if_pos c3] at H
    have c3b0 : ((l0.length : Int) == (l1.length : Int)) = true := beq_iff_eq.mpr c3
    have c3b1 : ((l0.length : Int) != (l1.length : Int)) = false := bne_eq_false_iff_eq.mpr c3
    have c3b2 : (l0.length == l1.length) = true := by first | simpa using c3 | (simp at c3 ⊢; omega)
    clear c3
    have H' := Aside0.mk H
    clear H
    go_enter Try.func29, Try.ntmps29
    go_wp2
    repeat (go_quiet (fail); try go_wp2)
    go_loopg [5] k (fun kq v5 w' => ∃ (x5_1 : Int), v5 = .int .i64 x5_1 ∧ Aside0 (laws_eqBoolS.l0 kq l0 l1 x5_1 = some r) ∧ Aside0 (kq ≤ k) ∧ Drawn0 w w')
    case atStart => exact ⟨(0), (by first | rfl | (simp; done) | (simp [*]; done)), H', ⟨Nat.le_refl _⟩, by repeat (first | exact Drawn0.refl _ | apply Drawn0.step)⟩
    case round =>
      clear H'
      try clear c1
      try clear c2
      try clear p2
      try clear c3
      try clear c3b0
      try clear c3b1
      try clear c3b2
      obtain ⟨x5_1, rfl, HA, HK1, ⟨m1, rfl⟩⟩ := hrel
      cases gk with
      | zero => exact absurd HA.out (by simp [laws_eqBoolS.l0])
      | succ k1 =>
        have H := HA.out
        clear HA
        simp only [laws_eqBoolS.l0] at H
        by_cases c4 : x5_1 < (l0.length : Int)
        · rw [if_pos c4] at H
          have c4b0 : decide (x5_1 < (l0.length : Int)) = true := decide_eq_true c4
          clear c4
          by_cases c5 : 0 ≤ x5_1
          · rw [if_pos c5] at H
            have c5b0 : decide (0 ≤ x5_1) = true := decide_eq_true c5
            clear c5
            by_cases c6 : x5_1 < (l1.length : Int)
            · rw [if_pos c6] at H
              have c6b0 : decide (x5_1 < (l1.length : Int)) = true := decide_eq_true c6
              clear c6
              by_cases c7 : ((rdOf false l0 x5_1) != (rdOf false l1 x5_1)) = true
              · rw [if_pos c7] at H
                have c7b0 : ((rdOf false l0 x5_1) != (rdOf false l1 x5_1)) = true := c7
                (try (have c7b1 : decide ((rdOf false l0 x5_1) = (rdOf false l1 x5_1)) = false := by simpa using c7))
                (try (have c7b2 : ((rdOf false l0 x5_1) == (rdOf false l1 x5_1)) = false := by simpa using c7))
                (try (have c7b3 : ¬ ((rdOf false l0 x5_1) = (rdOf false l1 x5_1)) := by simpa using c7))
                clear c7
                obtain rfl := Option.some.inj H
                have p164 : 0 ≤ (x5_1 : Int) := of_decide_eq_true (by first | (with_reducible assumption) | assumption)
                have q164 : x5_1 < (l0.length : Int) := of_decide_eq_true (by first | (with_reducible assumption) | assumption)
                obtain ⟨ad164, e164, hx164_0⟩ := Kd.at_bool HR0.out x5_1 p164 q164
                cases e164
                replace p164 := eq_true p164
                replace q164 := eq_true q164
                have p165 : 0 ≤ (x5_1 : Int) := of_decide_eq_true (by first | (with_reducible assumption) | assumption)
                have q165 : x5_1 < (l1.length : Int) := of_decide_eq_true (by first | (with_reducible assumption) | assumption)
                obtain ⟨ad165, e165, hx165_0⟩ := Kd.at_bool HR1.out x5_1 p165 q165
                cases e165
                replace p165 := eq_true p165
                replace q165 := eq_true q165
                go_wp2
                repeat (go_quiet (fail); try go_wp2)
                go_ret
                exact ⟨by first | rfl | (simp; done) | (simp [*]; done), by repeat (first | exact Drawn0.refl _ | apply Drawn0.step)⟩
              · rw [if_neg c7] at H
                have c7b0 : ((rdOf false l0 x5_1) != (rdOf false l1 x5_1)) = false := by simpa using c7
                (try (have c7b1 : decide ((rdOf false l0 x5_1) = (rdOf false l1 x5_1)) = true := by simpa using c7))
                (try (have c7b2 : ((rdOf false l0 x5_1) == (rdOf false l1 x5_1)) = true := by simpa using c7))
                clear c7
                have H' := Aside0.mk H
                clear H
                have p164 : 0 ≤ (x5_1 : Int) := of_decide_eq_true (by first | (with_reducible assumption) | assumption)
                have q164 : x5_1 < (l0.length : Int) := of_decide_eq_true (by first | (with_reducible assumption) | assumption)
                obtain ⟨ad164, e164, hx164_0⟩ := Kd.at_bool HR0.out x5_1 p164 q164
                cases e164
                replace p164 := eq_true p164
                replace q164 := eq_true q164
                have p165 : 0 ≤ (x5_1 : Int) := of_decide_eq_true (by first | (with_reducible assumption) | assumption)
                have q165 : x5_1 < (l1.length : Int) := of_decide_eq_true (by first | (with_reducible assumption) | assumption)
                obtain ⟨ad165, e165, hx165_0⟩ := Kd.at_bool HR1.out x5_1 p165 q165
                cases e165
                replace p165 := eq_true p165
                replace q165 := eq_true q165
                go_wp2
                repeat (go_quiet (fail); try go_wp2)
                go_roundg k1
                case measure => have := HK1.out; omega
                case rel => exact ⟨(wrap64 (x5_1 + 1)), (by first | rfl | (simp; done) | (simp [*]; done)), H', ⟨by have := HK1.out; omega⟩, by repeat (first | exact Drawn0.refl _ | apply Drawn0.step)⟩
            · rw [if_neg c6] at H
              exact absurd H (by simp)
          · rw [if_neg c5] at H
            exact absurd H (by simp)
        · rw [if_neg c4] at H
          have c4b0 : decide (x5_1 < (l0.length : Int)) = false := decide_eq_false c4
          clear c4
          obtain rfl := Option.some.inj H
          go_wp2
          repeat (go_quiet (fail); try go_wp2)
          go_ret
          exact ⟨by first | rfl | (simp; done) | (simp [*]; done), by repeat (first | exact Drawn0.refl _ | apply Drawn0.step)⟩
  · rw [if_neg c3] at H
    have c3b0 : ((l0.length : Int) == (l1.length : Int)) = false := beq_eq_false_iff_ne.mpr c3
    have c3b1 : ((l0.length : Int) != (l1.length : Int)) = true := bne_iff_ne.mpr c3
    have c3b2 : (l0.length == l1.length) = false := by first | simpa using c3 | (simp at c3 ⊢; omega)
    obtain rfl := Option.some.inj H
    go_enter Try.func29, Try.ntmps29
    go_wp2
    repeat (go_quiet (fail); try go_wp2)
    go_ret
    exact ⟨by first | rfl | (simp; done) | (simp [*]; done), by repeat (first | exact Drawn0.refl _ | apply Drawn0.step)⟩

/-! ### laws_eqImage: function 37 -/
def laws_eqImage.f (k : Nat) (l0_0 : List Bool) (l0_1 : List Int) (l1_0 : List Bool) (l1_1 : List Int) : Option (Bool) := (laws_eqBoolS.f k l0_0 l1_0).bind fun t168 => (if t168 = true then ((laws_eqIntS.f k l0_1 l1_1).bind fun t169 => (if t169 = true then (some true) else (some false))) else (some false))
theorem laws_eqImage.mono : ∀ a0 a1 a2 a3 k, LeO (laws_eqImage.f k a0 a1 a2 a3) (laws_eqImage.f (k + 1) a0 a1 a2 a3) := by
  intro a0 a1 a2 a3 k
  unfold laws_eqImage.f
  repeat' first
      | (with_reducible exact laws_eqBoolS.mono _ _ _)
      | (with_reducible exact laws_eqIntS.mono _ _ _)
      | (with_reducible exact LeO.refl _)
      | (with_reducible exact LeO.none _)
      | (with_reducible refine LeO.ite ?_ ?_)
      | (with_reducible refine LeO.bind ?_ (fun _ => ?_))
      | exact laws_eqBoolS.mono _ _ _
      | exact laws_eqIntS.mono _ _ _
      | exact LeO.none _
      | refine LeO.ite ?_ ?_
      | refine LeO.bind ?_ (fun _ => ?_)
set_option maxHeartbeats 8000000 in
set_option maxRecDepth 100000 in
theorem laws_eqImage.calls (k : Nat) (A0_0 : Option Addr) (c0_0 : Nat) (l0_0 : List Bool) (A0_1 : Option Addr) (c0_1 : Nat) (l0_1 : List Int) (A1_0 : Option Addr) (c1_0 : Nat) (l1_0 : List Bool) (A1_1 : Option Addr) (c1_1 : Nat) (l1_1 : List Int) (r : Bool) (w : World) (hr0_0 : Kd.C Kd.bool w A0_0 l0_0.length l0_0) (hc0_0 : l0_0.length ≤ c0_0) (hr0_1 : Kd.C (Kd.int .i64) w A0_1 l0_1.length l0_1) (hc0_1 : l0_1.length ≤ c0_1) (hr1_0 : Kd.C Kd.bool w A1_0 l1_0.length l1_0) (hc1_0 : l1_0.length ≤ c1_0) (hr1_1 : Kd.C (Kd.int .i64) w A1_1 l1_1.length l1_1) (hc1_1 : l1_1.length ≤ c1_1) (h : laws_eqImage.f k l0_0 l0_1 l1_0 l1_1 = some r) :
    Calls Try.prog 37 #[.agg #[.slice A0_0 l0_0.length c0_0, .slice A0_1 l0_1.length c0_1], .agg #[.slice A1_0 l1_0.length c1_0, .slice A1_1 l1_1.length c1_1]] w fun e w' => e = .returned (.bool r) ∧ Below w.heap.size w w' := by
  have hu52 := Try.underlying52
  have HR0_0 := Aside0.mk hr0_0
  have HC0_0 := Aside0.mk hc0_0
  clear hr0_0 hc0_0
  have HR0_1 := Aside0.mk hr0_1
  have HC0_1 := Aside0.mk hc0_1
  clear hr0_1 hc0_1
  have HR1_0 := Aside0.mk hr1_0
  have HC1_0 := Aside0.mk hc1_0
  clear hr1_0 hc1_0
  have HR1_1 := Aside0.mk hr1_1
  have HC1_1 := Aside0.mk hc1_1
  clear hr1_1 hc1_1
  have HB := Aside0.mk (Below.refl w.heap.size w)
  have H : ((laws_eqBoolS.f k l0_0 l1_0).bind fun t168 => (if t168 = true then ((laws_eqIntS.f k l0_1 l1_1).bind fun t169 => (if t169 = true then (some true) else (some false))) else (some false))) = some r := h
  clear h
  replace H := Option.bind_eq_some_iff.mp H
  obtain ⟨t168, A30, H⟩ := H
  replace H : (if t168 = true then ((laws_eqIntS.f k l0_1 l1_1).bind fun t169 => (if t169 = true then (some true) else (some false))) else (some false)) = some r := H
  have A3 := Aside0.mk A30
  clear A30
  by_cases c4 : t168 = true
  · subst c4
    have H1 : ((laws_eqIntS.f k l0_1 l1_1).bind fun t169 => (if t169 = true then (some true) else (some false))) = some r := by rw [if_pos rfl] at H; exact H
    clear H
    have H := H1
    clear H1
    replace H := Option.bind_eq_some_iff.mp H
    obtain ⟨t169, A50, H⟩ := H
    replace H : (if t169 = true then (some true) else (some false)) = some r := H
    have A5 := Aside0.mk A50
    clear A50
    by_cases c6 : t169 = true
    · subst c6
      have H1 : (some true) = some r := by rw [if_pos rfl] at H; exact H
      clear H
      have H := H1
      clear H1
      obtain rfl := Option.some.inj H
      go_enter Try.func37, Try.ntmps37
      go_wp2_with (first | ((with_reducible refine gate_dst (N := 2) rfl ?_); refine box_event ?hg (N := 2) ?hd (cs := #[.slice A0_0 l0_0.length c0_0, .slice A0_1 l0_1.length c0_1]) (t := 52) ?hr ?_; (case hd => rfl); (case hg => rfl); (case hr => first | (go_simp; done) | (go_simp; rfl)); intro gb166 hg w7 hbox hb; have n0_ := Aside0.mk (below_step (by repeat (first | (with_reducible first | exact HB.out | apply below_alloc | apply pw_below_drewN | apply below_drew1) | exact HB.out)) hb); have n1_ := Aside0.mk (hbox); have n2_ := Aside0.mk ((by rw [hg]; exact (below_size (by repeat (first | (with_reducible first | exact HB.out | apply below_alloc | apply pw_below_drewN | apply below_drew1) | exact HB.out))) : w.heap.size ≤ gb166)); have n3_ := Aside0.mk ((by rw [hg]; exact (below_size (by repeat (first | (with_reducible first | exact HB.out | apply below_alloc | apply pw_below_drewN | apply below_drew1) | exact HB.out))) : w.heap.size ≤ gb166)); clear HB; have HB := n0_; have BK166 := n1_; have GW166 := n2_; have GE166 := n3_; clear n0_ n1_ n2_ n3_; clear hb hbox hg) | ((with_reducible refine gate_dst (N := 3) rfl ?_); refine box_event ?hg (N := 3) ?hd (cs := #[.slice A1_0 l1_0.length c1_0, .slice A1_1 l1_1.length c1_1]) (t := 52) ?hr ?_; (case hd => rfl); (case hg => rfl); (case hr => first | (go_simp; done) | (go_simp; rfl)); intro gb167 hg w8 hbox hb; have n0_ := Aside0.mk (blk_below (g := gb166) (o := .cells #[.slice A0_0 l0_0.length c0_0, .slice A0_1 l0_1.length c0_1] 52 (0, 0)) (by (with_reducible repeat (first | refine blk_drewN ?_ _ | refine blk_drew ?_ | refine blk_alloc ?_ _)); exact BK166.out) hb); have n1_ := Aside0.mk (below_step (by repeat (first | (with_reducible first | exact HB.out | apply below_alloc | apply pw_below_drewN | apply below_drew1 | refine below_set ?_ GE166.out) | exact HB.out)) hb); have n2_ := Aside0.mk (hbox); have n3_ := Aside0.mk ((by rw [hg]; exact (below_size (by repeat (first | (with_reducible first | exact HB.out | apply below_alloc | apply pw_below_drewN | apply below_drew1 | refine below_set ?_ GE166.out) | exact HB.out))) : w.heap.size ≤ gb167)); have n4_ := Aside0.mk ((by rw [hg]; exact (below_size (by repeat (first | (with_reducible first | exact HB.out | apply below_alloc | apply pw_below_drewN | apply below_drew1 | refine below_set ?_ GE166.out) | exact HB.out))) : w.heap.size ≤ gb167)); have n5_ := Aside0.mk ((by rw [hg]; exact Nat.ne_of_lt (blk_lt (g := gb166) (o := .cells #[.slice A0_0 l0_0.length c0_0, .slice A0_1 l0_1.length c0_1] 52 (0, 0)) (by (with_reducible repeat (first | refine blk_drewN ?_ _ | refine blk_drew ?_ | refine blk_alloc ?_ _)); exact BK166.out)) : gb166 ≠ gb167)); have n6_ := Aside0.mk ((by rw [hg]; exact Nat.ne_of_gt (blk_lt (g := gb166) (o := .cells #[.slice A0_0 l0_0.length c0_0, .slice A0_1 l0_1.length c0_1] 52 (0, 0)) (by (with_reducible repeat (first | refine blk_drewN ?_ _ | refine blk_drew ?_ | refine blk_alloc ?_ _)); exact BK166.out)) : gb167 ≠ gb166)); clear BK166; clear HB; have BK166 := n0_; have HB := n1_; have BK167 := n2_; have GW167 := n3_; have GE167 := n4_; have NB166_167 := n5_; have NB167_166 := n6_; clear n0_ n1_ n2_ n3_ n4_ n5_ n6_; clear hb hbox hg; have hnb9 := NB166_167.out; have hnc9 := NB167_166.out; have hcz10_0 : w8.cell? ⟨gb166, 0, none⟩ = some (.slice A0_0 l0_0.length c0_0) := (blk_cell BK166.out 0).trans rfl; have hcz10_1 : w8.cell? ⟨gb166, 1, none⟩ = some (.slice A0_1 l0_1.length c0_1) := (blk_cell BK166.out 1).trans rfl; have hfz10_0 := blk_frozen BK166.out 0; have hfz10_1 := blk_frozen BK166.out 1; have hcz11_0 : w8.cell? ⟨gb167, 0, none⟩ = some (.slice A1_0 l1_0.length c1_0) := (blk_cell BK167.out 0).trans rfl; have hcz11_1 : w8.cell? ⟨gb167, 1, none⟩ = some (.slice A1_1 l1_1.length c1_1) := (blk_cell BK167.out 1).trans rfl; have hfz11_0 := blk_frozen BK167.out 0; have hfz11_1 := blk_frozen BK167.out 1) | ((with_reducible refine gate_callee (f := 29) rfl ?_); refine goesL_ (some 9) rfl rfl Try.func29 (by kernel_rfl) rfl #[.slice A0_0 l0_0.length c0_0, .slice A1_0 l1_0.length c1_0] rfl (by (try simp only [List.map_toArray, List.map_cons, List.map_nil]); first | done | rfl | (simp only [List.length_drop, List.length_take]; rfl)) ?_; (with_reducible refine (laws_eqBoolS.calls k _ _ l0_0 _ _ l1_0 true _ ?side1 ?side2 ?side3 ?side4 A3.out).mono ?_); (case side1 => repeat (first | exact (Kd.C_below HR0_0.out HB.out) | (with_reducible refine Kd.C_alloc ?_ _) | (with_reducible refine Kd.C_drewN ?_ _) | (with_reducible refine Kd.C_drew ?_))); (case side2 => exact HC0_0.out); (case side3 => repeat (first | exact (Kd.C_below HR1_0.out HB.out) | (with_reducible refine Kd.C_alloc ?_ _) | (with_reducible refine Kd.C_drewN ?_ _) | (with_reducible refine Kd.C_drew ?_))); (case side4 => exact HC1_0.out); rintro e w' ⟨rfl, ⟨nd, rfl⟩⟩; refine ⟨_, rfl, ?_⟩) | ((with_reducible refine gate_callee (f := 13) rfl ?_); refine goesL_ (some 15) rfl rfl Try.func13 (by kernel_rfl) rfl #[.slice A0_1 l0_1.length c0_1, .slice A1_1 l1_1.length c1_1] rfl (by (try simp only [List.map_toArray, List.map_cons, List.map_nil]); first | done | rfl | (simp only [List.length_drop, List.length_take]; rfl)) ?_; (with_reducible refine (laws_eqIntS.calls k _ _ l0_1 _ _ l1_1 true _ ?side1 ?side2 ?side3 ?side4 A5.out).mono ?_); (case side1 => repeat (first | exact (Kd.C_below HR0_1.out (by repeat (first | (with_reducible first | exact HB.out | apply below_alloc | apply pw_below_drewN | apply below_drew1 | refine below_set ?_ GE166.out | refine below_set ?_ GE167.out) | exact HB.out))) | (with_reducible refine Kd.C_alloc ?_ _) | (with_reducible refine Kd.C_drewN ?_ _) | (with_reducible refine Kd.C_drew ?_))); (case side2 => exact HC0_1.out); (case side3 => repeat (first | exact (Kd.C_below HR1_1.out (by repeat (first | (with_reducible first | exact HB.out | apply below_alloc | apply pw_below_drewN | apply below_drew1 | refine below_set ?_ GE166.out | refine below_set ?_ GE167.out) | exact HB.out))) | (with_reducible refine Kd.C_alloc ?_ _) | (with_reducible refine Kd.C_drewN ?_ _) | (with_reducible refine Kd.C_drew ?_))); (case side4 => exact HC1_1.out); rintro e w' ⟨rfl, ⟨nd, rfl⟩⟩; refine ⟨_, rfl, ?_⟩))
      go_ret
      exact ⟨by first | rfl | (simp [errW_none, errW_some] <;> rfl) | (simp [*, errW_none, errW_some] <;> rfl), by repeat (first | (with_reducible first | exact HB.out | apply below_alloc | apply pw_below_drewN | apply below_drew1 | refine below_set ?_ GE166.out | refine below_set ?_ GE167.out) | exact HB.out)⟩
    · replace c6 := Bool.eq_false_iff.mpr c6
      subst c6
      have H1 : (some false) = some r := by rw [if_neg (show ¬ (false = true) by decide)] at H; exact H
      clear H
      have H := H1
      clear H1
      obtain rfl := Option.some.inj H
      go_enter Try.func37, Try.ntmps37
      go_wp2_with (first | ((with_reducible refine gate_dst (N := 2) rfl ?_); refine box_event ?hg (N := 2) ?hd (cs := #[.slice A0_0 l0_0.length c0_0, .slice A0_1 l0_1.length c0_1]) (t := 52) ?hr ?_; (case hd => rfl); (case hg => rfl); (case hr => first | (go_simp; done) | (go_simp; rfl)); intro gb166 hg w12 hbox hb; have n0_ := Aside0.mk (below_step (by repeat (first | (with_reducible first | exact HB.out | apply below_alloc | apply pw_below_drewN | apply below_drew1) | exact HB.out)) hb); have n1_ := Aside0.mk (hbox); have n2_ := Aside0.mk ((by rw [hg]; exact (below_size (by repeat (first | (with_reducible first | exact HB.out | apply below_alloc | apply pw_below_drewN | apply below_drew1) | exact HB.out))) : w.heap.size ≤ gb166)); have n3_ := Aside0.mk ((by rw [hg]; exact (below_size (by repeat (first | (with_reducible first | exact HB.out | apply below_alloc | apply pw_below_drewN | apply below_drew1) | exact HB.out))) : w.heap.size ≤ gb166)); clear HB; have HB := n0_; have BK166 := n1_; have GW166 := n2_; have GE166 := n3_; clear n0_ n1_ n2_ n3_; clear hb hbox hg) | ((with_reducible refine gate_dst (N := 3) rfl ?_); refine box_event ?hg (N := 3) ?hd (cs := #[.slice A1_0 l1_0.length c1_0, .slice A1_1 l1_1.length c1_1]) (t := 52) ?hr ?_; (case hd => rfl); (case hg => rfl); (case hr => first | (go_simp; done) | (go_simp; rfl)); intro gb167 hg w13 hbox hb; have n0_ := Aside0.mk (blk_below (g := gb166) (o := .cells #[.slice A0_0 l0_0.length c0_0, .slice A0_1 l0_1.length c0_1] 52 (0, 0)) (by (with_reducible repeat (first | refine blk_drewN ?_ _ | refine blk_drew ?_ | refine blk_alloc ?_ _)); exact BK166.out) hb); have n1_ := Aside0.mk (below_step (by repeat (first | (with_reducible first | exact HB.out | apply below_alloc | apply pw_below_drewN | apply below_drew1 | refine below_set ?_ GE166.out) | exact HB.out)) hb); have n2_ := Aside0.mk (hbox); have n3_ := Aside0.mk ((by rw [hg]; exact (below_size (by repeat (first | (with_reducible first | exact HB.out | apply below_alloc | apply pw_below_drewN | apply below_drew1 | refine below_set ?_ GE166.out) | exact HB.out))) : w.heap.size ≤ gb167)); have n4_ := Aside0.mk ((by rw [hg]; exact (below_size (by repeat (first | (with_reducible first | exact HB.out | apply below_alloc | apply pw_below_drewN | apply below_drew1 | refine below_set ?_ GE166.out) | exact HB.out))) : w.heap.size ≤ gb167)); have n5_ := Aside0.mk ((by rw [hg]; exact Nat.ne_of_lt (blk_lt (g := gb166) (o := .cells #[.slice A0_0 l0_0.length c0_0, .slice A0_1 l0_1.length c0_1] 52 (0, 0)) (by (with_reducible repeat (first | refine blk_drewN ?_ _ | refine blk_drew ?_ | refine blk_alloc ?_ _)); exact BK166.out)) : gb166 ≠ gb167)); have n6_ := Aside0.mk ((by rw [hg]; exact Nat.ne_of_gt (blk_lt (g := gb166) (o := .cells #[.slice A0_0 l0_0.length c0_0, .slice A0_1 l0_1.length c0_1] 52 (0, 0)) (by (with_reducible repeat (first | refine blk_drewN ?_ _ | refine blk_drew ?_ | refine blk_alloc ?_ _)); exact BK166.out)) : gb167 ≠ gb166)); clear BK166; clear HB; have BK166 := n0_; have HB := n1_; have BK167 := n2_; have GW167 := n3_; have GE167 := n4_; have NB166_167 := n5_; have NB167_166 := n6_; clear n0_ n1_ n2_ n3_ n4_ n5_ n6_; clear hb hbox hg; have hnb14 := NB166_167.out; have hnc14 := NB167_166.out; have hcz15_0 : w13.cell? ⟨gb166, 0, none⟩ = some (.slice A0_0 l0_0.length c0_0) := (blk_cell BK166.out 0).trans rfl; have hcz15_1 : w13.cell? ⟨gb166, 1, none⟩ = some (.slice A0_1 l0_1.length c0_1) := (blk_cell BK166.out 1).trans rfl; have hfz15_0 := blk_frozen BK166.out 0; have hfz15_1 := blk_frozen BK166.out 1; have hcz16_0 : w13.cell? ⟨gb167, 0, none⟩ = some (.slice A1_0 l1_0.length c1_0) := (blk_cell BK167.out 0).trans rfl; have hcz16_1 : w13.cell? ⟨gb167, 1, none⟩ = some (.slice A1_1 l1_1.length c1_1) := (blk_cell BK167.out 1).trans rfl; have hfz16_0 := blk_frozen BK167.out 0; have hfz16_1 := blk_frozen BK167.out 1) | ((with_reducible refine gate_callee (f := 29) rfl ?_); refine goesL_ (some 9) rfl rfl Try.func29 (by kernel_rfl) rfl #[.slice A0_0 l0_0.length c0_0, .slice A1_0 l1_0.length c1_0] rfl (by (try simp only [List.map_toArray, List.map_cons, List.map_nil]); first | done | rfl | (simp only [List.length_drop, List.length_take]; rfl)) ?_; (with_reducible refine (laws_eqBoolS.calls k _ _ l0_0 _ _ l1_0 true _ ?side1 ?side2 ?side3 ?side4 A3.out).mono ?_); (case side1 => repeat (first | exact (Kd.C_below HR0_0.out HB.out) | (with_reducible refine Kd.C_alloc ?_ _) | (with_reducible refine Kd.C_drewN ?_ _) | (with_reducible refine Kd.C_drew ?_))); (case side2 => exact HC0_0.out); (case side3 => repeat (first | exact (Kd.C_below HR1_0.out HB.out) | (with_reducible refine Kd.C_alloc ?_ _) | (with_reducible refine Kd.C_drewN ?_ _) | (with_reducible refine Kd.C_drew ?_))); (case side4 => exact HC1_0.out); rintro e w' ⟨rfl, ⟨nd, rfl⟩⟩; refine ⟨_, rfl, ?_⟩) | ((with_reducible refine gate_callee (f := 13) rfl ?_); refine goesL_ (some 15) rfl rfl Try.func13 (by kernel_rfl) rfl #[.slice A0_1 l0_1.length c0_1, .slice A1_1 l1_1.length c1_1] rfl (by (try simp only [List.map_toArray, List.map_cons, List.map_nil]); first | done | rfl | (simp only [List.length_drop, List.length_take]; rfl)) ?_; (with_reducible refine (laws_eqIntS.calls k _ _ l0_1 _ _ l1_1 false _ ?side1 ?side2 ?side3 ?side4 A5.out).mono ?_); (case side1 => repeat (first | exact (Kd.C_below HR0_1.out (by repeat (first | (with_reducible first | exact HB.out | apply below_alloc | apply pw_below_drewN | apply below_drew1 | refine below_set ?_ GE166.out | refine below_set ?_ GE167.out) | exact HB.out))) | (with_reducible refine Kd.C_alloc ?_ _) | (with_reducible refine Kd.C_drewN ?_ _) | (with_reducible refine Kd.C_drew ?_))); (case side2 => exact HC0_1.out); (case side3 => repeat (first | exact (Kd.C_below HR1_1.out (by repeat (first | (with_reducible first | exact HB.out | apply below_alloc | apply pw_below_drewN | apply below_drew1 | refine below_set ?_ GE166.out | refine below_set ?_ GE167.out) | exact HB.out))) | (with_reducible refine Kd.C_alloc ?_ _) | (with_reducible refine Kd.C_drewN ?_ _) | (with_reducible refine Kd.C_drew ?_))); (case side4 => exact HC1_1.out); rintro e w' ⟨rfl, ⟨nd, rfl⟩⟩; refine ⟨_, rfl, ?_⟩))
      go_ret
      exact ⟨by first | rfl | (simp [errW_none, errW_some] <;> rfl) | (simp [*, errW_none, errW_some] <;> rfl), by repeat (first | (with_reducible first | exact HB.out | apply below_alloc | apply pw_below_drewN | apply below_drew1 | refine below_set ?_ GE166.out | refine below_set ?_ GE167.out) | exact HB.out)⟩
  · replace c4 := Bool.eq_false_iff.mpr c4
    subst c4
    have H1 : (some false) = some r := by rw [if_neg (show ¬ (false = true) by decide)] at H; exact H
    clear H
    have H := H1
    clear H1
    obtain rfl := Option.some.inj H
    go_enter Try.func37, Try.ntmps37
    go_wp2_with (first | ((with_reducible refine gate_dst (N := 2) rfl ?_); refine box_event ?hg (N := 2) ?hd (cs := #[.slice A0_0 l0_0.length c0_0, .slice A0_1 l0_1.length c0_1]) (t := 52) ?hr ?_; (case hd => rfl); (case hg => rfl); (case hr => first | (go_simp; done) | (go_simp; rfl)); intro gb166 hg w17 hbox hb; have n0_ := Aside0.mk (below_step (by repeat (first | (with_reducible first | exact HB.out | apply below_alloc | apply pw_below_drewN | apply below_drew1) | exact HB.out)) hb); have n1_ := Aside0.mk (hbox); have n2_ := Aside0.mk ((by rw [hg]; exact (below_size (by repeat (first | (with_reducible first | exact HB.out | apply below_alloc | apply pw_below_drewN | apply below_drew1) | exact HB.out))) : w.heap.size ≤ gb166)); have n3_ := Aside0.mk ((by rw [hg]; exact (below_size (by repeat (first | (with_reducible first | exact HB.out | apply below_alloc | apply pw_below_drewN | apply below_drew1) | exact HB.out))) : w.heap.size ≤ gb166)); clear HB; have HB := n0_; have BK166 := n1_; have GW166 := n2_; have GE166 := n3_; clear n0_ n1_ n2_ n3_; clear hb hbox hg) | ((with_reducible refine gate_dst (N := 3) rfl ?_); refine box_event ?hg (N := 3) ?hd (cs := #[.slice A1_0 l1_0.length c1_0, .slice A1_1 l1_1.length c1_1]) (t := 52) ?hr ?_; (case hd => rfl); (case hg => rfl); (case hr => first | (go_simp; done) | (go_simp; rfl)); intro gb167 hg w18 hbox hb; have n0_ := Aside0.mk (blk_below (g := gb166) (o := .cells #[.slice A0_0 l0_0.length c0_0, .slice A0_1 l0_1.length c0_1] 52 (0, 0)) (by (with_reducible repeat (first | refine blk_drewN ?_ _ | refine blk_drew ?_ | refine blk_alloc ?_ _)); exact BK166.out) hb); have n1_ := Aside0.mk (below_step (by repeat (first | (with_reducible first | exact HB.out | apply below_alloc | apply pw_below_drewN | apply below_drew1 | refine below_set ?_ GE166.out) | exact HB.out)) hb); have n2_ := Aside0.mk (hbox); have n3_ := Aside0.mk ((by rw [hg]; exact (below_size (by repeat (first | (with_reducible first | exact HB.out | apply below_alloc | apply pw_below_drewN | apply below_drew1 | refine below_set ?_ GE166.out) | exact HB.out))) : w.heap.size ≤ gb167)); have n4_ := Aside0.mk ((by rw [hg]; exact (below_size (by repeat (first | (with_reducible first | exact HB.out | apply below_alloc | apply pw_below_drewN | apply below_drew1 | refine below_set ?_ GE166.out) | exact HB.out))) : w.heap.size ≤ gb167)); have n5_ := Aside0.mk ((by rw [hg]; exact Nat.ne_of_lt (blk_lt (g := gb166) (o := .cells #[.slice A0_0 l0_0.length c0_0, .slice A0_1 l0_1.length c0_1] 52 (0, 0)) (by (with_reducible repeat (first | refine blk_drewN ?_ _ | refine blk_drew ?_ | refine blk_alloc ?_ _)); exact BK166.out)) : gb166 ≠ gb167)); have n6_ := Aside0.mk ((by rw [hg]; exact Nat.ne_of_gt (blk_lt (g := gb166) (o := .cells #[.slice A0_0 l0_0.length c0_0, .slice A0_1 l0_1.length c0_1] 52 (0, 0)) (by (with_reducible repeat (first | refine blk_drewN ?_ _ | refine blk_drew ?_ | refine blk_alloc ?_ _)); exact BK166.out)) : gb167 ≠ gb166)); clear BK166; clear HB; have BK166 := n0_; have HB := n1_; have BK167 := n2_; have GW167 := n3_; have GE167 := n4_; have NB166_167 := n5_; have NB167_166 := n6_; clear n0_ n1_ n2_ n3_ n4_ n5_ n6_; clear hb hbox hg; have hnb19 := NB166_167.out; have hnc19 := NB167_166.out; have hcz20_0 : w18.cell? ⟨gb166, 0, none⟩ = some (.slice A0_0 l0_0.length c0_0) := (blk_cell BK166.out 0).trans rfl; have hcz20_1 : w18.cell? ⟨gb166, 1, none⟩ = some (.slice A0_1 l0_1.length c0_1) := (blk_cell BK166.out 1).trans rfl; have hfz20_0 := blk_frozen BK166.out 0; have hfz20_1 := blk_frozen BK166.out 1; have hcz21_0 : w18.cell? ⟨gb167, 0, none⟩ = some (.slice A1_0 l1_0.length c1_0) := (blk_cell BK167.out 0).trans rfl; have hcz21_1 : w18.cell? ⟨gb167, 1, none⟩ = some (.slice A1_1 l1_1.length c1_1) := (blk_cell BK167.out 1).trans rfl; have hfz21_0 := blk_frozen BK167.out 0; have hfz21_1 := blk_frozen BK167.out 1) | ((with_reducible refine gate_callee (f := 29) rfl ?_); refine goesL_ (some 9) rfl rfl Try.func29 (by kernel_rfl) rfl #[.slice A0_0 l0_0.length c0_0, .slice A1_0 l1_0.length c1_0] rfl (by (try simp only [List.map_toArray, List.map_cons, List.map_nil]); first | done | rfl | (simp only [List.length_drop, List.length_take]; rfl)) ?_; (with_reducible refine (laws_eqBoolS.calls k _ _ l0_0 _ _ l1_0 false _ ?side1 ?side2 ?side3 ?side4 A3.out).mono ?_); (case side1 => repeat (first | exact (Kd.C_below HR0_0.out HB.out) | (with_reducible refine Kd.C_alloc ?_ _) | (with_reducible refine Kd.C_drewN ?_ _) | (with_reducible refine Kd.C_drew ?_))); (case side2 => exact HC0_0.out); (case side3 => repeat (first | exact (Kd.C_below HR1_0.out HB.out) | (with_reducible refine Kd.C_alloc ?_ _) | (with_reducible refine Kd.C_drewN ?_ _) | (with_reducible refine Kd.C_drew ?_))); (case side4 => exact HC1_0.out); rintro e w' ⟨rfl, ⟨nd, rfl⟩⟩; refine ⟨_, rfl, ?_⟩))
    go_ret
    exact ⟨by first | rfl | (simp [errW_none, errW_some] <;> rfl) | (simp [*, errW_none, errW_some] <;> rfl), by repeat (first | (with_reducible first | exact HB.out | apply below_alloc | apply pw_below_drewN | apply below_drew1 | refine below_set ?_ GE166.out | refine below_set ?_ GE167.out) | exact HB.out)⟩

end Go.Proofs.Ytmphligplngeaaa.GFnExactEvalLogic

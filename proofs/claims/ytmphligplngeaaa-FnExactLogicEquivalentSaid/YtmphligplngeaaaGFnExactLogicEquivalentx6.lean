/- Functions of the program as Lean functions, with proofs that the machine comes to their answers; written by this session's program mkprint.py; no condition beyond each theorem's own. -/
import Derived.Test.YtmphligplngeaaaGFnExactLogicEquivalentx0
import Derived.Test.YtmphligplngeaaaGFnExactLogicEquivalentx3
import Derived.Test.YtmphligplngeaaaGFnExactLogicEquivalentx4
import Derived.Test.YtmphligplngeaaaGFnExactLogicEquivalentx5
namespace Go.Proofs.Ytmphligplngeaaa.GFnExactLogicEquivalent
open Go.RowKit Go.Proofs.YtmphligplngeaaaV.PrintWords Go.Proofs.YtmphligplngeaaaV.PrintLast Go.Proofs.YtmphligplngeaaaV.PrintMore
attribute [local go_sem] max2_int min2_int max_two min_two max_three min_three max_four min_four   -- for this text's walks alone
set_option linter.unusedVariables false
set_option linter.unusedSimpArgs false

/-! ### impl_table: function 50 -/
theorem impl_table.rd_take {st : List Bool} {m : Nat} (h : m + 1 ≤ st.length) : rdOf false (st.take (m + 1)) (m : Int) = rdOf false st (m : Int) := by
  simp [rdOf, List.getD_eq_getElem?_getD, List.getElem?_take]
/-- pop: the last value; the stack goes on without it. -/
theorem impl_table.pop (g g2 n c : Nat) (top : Bool) (w : World) (hn : 1 ≤ n) (hbig : n ≤ 1000000) (hc : n ≤ c) (hbox : w.heap[g]? = some (.cells #[.slice (some ⟨g2, 0, none⟩) n c] 42 (0, 0))) (hcell : w.cell? ⟨g2, n - 1, none⟩ = some (.bool top)) :
    Calls Try.prog 71 #[.pointer (some ⟨g, 0, none⟩)] w fun e w' => e = .returned (.bool top) ∧ w' = w.setCell ⟨g, 0, none⟩ (.slice (some ⟨g2, 0, none⟩) (n - 1) c) := by
  have hbc : w.cell? ⟨g, 0, none⟩ = some (.slice (some ⟨g2, 0, none⟩) n c) := (blk_cell hbox 0).trans rfl
  have hbf : w.frozen? ⟨g, 0, none⟩ = false := blk_frozen hbox 0
  have w1 : wrap64 ((n : Int) - 1) = ((n - 1 : Nat) : Int) := by unfold wrap64; omega
  have b2 : ((n - 1 : Nat) : Int) < (n : Int) := by omega
  have b3 : ((n - 1 : Nat) : Int) ≤ (c : Int) := by omega
  clear hbox hn hbig hc
  go_enter Try.func71, Try.ntmps71
  go_wp2
  go_ret
  exact ⟨rfl, rfl⟩
set_option maxHeartbeats 8000000 in
set_option maxRecDepth 100000 in
theorem impl_table.eval (bits : List Bool) (A0 : Option Addr) (c0 : Nat) (l0 : List S69) (cap : Value) (r : Bool) (w : World) (hr0 : Kd.C k69 w A0 l0.length l0) (h : evl.val bits l0 = some r)
    (hbit : ∀ (n : Int) (w' : World), 0 ≤ n → n < (bits.length : Int) → Below w.heap.size w w' → Calls Try.prog 66 #[.int .i64 n, cap] w' fun e w'' => e = .returned (.bool (rdOf false bits n)) ∧ Below w'.heap.size w' w'') :
    Calls Try.prog 62 #[.slice A0 l0.length c0, .func (.func 66) #[] #[cap]] w fun e w' => e = .returned (.bool r) ∧ Below w.heap.size w w' := by
  have hu69 := Try.underlying69
  unfold evl.val at h
  by_cases hb : l0.length ≤ 1000000
  · rw [if_pos hb] at h
    obtain ⟨sf, hrun, hfin⟩ := Option.bind_eq_some_iff.mp h
    have HR0 := Aside0.mk hr0
    have HX := Aside0.mk hrun
    have HF := Aside0.mk hfin
    have HL := Aside0.mk hb
    have HBIT := Aside0.mk hbit
    clear h hr0 hrun hfin hb hbit
    go_enter Try.func62, Try.ntmps62
    go_wp2_with (first | ((with_reducible refine gate_dst (N := 5) rfl ?_); refine box_event ?hg (N := 5) ?hd (cs := #[.slice none 0 0]) (t := 42) ?hr ?_; (case hd => rfl); (case hg => rfl); (case hr => first | (go_simp; done) | (go_simp; rfl)); intro gs hg w1 hbox hb; have BK0 := Aside0.mk hbox; have HB1 := Aside0.mk hb; have GS := Aside0.mk (show w.heap.size ≤ gs from by rw [hg]; exact Nat.le_refl _); clear hb hbox hg))
    go_loopg [17] l0.length (fun gg v17 wr => ∃ (st : List Bool) (i : Nat) (v5 : Value), v17 = .int .i64 (i : Int) ∧ Aside0 (evl.run bits (l0.drop i) st = some sf) ∧ Aside0 (i + gg = l0.length) ∧ Aside0 (st.length ≤ i) ∧ Aside0 (wr.heap[gs]? = some (.cells #[v5] 42 (0, 0))) ∧ Aside0 (Kd.R Kd.bool 4 wr w.heap.size (fun _ => True) v5 st) ∧ Aside0 (Below w.heap.size w wr))
    case atStart => exact ⟨[], 0, .slice none 0 0, rfl, HX, ⟨by omega⟩, ⟨Nat.le_refl _⟩, BK0, ⟨Kd.R_nil _ _ _ _ _⟩, HB1⟩
    case round =>
      obtain ⟨st, i, v5, rfl, HA, HN, HS, BK, HO, HB⟩ := hrel
      obtain ⟨A, c, e5⟩ := Kd.R_slice HO.out
      subst e5
      cases gk with
      | zero =>
        have hi : i = l0.length := HN.out
        subst hi
        have hst : st = sf := by
          have := HA.out
          rw [List.drop_length] at this
          exact Option.some.inj this
        subst hst
        have hF := HF.out
        by_cases hp : 0 < st.length
        · rw [if_pos hp] at hF
          have hrr := Option.some.inj hF
          obtain ⟨_, _, hcc⟩ := Kd.R_reads' HO.out
          obtain ⟨ad, e1, hx⟩ := Kd.at_bool hcc 0 (by omega) (by omega)
          subst e1
          have hltz : ¬ ((l0.length : Int) < (l0.length : Int)) := by omega
          have hpz : (0 : Int) < (st.length : Int) := by omega
          rw [hrr, show ad.add (Int.toNat 0) = ad by simp [Addr.add]] at hx
          have hbc : wr.cell? ⟨gs, 0, none⟩ = some (.slice (some ad) st.length c) := (blk_cell BK.out 0).trans rfl
          clear hcc hF hp hrr
          go_wp2
          go_ret
          exact ⟨rfl, HB.out⟩
        · rw [if_neg hp] at hF
          exact absurd hF (by simp)
      | succ m =>
        have hlt : i < l0.length := by have := HN.out; omega
        have hltz : (i : Int) < (l0.length : Int) := by omega
        have hdr : l0.drop i = l0[i] :: l0.drop (i + 1) := List.drop_eq_getElem_cons hlt
        have hA := HA.out
        rw [hdr] at hA
        obtain ⟨s2, hs, hA⟩ := Option.bind_eq_some_iff.mp hA
        have HS2 := Aside0.mk (evl.step_len hs)
        have HA2 := Aside0.mk hA
        obtain ⟨ad, e1, hx0, hx1⟩ := at_T69 HR0.out (i : Int) (by omega) (by omega)
        have hrd : rd_T69 l0 (i : Int) = l0[i] := by unfold rd_T69; rw [Int.toNat_natCast, List.getD_eq_getElem?_getD, List.getElem?_eq_getElem hlt]; rfl
        rw [hrd] at hx0 hx1
        simp only [Int.toNat_natCast] at hx0 hx1
        subst e1
        replace hx0 := (HB.out.cell (World.block_lt_of_cell? w _ hx0)).trans hx0
        replace hx1 := (HB.out.cell (World.block_lt_of_cell? w _ hx1)).trans hx1
        generalize l0[i] = x at hs hx0 hx1
        have HST := Aside0.mk hs
        clear hdr hA HA hrd hs
        go_upto_region 7 with (first | ((with_reducible refine gate_dst (N := 8) rfl ?_); refine box_event ?hg (N := 8) ?hd (cs := #[.int .i64 0, .int .i64 0]) (t := 69) ?hr ?_; (case hd => rfl); (case hg => rfl); (case hr => first | (go_simp; done) | (go_simp; rfl)); intro gx hg w2 hbox hb; have BX := Aside0.mk hbox; have HB2 := Aside0.mk (below_step HB.out hb); have HO2 := Aside0.mk (Kd.R_below HO.out hb); have BK2 := Aside0.mk (blk_below BK.out hb); have GX := Aside0.mk (show w.heap.size ≤ gx from by rw [hg]; exact below_size HB.out); clear hb hbox hg; clear HB HO BK; have hcz0 : w2.cell? ⟨gx, 0, none⟩ = some (.int .i64 0) := (blk_cell BX.out 0).trans rfl; have hcz1 : w2.cell? ⟨gx, 1, none⟩ = some (.int .i64 0) := (blk_cell BX.out 1).trans rfl; have hfz0 := blk_frozen BX.out 0; have hfz1 := blk_frozen BX.out 1))
        clear hcz0 hcz1 hfz0 hfz1 hx0 hx1
        have NX := Aside0.mk (blk_ne BK2.out BX.out (by decide))
        have BX3 := Aside0.mk (blk_put (cs' := #[.int .i64 x.f0, .int .i64 x.f1]) (blk_put (cs' := #[.int .i64 x.f0, .int .i64 0]) BX.out 0 (.int .i64 x.f0) rfl) 1 (.int .i64 x.f1) rfl)
        have BK := Aside0.mk (blk_far (p := ⟨gx, 1, none⟩) (blk_far (p := ⟨gx, 0, none⟩) BK2.out NX.out (.int .i64 x.f0)) NX.out (.int .i64 x.f1))
        have HO := Aside0.mk (Kd.R_set (Kd.R_set HO2.out BX.out (by decide) 0 (.int .i64 x.f0)) (blk_put (cs' := #[.int .i64 x.f0, .int .i64 0]) BX.out 0 (.int .i64 x.f0) rfl) (by decide) 1 (.int .i64 x.f1))
        have HB := Aside0.mk (below_set (j := 1) (v := .int .i64 x.f1) (below_set (j := 0) (v := .int .i64 x.f0) HB2.out GX.out) GX.out)
        clear BX HB2 HO2 BK2
        generalize (w2.setCell ⟨gx, 0, none⟩ (.int .i64 x.f0)).setCell ⟨gx, 1, none⟩ (.int .i64 x.f1) = W1 at BX3 BK HO HB ⊢
        have hx0 : W1.cell? ⟨gx, 0, none⟩ = some (.int .i64 x.f0) := (blk_cell BX3.out 0).trans rfl
        have hx1 : W1.cell? ⟨gx, 1, none⟩ = some (.int .i64 x.f1) := (blk_cell BX3.out 1).trans rfl
        have hs := HST.out
        clear HST BX3 NX GX
        unfold evl.step at hs
        by_cases k1 : x.f0 = 1
        · rw [if_pos k1] at hs
          have kb1 : (x.f0 == 1) = true := by rw [k1]; rfl
          have kb6 : (x.f0 == 6) = false := by rw [k1]; rfl
          have kb2 : (x.f0 == 2) = false := by rw [k1]; rfl
          have kb3 : (x.f0 == 3) = false := by rw [k1]; rfl
          have kb4 : (x.f0 == 4) = false := by rw [k1]; rfl
          have kb5 : (x.f0 == 5) = false := by rw [k1]; rfl
          by_cases kb : 0 ≤ x.f1 ∧ x.f1 < (bits.length : Int)
          · rw [if_pos kb] at hs
            obtain rfl := Option.some.inj hs
            have hcon := HBIT.out x.f1 W1 kb.1 kb.2 HB.out
            generalize hv : rdOf false bits x.f1 = v at hcon HA2 HS2
            clear hs kb hv k1
            go_wp2_with fail
            go_at_call 66
            refine hcon.mono ?_
            rintro e W2 ⟨rfl, hb⟩
            have BK3 := Aside0.mk (blk_below BK.out hb)
            have HO3 := Aside0.mk (Kd.R_below HO.out hb)
            have HB3 := Aside0.mk (below_step HB.out hb)
            clear hb hcon
            have hbc : W2.cell? ⟨gs, 0, none⟩ = some (.slice A st.length c) := (blk_cell BK3.out 0).trans rfl
            go_wp2_with (first | ((with_reducible refine gate_builtin (b := .append) (xs := #[.tmp 63, .tmp 65]) rfl ?_); at_builtin; refine Kd.R_append Kd.bool (w0 := w) w.heap.size rfl (.tmp 63) (.tmp 65) 42 4 (.bool false) 1 rfl Try.underlying42 info4 rfl (by decide) (by omega) _ (st) (v) [.bool (v)] (fun _ => True) (fun _ => False) rfl rfl ?aP (fun _ hk => hk.elim) ?aF ?aO ?aB ?aS ?aL ?_; (case aP => exact rfl); (case aB => exact HB3.out); (case aF => exact (fun _ _ => trivial)); (case aO => exact HO3.out); (case aS => exact (below_size HB3.out)); (case aL => have := HS.out; have := HN.out; have := HL.out; (try simp only [List.length_take]); omega); intro v153 w25 ho hb hg hat; obtain ⟨A5_, c5_, e5_⟩ := Kd.R_slice ho; generalize (st ++ [v]).length = n5_ at e5_; subst e5_; have HB5 := Aside0.mk hb; have HO5 := Aside0.mk ho; have BK5 := Aside0.mk (blk_grown BK3.out hg (Kd.R_ne HO3.out BK3.out (by decide))); clear ho hb hg hat; clear hbc; have hbc5 : w25.cell? ⟨gs, 0, none⟩ = some (.slice A st.length c) := (blk_cell BK5.out 0).trans rfl; have hbf5 := blk_frozen BK5.out 0))
            go_roundg m
            case measure => omega
            case rel => exact ⟨_, i + 1, _, (by first | rw [show wrap64 ((i : Int) + 1) = ((i + 1 : Nat) : Int) from by have := HL.out; have := HN.out; unfold wrap64; omega] | go_num), HA2, ⟨by have := HN.out; omega⟩, ⟨by have := HS.out; have := HS2.out; omega⟩, ⟨blk_put BK5.out 0 _ rfl⟩, ⟨Kd.R_set HO5.out BK5.out (by decide) 0 _⟩, ⟨below_set HB5.out GS.out⟩⟩
          · rw [if_neg kb] at hs
            exact absurd hs (by simp)
        · rw [if_neg k1] at hs
          by_cases k2 : x.f0 = 2
          · rw [if_pos k2] at hs
            have kb1 : (x.f0 == 1) = false := by rw [k2]; rfl
            have kb6 : (x.f0 == 6) = false := by rw [k2]; rfl
            have kb2 : (x.f0 == 2) = true := by rw [k2]; rfl
            have kb3 : (x.f0 == 3) = false := by rw [k2]; rfl
            have kb4 : (x.f0 == 4) = false := by rw [k2]; rfl
            have kb5 : (x.f0 == 5) = false := by rw [k2]; rfl
            by_cases kb : 1 ≤ st.length
            · rw [if_pos kb] at hs
              obtain rfl := Option.some.inj hs
              clear k1 k2
              obtain ⟨g, cap', e5, hgb, hgl, hgc⟩ := Kd.R_form HO.out (by omega)
              injection e5 with ea en ec
              subst ea ec
              clear en hgc hgb hgl
              have hcap := (Kd.R_reads' HO.out).2.1
              have hv1 := (Kd.R_celln false HO.out ((st.length - 1 : Nat) : Int) (by omega) (by omega)).1
              simp only [Int.toNat_natCast] at hv1
              generalize hv : rdOf false st ((st.length - 1 : Nat) : Int) = v at hv1 HA2 HS2
              have BK3 := Aside0.mk (blk_put (cs' := #[.slice (some ⟨g, 0, none⟩) (st.length - 1) c]) BK.out 0 (.slice (some ⟨g, 0, none⟩) (st.length - 1) c) rfl)
              have HO3 := Aside0.mk (Kd.R_set (Kd.R_take HO.out (show st.length - 1 ≤ st.length by omega)) BK.out (by decide) 0 (.slice (some ⟨g, 0, none⟩) (st.length - 1) c))
              have HB3 := Aside0.mk (below_set (j := 0) (v := .slice (some ⟨g, 0, none⟩) (st.length - 1) c) HB.out GS.out)
              have HL1 := Aside0.mk (show 1 ≤ st.length by omega)
              have HCAP := Aside0.mk hcap
              have HV1 := Aside0.mk hv1
              clear hs hv kb hcap hv1
              go_wp2_with fail
              go_at_call 71
              refine (impl_table.pop gs g st.length c v W1 HL1.out (by have := HS.out; have := HN.out; have := HL.out; omega) HCAP.out BK.out HV1.out).mono ?_
              rintro e w' ⟨rfl, rfl⟩
              generalize hW2 : W1.setCell ⟨gs, 0, none⟩ (.slice (some ⟨g, 0, none⟩) (st.length - 1) c) = W2 at BK3 HO3 HB3 ⊢
              clear hW2
              have hbc : W2.cell? ⟨gs, 0, none⟩ = some (.slice (some ⟨g, 0, none⟩) (st.length - 1) c) := (blk_cell BK3.out 0).trans rfl
              go_wp2_with (first | ((with_reducible refine gate_builtin (b := .append) (xs := #[.tmp 63, .tmp 65]) rfl ?_); at_builtin; refine Kd.R_append Kd.bool (w0 := w) w.heap.size rfl (.tmp 63) (.tmp 65) 42 4 (.bool false) 1 rfl Try.underlying42 info4 rfl (by decide) (by omega) _ (st.take (st.length - 1)) (!v) [.bool (!v)] (fun _ => True) (fun _ => False) rfl rfl ?aP (fun _ hk => hk.elim) ?aF ?aO ?aB ?aS ?aL ?_; (case aP => exact rfl); (case aB => exact HB3.out); (case aF => exact (fun _ _ => trivial)); (case aO => exact HO3.out); (case aS => exact (below_size HB3.out)); (case aL => have := HS.out; have := HN.out; have := HL.out; (try simp only [List.length_take]); omega); intro v153 w25 ho hb hg hat; obtain ⟨A5_, c5_, e5_⟩ := Kd.R_slice ho; generalize (st.take (st.length - 1) ++ [!v]).length = n5_ at e5_; subst e5_; have HB5 := Aside0.mk hb; have HO5 := Aside0.mk ho; have BK5 := Aside0.mk (blk_grown BK3.out hg (Kd.R_ne HO3.out BK3.out (by decide))); clear ho hb hg hat; clear hbc; have hbc5 : w25.cell? ⟨gs, 0, none⟩ = some (.slice (some ⟨g, 0, none⟩) (st.length - 1) c) := (blk_cell BK5.out 0).trans rfl; have hbf5 := blk_frozen BK5.out 0))
              go_roundg m
              case measure => omega
              case rel => exact ⟨_, i + 1, _, (by first | rw [show wrap64 ((i : Int) + 1) = ((i + 1 : Nat) : Int) from by have := HL.out; have := HN.out; unfold wrap64; omega] | go_num), HA2, ⟨by have := HN.out; omega⟩, ⟨by have := HS.out; have := HS2.out; omega⟩, ⟨blk_put BK5.out 0 _ rfl⟩, ⟨Kd.R_set HO5.out BK5.out (by decide) 0 _⟩, ⟨below_set HB5.out GS.out⟩⟩
            · rw [if_neg kb] at hs
              exact absurd hs (by simp)
          · rw [if_neg k2] at hs
            by_cases k3 : x.f0 = 3
            · rw [if_pos k3] at hs
              have kb1 : (x.f0 == 1) = false := by rw [k3]; rfl
              have kb6 : (x.f0 == 6) = false := by rw [k3]; rfl
              have kb2 : (x.f0 == 2) = false := by rw [k3]; rfl
              have kb3 : (x.f0 == 3) = true := by rw [k3]; rfl
              have kb4 : (x.f0 == 4) = false := by rw [k3]; rfl
              have kb5 : (x.f0 == 5) = false := by rw [k3]; rfl
              by_cases kb : 2 ≤ st.length
              · rw [if_pos kb] at hs
                obtain rfl := Option.some.inj hs
                clear k1 k2 k3
                obtain ⟨g, cap', e5, hgb, hgl, hgc⟩ := Kd.R_form HO.out (by omega)
                injection e5 with ea en ec
                subst ea ec
                clear en hgc hgb hgl
                have hcap := (Kd.R_reads' HO.out).2.1
                have hv1 := (Kd.R_celln false HO.out ((st.length - 1 : Nat) : Int) (by omega) (by omega)).1
                have hu1 := (Kd.R_celln false HO.out ((st.length - 2 : Nat) : Int) (by omega) (by omega)).1
                simp only [Int.toNat_natCast] at hv1 hu1
                generalize hv : rdOf false st ((st.length - 1 : Nat) : Int) = v at hv1 HA2 HS2
                generalize hu : rdOf false st ((st.length - 2 : Nat) : Int) = u at hu1 HA2 HS2
                have BK3 := Aside0.mk (blk_put (cs' := #[.slice (some ⟨g, 0, none⟩) (st.length - 1) c]) BK.out 0 (.slice (some ⟨g, 0, none⟩) (st.length - 1) c) rfl)
                have HO3 := Aside0.mk (Kd.R_set (Kd.R_take HO.out (show st.length - 1 ≤ st.length by omega)) BK.out (by decide) 0 (.slice (some ⟨g, 0, none⟩) (st.length - 1) c))
                have HB3 := Aside0.mk (below_set (j := 0) (v := .slice (some ⟨g, 0, none⟩) (st.length - 1) c) HB.out GS.out)
                have hu2 : (W1.setCell ⟨gs, 0, none⟩ (.slice (some ⟨g, 0, none⟩) (st.length - 1) c)).cell? ⟨g, st.length - 1 - 1, none⟩ = some (.bool u) := (cell_far (p := ⟨gs, 0, none⟩) (a := ⟨g, st.length - 1 - 1, none⟩) (fun e => Kd.R_ne HO.out BK.out (by decide) (congrArg some (Eq.symm e))) _).trans hu1
                have BK4 := Aside0.mk (blk_put (cs' := #[.slice (some ⟨g, 0, none⟩) (st.length - 1 - 1) c]) BK3.out 0 (.slice (some ⟨g, 0, none⟩) (st.length - 1 - 1) c) rfl)
                have HO4 := Aside0.mk (Kd.R_set (Kd.R_take HO3.out (show st.length - 1 - 1 ≤ (st.take (st.length - 1)).length by simp only [List.length_take]; omega)) BK3.out (by decide) 0 (.slice (some ⟨g, 0, none⟩) (st.length - 1 - 1) c))
                have HO5_ := HO4.out
                rw [List.take_take, Nat.min_eq_left (by omega)] at HO5_
                clear HO4
                have HO4 := Aside0.mk HO5_
                clear HO5_
                have HB4 := Aside0.mk (below_set (j := 0) (v := .slice (some ⟨g, 0, none⟩) (st.length - 1 - 1) c) HB3.out GS.out)
                have HU2 := Aside0.mk hu2
                clear hu2
                have HL1 := Aside0.mk (show 1 ≤ st.length by omega)
                have HL2 := Aside0.mk (show 2 ≤ st.length by omega)
                have HCAP := Aside0.mk hcap
                have HV1 := Aside0.mk hv1
                clear hs hv kb hcap hv1 hu hu1
                go_wp2_with fail
                go_at_call 71
                refine (impl_table.pop gs g st.length c v W1 HL1.out (by have := HS.out; have := HN.out; have := HL.out; omega) HCAP.out BK.out HV1.out).mono ?_
                rintro e w' ⟨rfl, rfl⟩
                generalize hW2 : W1.setCell ⟨gs, 0, none⟩ (.slice (some ⟨g, 0, none⟩) (st.length - 1) c) = W2 at BK3 HO3 HB3 BK4 HO4 HB4 HU2 ⊢
                clear hW2
                go_wp2_with fail
                go_at_call 71
                refine (impl_table.pop gs g (st.length - 1) c u W2 (by have := HL2.out; omega) (by have := HS.out; have := HN.out; have := HL.out; omega) (by have := HCAP.out; omega) BK3.out HU2.out).mono ?_
                rintro e w' ⟨rfl, rfl⟩
                generalize hW3 : W2.setCell ⟨gs, 0, none⟩ (.slice (some ⟨g, 0, none⟩) (st.length - 1 - 1) c) = W3 at BK4 HO4 HB4 ⊢
                clear hW3
                try rw [show st.length - 2 = st.length - 1 - 1 by omega] at HA2 HS2
                cases u with
                | false =>
                  simp only [Bool.false_and] at HA2 HS2
                  have hbc : W3.cell? ⟨gs, 0, none⟩ = some (.slice (some ⟨g, 0, none⟩) (st.length - 1 - 1) c) := (blk_cell BK4.out 0).trans rfl
                  go_wp2_with (first | ((with_reducible refine gate_builtin (b := .append) (xs := #[.tmp 63, .tmp 65]) rfl ?_); at_builtin; refine Kd.R_append Kd.bool (w0 := w) w.heap.size rfl (.tmp 63) (.tmp 65) 42 4 (.bool false) 1 rfl Try.underlying42 info4 rfl (by decide) (by omega) _ (st.take (st.length - 1 - 1)) (false) [.bool (false)] (fun _ => True) (fun _ => False) rfl rfl ?aP (fun _ hk => hk.elim) ?aF ?aO ?aB ?aS ?aL ?_; (case aP => exact rfl); (case aB => exact HB4.out); (case aF => exact (fun _ _ => trivial)); (case aO => exact HO4.out); (case aS => exact (below_size HB4.out)); (case aL => have := HS.out; have := HN.out; have := HL.out; (try simp only [List.length_take]); omega); intro v153 w25 ho hb hg hat; obtain ⟨A5_, c5_, e5_⟩ := Kd.R_slice ho; generalize (st.take (st.length - 1 - 1) ++ [false]).length = n5_ at e5_; subst e5_; have HB5 := Aside0.mk hb; have HO5 := Aside0.mk ho; have BK5 := Aside0.mk (blk_grown BK4.out hg (Kd.R_ne HO4.out BK4.out (by decide))); clear ho hb hg hat; clear hbc; have hbc5 : w25.cell? ⟨gs, 0, none⟩ = some (.slice (some ⟨g, 0, none⟩) (st.length - 1 - 1) c) := (blk_cell BK5.out 0).trans rfl; have hbf5 := blk_frozen BK5.out 0))
                  go_roundg m
                  case measure => omega
                  case rel => exact ⟨_, i + 1, _, (by first | rw [show wrap64 ((i : Int) + 1) = ((i + 1 : Nat) : Int) from by have := HL.out; have := HN.out; unfold wrap64; omega] | go_num), HA2, ⟨by have := HN.out; omega⟩, ⟨by have := HS.out; have := HS2.out; omega⟩, ⟨blk_put BK5.out 0 _ rfl⟩, ⟨Kd.R_set HO5.out BK5.out (by decide) 0 _⟩, ⟨below_set HB5.out GS.out⟩⟩
                | true =>
                  simp only [Bool.true_and] at HA2 HS2
                  have hbc : W3.cell? ⟨gs, 0, none⟩ = some (.slice (some ⟨g, 0, none⟩) (st.length - 1 - 1) c) := (blk_cell BK4.out 0).trans rfl
                  go_wp2_with (first | ((with_reducible refine gate_builtin (b := .append) (xs := #[.tmp 63, .tmp 65]) rfl ?_); at_builtin; refine Kd.R_append Kd.bool (w0 := w) w.heap.size rfl (.tmp 63) (.tmp 65) 42 4 (.bool false) 1 rfl Try.underlying42 info4 rfl (by decide) (by omega) _ (st.take (st.length - 1 - 1)) (v) [.bool (v)] (fun _ => True) (fun _ => False) rfl rfl ?aP (fun _ hk => hk.elim) ?aF ?aO ?aB ?aS ?aL ?_; (case aP => exact rfl); (case aB => exact HB4.out); (case aF => exact (fun _ _ => trivial)); (case aO => exact HO4.out); (case aS => exact (below_size HB4.out)); (case aL => have := HS.out; have := HN.out; have := HL.out; (try simp only [List.length_take]); omega); intro v153 w25 ho hb hg hat; obtain ⟨A5_, c5_, e5_⟩ := Kd.R_slice ho; generalize (st.take (st.length - 1 - 1) ++ [v]).length = n5_ at e5_; subst e5_; have HB5 := Aside0.mk hb; have HO5 := Aside0.mk ho; have BK5 := Aside0.mk (blk_grown BK4.out hg (Kd.R_ne HO4.out BK4.out (by decide))); clear ho hb hg hat; clear hbc; have hbc5 : w25.cell? ⟨gs, 0, none⟩ = some (.slice (some ⟨g, 0, none⟩) (st.length - 1 - 1) c) := (blk_cell BK5.out 0).trans rfl; have hbf5 := blk_frozen BK5.out 0))
                  go_roundg m
                  case measure => omega
                  case rel => exact ⟨_, i + 1, _, (by first | rw [show wrap64 ((i : Int) + 1) = ((i + 1 : Nat) : Int) from by have := HL.out; have := HN.out; unfold wrap64; omega] | go_num), HA2, ⟨by have := HN.out; omega⟩, ⟨by have := HS.out; have := HS2.out; omega⟩, ⟨blk_put BK5.out 0 _ rfl⟩, ⟨Kd.R_set HO5.out BK5.out (by decide) 0 _⟩, ⟨below_set HB5.out GS.out⟩⟩
              · rw [if_neg kb] at hs
                exact absurd hs (by simp)
            · rw [if_neg k3] at hs
              by_cases k4 : x.f0 = 4
              · rw [if_pos k4] at hs
                have kb1 : (x.f0 == 1) = false := by rw [k4]; rfl
                have kb6 : (x.f0 == 6) = false := by rw [k4]; rfl
                have kb2 : (x.f0 == 2) = false := by rw [k4]; rfl
                have kb3 : (x.f0 == 3) = false := by rw [k4]; rfl
                have kb4 : (x.f0 == 4) = true := by rw [k4]; rfl
                have kb5 : (x.f0 == 5) = false := by rw [k4]; rfl
                by_cases kb : 2 ≤ st.length
                · rw [if_pos kb] at hs
                  obtain rfl := Option.some.inj hs
                  clear k1 k2 k3 k4
                  obtain ⟨g, cap', e5, hgb, hgl, hgc⟩ := Kd.R_form HO.out (by omega)
                  injection e5 with ea en ec
                  subst ea ec
                  clear en hgc hgb hgl
                  have hcap := (Kd.R_reads' HO.out).2.1
                  have hv1 := (Kd.R_celln false HO.out ((st.length - 1 : Nat) : Int) (by omega) (by omega)).1
                  have hu1 := (Kd.R_celln false HO.out ((st.length - 2 : Nat) : Int) (by omega) (by omega)).1
                  simp only [Int.toNat_natCast] at hv1 hu1
                  generalize hv : rdOf false st ((st.length - 1 : Nat) : Int) = v at hv1 HA2 HS2
                  generalize hu : rdOf false st ((st.length - 2 : Nat) : Int) = u at hu1 HA2 HS2
                  have BK3 := Aside0.mk (blk_put (cs' := #[.slice (some ⟨g, 0, none⟩) (st.length - 1) c]) BK.out 0 (.slice (some ⟨g, 0, none⟩) (st.length - 1) c) rfl)
                  have HO3 := Aside0.mk (Kd.R_set (Kd.R_take HO.out (show st.length - 1 ≤ st.length by omega)) BK.out (by decide) 0 (.slice (some ⟨g, 0, none⟩) (st.length - 1) c))
                  have HB3 := Aside0.mk (below_set (j := 0) (v := .slice (some ⟨g, 0, none⟩) (st.length - 1) c) HB.out GS.out)
                  have hu2 : (W1.setCell ⟨gs, 0, none⟩ (.slice (some ⟨g, 0, none⟩) (st.length - 1) c)).cell? ⟨g, st.length - 1 - 1, none⟩ = some (.bool u) := (cell_far (p := ⟨gs, 0, none⟩) (a := ⟨g, st.length - 1 - 1, none⟩) (fun e => Kd.R_ne HO.out BK.out (by decide) (congrArg some (Eq.symm e))) _).trans hu1
                  have BK4 := Aside0.mk (blk_put (cs' := #[.slice (some ⟨g, 0, none⟩) (st.length - 1 - 1) c]) BK3.out 0 (.slice (some ⟨g, 0, none⟩) (st.length - 1 - 1) c) rfl)
                  have HO4 := Aside0.mk (Kd.R_set (Kd.R_take HO3.out (show st.length - 1 - 1 ≤ (st.take (st.length - 1)).length by simp only [List.length_take]; omega)) BK3.out (by decide) 0 (.slice (some ⟨g, 0, none⟩) (st.length - 1 - 1) c))
                  have HO5_ := HO4.out
                  rw [List.take_take, Nat.min_eq_left (by omega)] at HO5_
                  clear HO4
                  have HO4 := Aside0.mk HO5_
                  clear HO5_
                  have HB4 := Aside0.mk (below_set (j := 0) (v := .slice (some ⟨g, 0, none⟩) (st.length - 1 - 1) c) HB3.out GS.out)
                  have HU2 := Aside0.mk hu2
                  clear hu2
                  have HL1 := Aside0.mk (show 1 ≤ st.length by omega)
                  have HL2 := Aside0.mk (show 2 ≤ st.length by omega)
                  have HCAP := Aside0.mk hcap
                  have HV1 := Aside0.mk hv1
                  clear hs hv kb hcap hv1 hu hu1
                  go_wp2_with fail
                  go_at_call 71
                  refine (impl_table.pop gs g st.length c v W1 HL1.out (by have := HS.out; have := HN.out; have := HL.out; omega) HCAP.out BK.out HV1.out).mono ?_
                  rintro e w' ⟨rfl, rfl⟩
                  generalize hW2 : W1.setCell ⟨gs, 0, none⟩ (.slice (some ⟨g, 0, none⟩) (st.length - 1) c) = W2 at BK3 HO3 HB3 BK4 HO4 HB4 HU2 ⊢
                  clear hW2
                  go_wp2_with fail
                  go_at_call 71
                  refine (impl_table.pop gs g (st.length - 1) c u W2 (by have := HL2.out; omega) (by have := HS.out; have := HN.out; have := HL.out; omega) (by have := HCAP.out; omega) BK3.out HU2.out).mono ?_
                  rintro e w' ⟨rfl, rfl⟩
                  generalize hW3 : W2.setCell ⟨gs, 0, none⟩ (.slice (some ⟨g, 0, none⟩) (st.length - 1 - 1) c) = W3 at BK4 HO4 HB4 ⊢
                  clear hW3
                  try rw [show st.length - 2 = st.length - 1 - 1 by omega] at HA2 HS2
                  cases u with
                  | false =>
                    simp only [Bool.false_or] at HA2 HS2
                    have hbc : W3.cell? ⟨gs, 0, none⟩ = some (.slice (some ⟨g, 0, none⟩) (st.length - 1 - 1) c) := (blk_cell BK4.out 0).trans rfl
                    go_wp2_with (first | ((with_reducible refine gate_builtin (b := .append) (xs := #[.tmp 63, .tmp 65]) rfl ?_); at_builtin; refine Kd.R_append Kd.bool (w0 := w) w.heap.size rfl (.tmp 63) (.tmp 65) 42 4 (.bool false) 1 rfl Try.underlying42 info4 rfl (by decide) (by omega) _ (st.take (st.length - 1 - 1)) (v) [.bool (v)] (fun _ => True) (fun _ => False) rfl rfl ?aP (fun _ hk => hk.elim) ?aF ?aO ?aB ?aS ?aL ?_; (case aP => exact rfl); (case aB => exact HB4.out); (case aF => exact (fun _ _ => trivial)); (case aO => exact HO4.out); (case aS => exact (below_size HB4.out)); (case aL => have := HS.out; have := HN.out; have := HL.out; (try simp only [List.length_take]); omega); intro v153 w25 ho hb hg hat; obtain ⟨A5_, c5_, e5_⟩ := Kd.R_slice ho; generalize (st.take (st.length - 1 - 1) ++ [v]).length = n5_ at e5_; subst e5_; have HB5 := Aside0.mk hb; have HO5 := Aside0.mk ho; have BK5 := Aside0.mk (blk_grown BK4.out hg (Kd.R_ne HO4.out BK4.out (by decide))); clear ho hb hg hat; clear hbc; have hbc5 : w25.cell? ⟨gs, 0, none⟩ = some (.slice (some ⟨g, 0, none⟩) (st.length - 1 - 1) c) := (blk_cell BK5.out 0).trans rfl; have hbf5 := blk_frozen BK5.out 0))
                    go_roundg m
                    case measure => omega
                    case rel => exact ⟨_, i + 1, _, (by first | rw [show wrap64 ((i : Int) + 1) = ((i + 1 : Nat) : Int) from by have := HL.out; have := HN.out; unfold wrap64; omega] | go_num), HA2, ⟨by have := HN.out; omega⟩, ⟨by have := HS.out; have := HS2.out; omega⟩, ⟨blk_put BK5.out 0 _ rfl⟩, ⟨Kd.R_set HO5.out BK5.out (by decide) 0 _⟩, ⟨below_set HB5.out GS.out⟩⟩
                  | true =>
                    simp only [Bool.true_or] at HA2 HS2
                    have hbc : W3.cell? ⟨gs, 0, none⟩ = some (.slice (some ⟨g, 0, none⟩) (st.length - 1 - 1) c) := (blk_cell BK4.out 0).trans rfl
                    go_wp2_with (first | ((with_reducible refine gate_builtin (b := .append) (xs := #[.tmp 63, .tmp 65]) rfl ?_); at_builtin; refine Kd.R_append Kd.bool (w0 := w) w.heap.size rfl (.tmp 63) (.tmp 65) 42 4 (.bool false) 1 rfl Try.underlying42 info4 rfl (by decide) (by omega) _ (st.take (st.length - 1 - 1)) (true) [.bool (true)] (fun _ => True) (fun _ => False) rfl rfl ?aP (fun _ hk => hk.elim) ?aF ?aO ?aB ?aS ?aL ?_; (case aP => exact rfl); (case aB => exact HB4.out); (case aF => exact (fun _ _ => trivial)); (case aO => exact HO4.out); (case aS => exact (below_size HB4.out)); (case aL => have := HS.out; have := HN.out; have := HL.out; (try simp only [List.length_take]); omega); intro v153 w25 ho hb hg hat; obtain ⟨A5_, c5_, e5_⟩ := Kd.R_slice ho; generalize (st.take (st.length - 1 - 1) ++ [true]).length = n5_ at e5_; subst e5_; have HB5 := Aside0.mk hb; have HO5 := Aside0.mk ho; have BK5 := Aside0.mk (blk_grown BK4.out hg (Kd.R_ne HO4.out BK4.out (by decide))); clear ho hb hg hat; clear hbc; have hbc5 : w25.cell? ⟨gs, 0, none⟩ = some (.slice (some ⟨g, 0, none⟩) (st.length - 1 - 1) c) := (blk_cell BK5.out 0).trans rfl; have hbf5 := blk_frozen BK5.out 0))
                    go_roundg m
                    case measure => omega
                    case rel => exact ⟨_, i + 1, _, (by first | rw [show wrap64 ((i : Int) + 1) = ((i + 1 : Nat) : Int) from by have := HL.out; have := HN.out; unfold wrap64; omega] | go_num), HA2, ⟨by have := HN.out; omega⟩, ⟨by have := HS.out; have := HS2.out; omega⟩, ⟨blk_put BK5.out 0 _ rfl⟩, ⟨Kd.R_set HO5.out BK5.out (by decide) 0 _⟩, ⟨below_set HB5.out GS.out⟩⟩
                · rw [if_neg kb] at hs
                  exact absurd hs (by simp)
              · rw [if_neg k4] at hs
                by_cases k5 : x.f0 = 5
                · rw [if_pos k5] at hs
                  have kb1 : (x.f0 == 1) = false := by rw [k5]; rfl
                  have kb6 : (x.f0 == 6) = false := by rw [k5]; rfl
                  have kb2 : (x.f0 == 2) = false := by rw [k5]; rfl
                  have kb3 : (x.f0 == 3) = false := by rw [k5]; rfl
                  have kb4 : (x.f0 == 4) = false := by rw [k5]; rfl
                  have kb5 : (x.f0 == 5) = true := by rw [k5]; rfl
                  by_cases kb : 2 ≤ st.length
                  · rw [if_pos kb] at hs
                    obtain rfl := Option.some.inj hs
                    clear k1 k2 k3 k4 k5
                    obtain ⟨g, cap', e5, hgb, hgl, hgc⟩ := Kd.R_form HO.out (by omega)
                    injection e5 with ea en ec
                    subst ea ec
                    clear en hgc hgb hgl
                    have hcap := (Kd.R_reads' HO.out).2.1
                    have hv1 := (Kd.R_celln false HO.out ((st.length - 1 : Nat) : Int) (by omega) (by omega)).1
                    have hu1 := (Kd.R_celln false HO.out ((st.length - 2 : Nat) : Int) (by omega) (by omega)).1
                    simp only [Int.toNat_natCast] at hv1 hu1
                    generalize hv : rdOf false st ((st.length - 1 : Nat) : Int) = v at hv1 HA2 HS2
                    generalize hu : rdOf false st ((st.length - 2 : Nat) : Int) = u at hu1 HA2 HS2
                    have BK3 := Aside0.mk (blk_put (cs' := #[.slice (some ⟨g, 0, none⟩) (st.length - 1) c]) BK.out 0 (.slice (some ⟨g, 0, none⟩) (st.length - 1) c) rfl)
                    have HO3 := Aside0.mk (Kd.R_set (Kd.R_take HO.out (show st.length - 1 ≤ st.length by omega)) BK.out (by decide) 0 (.slice (some ⟨g, 0, none⟩) (st.length - 1) c))
                    have HB3 := Aside0.mk (below_set (j := 0) (v := .slice (some ⟨g, 0, none⟩) (st.length - 1) c) HB.out GS.out)
                    have hu2 : (W1.setCell ⟨gs, 0, none⟩ (.slice (some ⟨g, 0, none⟩) (st.length - 1) c)).cell? ⟨g, st.length - 1 - 1, none⟩ = some (.bool u) := (cell_far (p := ⟨gs, 0, none⟩) (a := ⟨g, st.length - 1 - 1, none⟩) (fun e => Kd.R_ne HO.out BK.out (by decide) (congrArg some (Eq.symm e))) _).trans hu1
                    have BK4 := Aside0.mk (blk_put (cs' := #[.slice (some ⟨g, 0, none⟩) (st.length - 1 - 1) c]) BK3.out 0 (.slice (some ⟨g, 0, none⟩) (st.length - 1 - 1) c) rfl)
                    have HO4 := Aside0.mk (Kd.R_set (Kd.R_take HO3.out (show st.length - 1 - 1 ≤ (st.take (st.length - 1)).length by simp only [List.length_take]; omega)) BK3.out (by decide) 0 (.slice (some ⟨g, 0, none⟩) (st.length - 1 - 1) c))
                    have HO5_ := HO4.out
                    rw [List.take_take, Nat.min_eq_left (by omega)] at HO5_
                    clear HO4
                    have HO4 := Aside0.mk HO5_
                    clear HO5_
                    have HB4 := Aside0.mk (below_set (j := 0) (v := .slice (some ⟨g, 0, none⟩) (st.length - 1 - 1) c) HB3.out GS.out)
                    have HU2 := Aside0.mk hu2
                    clear hu2
                    have HL1 := Aside0.mk (show 1 ≤ st.length by omega)
                    have HL2 := Aside0.mk (show 2 ≤ st.length by omega)
                    have HCAP := Aside0.mk hcap
                    have HV1 := Aside0.mk hv1
                    clear hs hv kb hcap hv1 hu hu1
                    go_wp2_with fail
                    go_at_call 71
                    refine (impl_table.pop gs g st.length c v W1 HL1.out (by have := HS.out; have := HN.out; have := HL.out; omega) HCAP.out BK.out HV1.out).mono ?_
                    rintro e w' ⟨rfl, rfl⟩
                    generalize hW2 : W1.setCell ⟨gs, 0, none⟩ (.slice (some ⟨g, 0, none⟩) (st.length - 1) c) = W2 at BK3 HO3 HB3 BK4 HO4 HB4 HU2 ⊢
                    clear hW2
                    go_wp2_with fail
                    go_at_call 71
                    refine (impl_table.pop gs g (st.length - 1) c u W2 (by have := HL2.out; omega) (by have := HS.out; have := HN.out; have := HL.out; omega) (by have := HCAP.out; omega) BK3.out HU2.out).mono ?_
                    rintro e w' ⟨rfl, rfl⟩
                    generalize hW3 : W2.setCell ⟨gs, 0, none⟩ (.slice (some ⟨g, 0, none⟩) (st.length - 1 - 1) c) = W3 at BK4 HO4 HB4 ⊢
                    clear hW3
                    try rw [show st.length - 2 = st.length - 1 - 1 by omega] at HA2 HS2
                    rw [show (u != v) = (v != u) by cases u <;> cases v <;> rfl] at HA2 HS2
                    have hbc : W3.cell? ⟨gs, 0, none⟩ = some (.slice (some ⟨g, 0, none⟩) (st.length - 1 - 1) c) := (blk_cell BK4.out 0).trans rfl
                    go_wp2_with (first | ((with_reducible refine gate_builtin (b := .append) (xs := #[.tmp 63, .tmp 65]) rfl ?_); at_builtin; refine Kd.R_append Kd.bool (w0 := w) w.heap.size rfl (.tmp 63) (.tmp 65) 42 4 (.bool false) 1 rfl Try.underlying42 info4 rfl (by decide) (by omega) _ (st.take (st.length - 1 - 1)) (v != u) [.bool (v != u)] (fun _ => True) (fun _ => False) rfl rfl ?aP (fun _ hk => hk.elim) ?aF ?aO ?aB ?aS ?aL ?_; (case aP => exact rfl); (case aB => exact HB4.out); (case aF => exact (fun _ _ => trivial)); (case aO => exact HO4.out); (case aS => exact (below_size HB4.out)); (case aL => have := HS.out; have := HN.out; have := HL.out; (try simp only [List.length_take]); omega); intro v153 w25 ho hb hg hat; obtain ⟨A5_, c5_, e5_⟩ := Kd.R_slice ho; generalize (st.take (st.length - 1 - 1) ++ [v != u]).length = n5_ at e5_; subst e5_; have HB5 := Aside0.mk hb; have HO5 := Aside0.mk ho; have BK5 := Aside0.mk (blk_grown BK4.out hg (Kd.R_ne HO4.out BK4.out (by decide))); clear ho hb hg hat; clear hbc; have hbc5 : w25.cell? ⟨gs, 0, none⟩ = some (.slice (some ⟨g, 0, none⟩) (st.length - 1 - 1) c) := (blk_cell BK5.out 0).trans rfl; have hbf5 := blk_frozen BK5.out 0))
                    go_roundg m
                    case measure => omega
                    case rel => exact ⟨_, i + 1, _, (by first | rw [show wrap64 ((i : Int) + 1) = ((i + 1 : Nat) : Int) from by have := HL.out; have := HN.out; unfold wrap64; omega] | go_num), HA2, ⟨by have := HN.out; omega⟩, ⟨by have := HS.out; have := HS2.out; omega⟩, ⟨blk_put BK5.out 0 _ rfl⟩, ⟨Kd.R_set HO5.out BK5.out (by decide) 0 _⟩, ⟨below_set HB5.out GS.out⟩⟩
                  · rw [if_neg kb] at hs
                    exact absurd hs (by simp)
                · rw [if_neg k5] at hs
                  obtain rfl := Option.some.inj hs
                  clear hs
                  have n1 := k1
                  have n2 := k2
                  have n3 := k3
                  have n4 := k4
                  have n5 := k5
                  by_cases k6 : x.f0 = 6
                  · clear k1 k2 k3 k4 k5 n1 n2 n3 n4 n5
                    have kb1 : (x.f0 == 1) = false := by rw [k6]; rfl
                    have kb6 : (x.f0 == 6) = true := by rw [k6]; rfl
                    have kb2 : (x.f0 == 2) = false := by rw [k6]; rfl
                    have kb3 : (x.f0 == 3) = false := by rw [k6]; rfl
                    have kb4 : (x.f0 == 4) = false := by rw [k6]; rfl
                    have kb5 : (x.f0 == 5) = false := by rw [k6]; rfl
                    rw [kb6] at HA2 HS2
                    clear k6
                    have hbc : W1.cell? ⟨gs, 0, none⟩ = some (.slice A st.length c) := (blk_cell BK.out 0).trans rfl
                    go_wp2_with (first | ((with_reducible refine gate_builtin (b := .append) (xs := #[.tmp 63, .tmp 65]) rfl ?_); at_builtin; refine Kd.R_append Kd.bool (w0 := w) w.heap.size rfl (.tmp 63) (.tmp 65) 42 4 (.bool false) 1 rfl Try.underlying42 info4 rfl (by decide) (by omega) _ (st) (true) [.bool (true)] (fun _ => True) (fun _ => False) rfl rfl ?aP (fun _ hk => hk.elim) ?aF ?aO ?aB ?aS ?aL ?_; (case aP => exact rfl); (case aB => exact HB.out); (case aF => exact (fun _ _ => trivial)); (case aO => exact HO.out); (case aS => exact (below_size HB.out)); (case aL => have := HS.out; have := HN.out; have := HL.out; (try simp only [List.length_take]); omega); intro v153 w25 ho hb hg hat; obtain ⟨A5_, c5_, e5_⟩ := Kd.R_slice ho; generalize (st ++ [true]).length = n5_ at e5_; subst e5_; have HB5 := Aside0.mk hb; have HO5 := Aside0.mk ho; have BK5 := Aside0.mk (blk_grown BK.out hg (Kd.R_ne HO.out BK.out (by decide))); clear ho hb hg hat; clear hbc; have hbc5 : w25.cell? ⟨gs, 0, none⟩ = some (.slice A st.length c) := (blk_cell BK5.out 0).trans rfl; have hbf5 := blk_frozen BK5.out 0))
                    go_roundg m
                    case measure => omega
                    case rel => exact ⟨_, i + 1, _, (by first | rw [show wrap64 ((i : Int) + 1) = ((i + 1 : Nat) : Int) from by have := HL.out; have := HN.out; unfold wrap64; omega] | go_num), HA2, ⟨by have := HN.out; omega⟩, ⟨by have := HS.out; have := HS2.out; omega⟩, ⟨blk_put BK5.out 0 _ rfl⟩, ⟨Kd.R_set HO5.out BK5.out (by decide) 0 _⟩, ⟨below_set HB5.out GS.out⟩⟩
                  · have n6 := k6
                    have kb1 : (x.f0 == 1) = false := beq_eq_false_iff_ne.mpr n1
                    have kb6 : (x.f0 == 6) = false := beq_eq_false_iff_ne.mpr n6
                    have kb2 : (x.f0 == 2) = false := beq_eq_false_iff_ne.mpr n2
                    have kb3 : (x.f0 == 3) = false := beq_eq_false_iff_ne.mpr n3
                    have kb4 : (x.f0 == 4) = false := beq_eq_false_iff_ne.mpr n4
                    have kb5 : (x.f0 == 5) = false := beq_eq_false_iff_ne.mpr n5
                    rw [kb6] at HA2 HS2
                    clear k1 k2 k3 k4 k5 k6 n1 n2 n3 n4 n5 n6
                    have hbc : W1.cell? ⟨gs, 0, none⟩ = some (.slice A st.length c) := (blk_cell BK.out 0).trans rfl
                    go_wp2_with (first | ((with_reducible refine gate_builtin (b := .append) (xs := #[.tmp 63, .tmp 65]) rfl ?_); at_builtin; refine Kd.R_append Kd.bool (w0 := w) w.heap.size rfl (.tmp 63) (.tmp 65) 42 4 (.bool false) 1 rfl Try.underlying42 info4 rfl (by decide) (by omega) _ (st) (false) [.bool (false)] (fun _ => True) (fun _ => False) rfl rfl ?aP (fun _ hk => hk.elim) ?aF ?aO ?aB ?aS ?aL ?_; (case aP => exact rfl); (case aB => exact HB.out); (case aF => exact (fun _ _ => trivial)); (case aO => exact HO.out); (case aS => exact (below_size HB.out)); (case aL => have := HS.out; have := HN.out; have := HL.out; (try simp only [List.length_take]); omega); intro v153 w25 ho hb hg hat; obtain ⟨A5_, c5_, e5_⟩ := Kd.R_slice ho; generalize (st ++ [false]).length = n5_ at e5_; subst e5_; have HB5 := Aside0.mk hb; have HO5 := Aside0.mk ho; have BK5 := Aside0.mk (blk_grown BK.out hg (Kd.R_ne HO.out BK.out (by decide))); clear ho hb hg hat; clear hbc; have hbc5 : w25.cell? ⟨gs, 0, none⟩ = some (.slice A st.length c) := (blk_cell BK5.out 0).trans rfl; have hbf5 := blk_frozen BK5.out 0))
                    go_roundg m
                    case measure => omega
                    case rel => exact ⟨_, i + 1, _, (by first | rw [show wrap64 ((i : Int) + 1) = ((i + 1 : Nat) : Int) from by have := HL.out; have := HN.out; unfold wrap64; omega] | go_num), HA2, ⟨by have := HN.out; omega⟩, ⟨by have := HS.out; have := HS2.out; omega⟩, ⟨blk_put BK5.out 0 _ rfl⟩, ⟨Kd.R_set HO5.out BK5.out (by decide) 0 _⟩, ⟨below_set HB5.out GS.out⟩⟩
  · rw [if_neg hb] at h
    exact absurd h (by simp)
/-- The truth values of n bits that the number x stands for. -/
def tbl.bits (n x : Nat) : List Bool := (List.range n).map fun j => ((x / 2 ^ j % 2 : Nat) : Int) == 1
theorem tbl.bits_length (n x : Nat) : (tbl.bits n x).length = n := by simp [tbl.bits]
theorem tbl.bits_at (n x j : Nat) (h : j < n) : rdOf false (tbl.bits n x) (j : Int) = (((x / 2 ^ j % 2 : Nat) : Int) == 1) := by
  simp [tbl.bits, rdOf, List.getD_eq_getElem?_getD, h]
theorem tbl.and1 : ∀ q : Nat, q < 64 → Go.bits .and .i64 (q : Int) 1 = ((q % 2 : Nat) : Int) := by decide
theorem impl_table.clos (gx x m : Nat) (n : Int) (w : World) (h0 : 0 ≤ n) (h1 : n < (m : Int)) (hm : m ≤ 6) (hx : x < 64) (hbox : w.heap[gx]? = some (.cells #[.int .i64 (x : Int)] 3 (0, 0))) :
    Calls Try.prog 66 #[.int .i64 n, .pointer (some ⟨gx, 0, none⟩)] w fun e w' => e = .returned (.bool (rdOf false (tbl.bits m x) n)) ∧ Below w.heap.size w w' := by
  obtain ⟨j, rfl⟩ : ∃ j : Nat, n = (j : Int) := ⟨n.toNat, by omega⟩
  have hc : w.cell? ⟨gx, 0, none⟩ = some (.int .i64 (x : Int)) := (blk_cell hbox 0).trans rfl
  rw [tbl.bits_at m x j (by omega)]
  have hq : x / 2 ^ j < 64 := Nat.lt_of_le_of_lt (Nat.div_le_self _ _) hx
  have hd : (x : Int) / 2 ^ j = ((x / 2 ^ j : Nat) : Int) := by simp
  have hand := tbl.and1 _ hq
  have j0 : (j : Int) ≤ 64 := by omega
  clear hbox h1 hm hx h0 hq
  generalize x / 2 ^ j = q at hd hand ⊢
  go_enter Try.func66, Try.ntmps66
  go_wp2
  go_ret
  exact ⟨rfl, Below.refl _ _⟩
def tbl.val (m : Nat) (l : List S69) (x : Nat) : Bool := (evl.val (tbl.bits m x) l).getD false
def tbl.out (m : Nat) (l : List S69) (i : Nat) : List Bool := (List.range (2 ^ m)).map fun j => if j < i then tbl.val m l j else false
theorem tbl.out_length (m : Nat) (l : List S69) (i : Nat) : (tbl.out m l i).length = 2 ^ m := by simp [tbl.out]
theorem tbl.out_zero (m : Nat) (l : List S69) : List.replicate (2 ^ m) false = tbl.out m l 0 := by
  apply List.ext_getElem?
  intro j
  by_cases hj : j < 2 ^ m <;> simp [tbl.out, hj, List.getElem?_replicate]
theorem tbl.out_succ (m : Nat) (l : List S69) (i : Nat) : (tbl.out m l i).set i (tbl.val m l i) = tbl.out m l (i + 1) := by
  apply List.ext_getElem?
  intro j
  by_cases hj : j < 2 ^ m
  · rw [List.getElem?_set]
    by_cases e : i = j
    · subst e
      simp [tbl.out, hj]
    · by_cases hji : j < i
      · simp [tbl.out, hj, e, hji, show j < i + 1 by omega]
      · simp [tbl.out, hj, e, hji, show ¬ j < i + 1 by omega]
  · rw [List.getElem?_eq_none (by rw [List.length_set, tbl.out_length]; omega), List.getElem?_eq_none (by rw [tbl.out_length]; omega)]
def impl_table.f (l0 : List S69) (a1 : Int) : Option (List Bool) := if 0 ≤ a1 ∧ a1 ≤ 6 ∧ ∀ x, x < 2 ^ a1.toNat → (evl.val (tbl.bits a1.toNat x) l0).isSome = true then some (tbl.out a1.toNat l0 (2 ^ a1.toNat)) else none
set_option maxHeartbeats 8000000 in
set_option maxRecDepth 100000 in
theorem impl_table.calls (A0 : Option Addr) (c0 : Nat) (l0 : List S69) (a1 : Int) (r : List Bool) (w : World) (hr0 : Kd.C k69 w A0 l0.length l0) (hc0 : l0.length ≤ c0) (h : impl_table.f l0 a1 = some r) :
    Calls Try.prog 50 #[.slice A0 l0.length c0, .int .i64 a1] w fun e w' => ∃ v0_ : Value, e = .returned v0_ ∧ Kd.R Kd.bool 4 w' w.heap.size (fun _ => True) v0_ r ∧ Below w.heap.size w w' := by
  unfold impl_table.f at h
  by_cases hb : 0 ≤ a1 ∧ a1 ≤ 6 ∧ ∀ x, x < 2 ^ a1.toNat → (evl.val (tbl.bits a1.toNat x) l0).isSome = true
  · rw [if_pos hb] at h
    obtain rfl := Option.some.inj h
    obtain ⟨h0, h6, hall⟩ := hb
    obtain ⟨m, rfl⟩ : ∃ m : Nat, a1 = (m : Int) := ⟨a1.toNat, by omega⟩
    simp only [Int.toNat_natCast] at hall ⊢
    have hm : m ≤ 6 := by omega
    have hN0 : 2 ^ m ≤ 64 := Nat.pow_le_pow_right (n := 2) (by decide) hm
    obtain ⟨N, hNe⟩ : ∃ N, N = 2 ^ m := ⟨_, rfl⟩
    have HZ0 := tbl.out_zero m l0
    have HLEN0 := fun i => tbl.out_length m l0 i
    rw [← hNe] at hall hN0 HZ0 ⊢
    simp only [← hNe] at HLEN0
    have hsh : wrap64 (2 ^ min m 64) = (N : Int) := by
      rw [Nat.min_eq_left (by omega), show (2 : Int) ^ m = ((2 ^ m : Nat) : Int) by simp, ← hNe]
      unfold wrap64
      omega
    have HZ := Aside0.mk HZ0
    have HLEN := Aside0.mk HLEN0
    have HR0 := Aside0.mk hr0
    have HALL := Aside0.mk hall
    have HM := Aside0.mk hm
    have HN := Aside0.mk hN0
    have HSH := Aside0.mk hsh
    clear h hr0 hc0 hall h0 h6 hm hNe HZ0 HLEN0 hN0 hsh
    go_enter Try.func50, Try.ntmps50
    go_wp2_with (first | ((with_reducible refine gate_dst (N := 9) rfl ?_); refine Kd.R_make Kd.bool _ 4 rfl (N := 9) rfl 42 _ _ rfl (wrap64 (2 ^ min m 64)) rfl rfl Try.underlying42 (.bool false) 1 info4 rfl (by decide) (by omega) false (ok := fun _ => True) (okp := fun _ => True) rfl (fun _ hk => hk) trivial (by rw [HSH.out]; omega) (by rw [HSH.out]; have := HN.out; omega) (Below.refl _ _) (Nat.le_refl _) ?_; intro v105 w4 ho5 hb hg_ hnew_; clear hg_ hnew_; rw [HSH.out, Int.toNat_natCast, HZ.out] at ho5; have HO := Aside0.mk ho5; have HB := Aside0.mk hb; clear hb ho5; obtain ⟨Ao, co, eo⟩ := Kd.R_slice HO.out; rw [HLEN.out] at eo; subst eo))
    go_loopg [12] N (fun gg v12 wr => ∃ i : Nat, v12 = .int .i64 (i : Int) ∧ Aside0 (i + gg = N) ∧ Aside0 (Kd.R Kd.bool 4 wr w.heap.size (fun _ => True) (.slice Ao N co) (tbl.out m l0 i)) ∧ Aside0 (Below w.heap.size w wr))
    case atStart => exact ⟨0, rfl, ⟨by omega⟩, HO, HB⟩
    case round =>
      clear HO HB
      obtain ⟨i, rfl, HI, HO, HB⟩ := hrel
      cases gk with
      | zero =>
        have hi : i = N := HI.out
        subst hi
        go_wp2
        go_ret
        exact ⟨_, rfl, HO.out, HB.out⟩
      | succ k1 =>
        have hlt : i < N := by have := HI.out; omega
        have hltz : (i : Int) < (N : Int) := by omega
        go_upto_region 5 with (first | ((with_reducible refine gate_dst (N := 6) rfl ?_); refine box_event ?hg (N := 6) ?hd (cs := #[.int .i64 0]) (t := 3) ?hr ?_; (case hd => rfl); (case hg => rfl); (case hr => first | (go_simp; done) | (go_simp; rfl)); intro gx hg w2 hbox hb; have BX := Aside0.mk hbox; have HB2 := Aside0.mk (below_step HB.out hb); have HO2 := Aside0.mk (Kd.R_below HO.out hb); have GX := Aside0.mk (show w.heap.size ≤ gx from by rw [hg]; exact below_size HB.out); clear hb hbox hg; clear HB HO; have hcz0 : w2.cell? ⟨gx, 0, none⟩ = some (.int .i64 0) := (blk_cell BX.out 0).trans rfl; have hfz0 := blk_frozen BX.out 0))
        have BX3 := Aside0.mk (blk_put (cs' := #[.int .i64 (i : Int)]) BX.out 0 (.int .i64 (i : Int)) rfl)
        have HO3 := Aside0.mk (Kd.R_set HO2.out BX.out (by decide) 0 (.int .i64 (i : Int)))
        have HB3 := Aside0.mk (below_set (j := 0) (v := .int .i64 (i : Int)) HB2.out GX.out)
        clear hcz0 hfz0 BX HO2 HB2
        generalize w2.setCell ⟨gx, 0, none⟩ (.int .i64 (i : Int)) = W1 at BX3 HO3 HB3 ⊢
        obtain ⟨g, cap', e5, hgb, hgl, hgc⟩ := Kd.R_form HO3.out (by rw [HLEN.out]; omega)
        injection e5 with ea en ec
        subst ea ec
        clear en hgc hgl
        have GR := Aside0.mk hgb
        clear hgb
        have HV := Aside0.mk (show evl.val (tbl.bits m i) l0 = some (tbl.val m l0 i) from by unfold tbl.val; obtain ⟨q, hq⟩ := Option.isSome_iff_exists.mp (HALL.out i hlt); rw [hq]; rfl)
        have hc0_ : W1.cell? ⟨gx, 0, none⟩ = some (.int .i64 (i : Int)) := (blk_cell BX3.out 0).trans rfl
        refine start_ (n := 7) (S := fun w' => w'.cell? ⟨gx, 0, none⟩ = some (.int .i64 (i : Int))) (ds := [6]) #[false, false, false, false, false, false, false] (by kernel_rfl) rfl rfl hc0_ (fun hHeld => ?_)
        have HOd := Aside0.mk (Kd.R_drew HO3.out)
        have HBd := Aside0.mk (below_drew1 HB3.out)
        have BXd := Aside0.mk (blk_drew BX3.out)
        have HRd := Aside0.mk (Kd.C_below HR0.out HBd.out)
        clear hc0_ HO3 HB3 BX3
        generalize W1.drew = w9 at HOd HBd BXd HRd hHeld ⊢
        refine pure_ (i := 0) (N := some 15) (v := ?_) (a' := ?_) #[true, false, false, false, false, false, false] rfl rfl (by kernel_rfl) (fun _ _ _ h => h) (Or.inl ⟨by rfl, ?_⟩) ?_ ?_
        rotate_left
        · intro w'
          go_simp
          with_reducible rfl
        rotate_left
        · simp only [Act.put, List.setIfInBounds_toArray, List.set_cons_zero, List.set_cons_succ, i64_w, i32_w]
          rfl
        refine take_ (i := 1) (N := some 16) (v := ?_) (a' := ?_) #[true, true, false, false, false, false, false] rfl rfl (by kernel_rfl) (fun _ _ _ h => h) (Or.inl ⟨by rfl, ?_⟩) hHeld ?_ ?_
        rotate_left
        · rintro w' s0
          go_simp
          with_reducible rfl
        rotate_left
        · simp only [Act.put, List.setIfInBounds_toArray, List.set_cons_zero, List.set_cons_succ, i64_w, i32_w]
          rfl
        refine pure_ (i := 2) (N := some 17) (v := ?_) (a' := ?_) #[true, true, true, false, false, false, false] rfl rfl (by kernel_rfl) (fun _ _ _ h => h) (Or.inl ⟨by rfl, ?_⟩) ?_ ?_
        rotate_left
        · intro w'
          go_simp
          with_reducible rfl
        rotate_left
        · simp only [Act.put, List.setIfInBounds_toArray, List.set_cons_zero, List.set_cons_succ, i64_w, i32_w]
          rfl
        refine pure_ (i := 3) (N := some 18) (v := ?_) (a' := ?_) #[true, true, true, true, false, false, false] rfl rfl (by kernel_rfl) (fun _ _ _ h => h) (Or.inl ⟨by rfl, ?_⟩) ?_ ?_
        rotate_left
        · intro w'
          go_simp
          with_reducible rfl
        rotate_left
        · simp only [Act.put, List.setIfInBounds_toArray, List.set_cons_zero, List.set_cons_succ, i64_w, i32_w]
          rfl
        refine one_ (i := 4) (N := some 19) #[true, true, true, true, true, false, false] rfl rfl (by kernel_rfl) (by decide) (fun K hK => ?_)
        refine goes_ Try.func62 (by kernel_rfl) rfl #[.slice A0 l0.length c0, .func (.func 66) #[] #[.pointer (some ⟨gx, 0, none⟩)]] (by rfl) rfl rfl (by (try simp only [List.map_toArray, List.map_cons, List.map_nil]); first | done | rfl) ?_
        refine (impl_table.eval (tbl.bits m i) A0 c0 l0 (.pointer (some ⟨gx, 0, none⟩)) (tbl.val m l0 i) w9 HRd.out HV.out (fun n w' h0 h1 hB => impl_table.clos gx i m n w' h0 (by rw [tbl.bits_length] at h1; exact h1) HM.out (by have := HN.out; have := HI.out; omega) (blk_below BXd.out hB))).mono ?_
        rintro e w12 ⟨rfl, hb⟩
        refine ⟨_, rfl, ?_⟩
        have BX4 := Aside0.mk (blk_below BXd.out hb)
        have HO4 := Aside0.mk (Kd.R_below HOd.out hb)
        have HB4 := Aside0.mk (below_step HBd.out hb)
        clear hb
        refine hK.out _ _ ((blk_cell BX4.out 0).trans rfl) (fun hHeld2 => ?_)
        clear hK K hHeld
        refine norm_ (a' := ?_) ?_ ?_
        rotate_left
        · show Act.put _ (some 19) _ = _
          simp only [Act.put, List.setIfInBounds_toArray, List.set_cons_zero, List.set_cons_succ, i64_w, i32_w]
          rfl
        refine pure_ (i := 5) (N := some 20) (v := ?_) (a' := ?_) #[true, true, true, true, true, true, false] rfl rfl (by kernel_rfl) (fun _ _ _ h => h) (Or.inl ⟨by rfl, ?_⟩) ?_ ?_
        rotate_left
        · intro w'
          go_simp
          with_reducible rfl
        rotate_left
        · simp only [Act.put, List.setIfInBounds_toArray, List.set_cons_zero, List.set_cons_succ, i64_w, i32_w]
          rfl
        refine last_ (i := 6) (N := none) #[true, true, true, true, true, true, true] rfl rfl (by kernel_rfl) (by decide) (fun K hK => ?_)
        obtain ⟨hcl, hfr⟩ := Kd.R_celln false HO4.out (i : Int) (by omega) (by omega)
        have hput := Kd.R_putg HO4.out (i : Int) (tbl.val m l0 i)
        simp only [Int.toNat_natCast] at hcl hfr hput
        have HP := Aside0.mk hput.1
        clear hput
        refine skip_ (w1 := ?_) (by rfl) rfl ?_ ?_
        rotate_left
        · go_simp
          rfl
        refine hK.out _ _ ?_
        clear hK K
        refine done_ (by kernel_rfl) ?_
        try go_wp2
        go_roundg k1
        case measure => omega
        case rel => exact ⟨i + 1, (by first | rw [show wrap64 ((i : Int) + 1) = ((i + 1 : Nat) : Int) from by have := HN.out; unfold wrap64; omega] | go_num), ⟨by have := HI.out; omega⟩, ⟨by have h_ := HP.out; rw [tbl.out_succ] at h_; exact h_⟩, ⟨below_set HB4.out GR.out⟩⟩
  · rw [if_neg hb] at h
    exact absurd h (by simp)


/-! ### slices_Equal_bool_bool: function 52 -/
def slices_Equal_bool_bool.l0 : Nat → List Bool → List Bool → Int → Int → Option (Bool)
  | 0, _, _, _, _ => none
  | k + 1, x0, x1, x12, x13 => if x13 < x12 then (if 0 ≤ x13 then (if x13 < (x0.length : Int) then (if x13 < (x1.length : Int) then (if ((rdOf false x0 x13) != (rdOf false x1 x13)) = true then (some false) else (slices_Equal_bool_bool.l0 k x0 x1 x12 (wrap64 (x13 + 1)))) else (none)) else (none)) else (none)) else (some true)
def slices_Equal_bool_bool.f (k : Nat) (l0 : List Bool) (l1 : List Bool) : Option (Bool) := if (l0.length : Int) = (l1.length : Int) then (slices_Equal_bool_bool.l0 k l0 l1 (l0.length : Int) 0) else (some false)
theorem slices_Equal_bool_bool.mono_l : ∀ k, (∀ y0 y1 y2 y3, LeO (slices_Equal_bool_bool.l0 k y0 y1 y2 y3) (slices_Equal_bool_bool.l0 (k + 1) y0 y1 y2 y3))
  | 0 => fun _ _ _ _ r h => by simp [slices_Equal_bool_bool.l0] at h
  | k + 1 => by
    have ih0 := slices_Equal_bool_bool.mono_l k
    · intro y0 y1 y2 y3
      unfold slices_Equal_bool_bool.l0
      repeat' first
      | (with_reducible exact ih0 _ _ _ _)
      | (with_reducible exact LeO.refl _)
      | (with_reducible exact LeO.none _)
      | (with_reducible refine LeO.ite ?_ ?_)
      | (with_reducible refine LeO.bind ?_ (fun _ => ?_))
      | exact ih0 _ _ _ _
      | exact LeO.none _
      | refine LeO.ite ?_ ?_
      | refine LeO.bind ?_ (fun _ => ?_)
theorem slices_Equal_bool_bool.mono : ∀ a0 a1 k, LeO (slices_Equal_bool_bool.f k a0 a1) (slices_Equal_bool_bool.f (k + 1) a0 a1) := by
  intro a0 a1 k
  have ih0 := slices_Equal_bool_bool.mono_l k
  unfold slices_Equal_bool_bool.f
  repeat' first
      | (with_reducible exact ih0 _ _ _ _)
      | (with_reducible exact LeO.refl _)
      | (with_reducible exact LeO.none _)
      | (with_reducible refine LeO.ite ?_ ?_)
      | (with_reducible refine LeO.bind ?_ (fun _ => ?_))
      | exact ih0 _ _ _ _
      | exact LeO.none _
      | refine LeO.ite ?_ ?_
      | refine LeO.bind ?_ (fun _ => ?_)
set_option maxHeartbeats 8000000 in
set_option maxRecDepth 100000 in
theorem slices_Equal_bool_bool.calls (k : Nat) (A0 : Option Addr) (c0 : Nat) (l0 : List Bool) (A1 : Option Addr) (c1 : Nat) (l1 : List Bool) (r : Bool) (w : World) (hr0 : Kd.C Kd.bool w A0 l0.length l0) (hc0 : l0.length ≤ c0) (hr1 : Kd.C Kd.bool w A1 l1.length l1) (hc1 : l1.length ≤ c1) (h : slices_Equal_bool_bool.f k l0 l1 = some r) :
    Calls Try.prog 52 #[.slice A0 l0.length c0, .slice A1 l1.length c1] w fun e w' => e = .returned (.bool r) ∧ Drawn0 w w' := by
  have HR0 := Aside0.mk hr0
  have HC0 := Aside0.mk hc0
  clear hr0 hc0
  have HR1 := Aside0.mk hr1
  have HC1 := Aside0.mk hc1
  clear hr1 hc1
  have H : (if (l0.length : Int) = (l1.length : Int) then (slices_Equal_bool_bool.l0 k l0 l1 (l0.length : Int) 0) else (some false)) = some r := h
  clear h
  by_cases c3 : (l0.length : Int) = (l1.length : Int)
  · rw [if_pos c3] at H
    have c3b0 : ((l0.length : Int) == (l1.length : Int)) = true := beq_iff_eq.mpr c3
    have c3b1 : ((l0.length : Int) != (l1.length : Int)) = false := bne_eq_false_iff_eq.mpr c3
    have c3b2 : (l0.length == l1.length) = true := by first | simpa using c3 | (simp at c3 ⊢; omega)
    clear c3
    have H' := Aside0.mk H
    clear H
    go_enter Try.func52, Try.ntmps52
    go_wp2
    repeat (go_quiet (fail); try go_wp2)
    go_loopg [13] k (fun kq v13 w' => ∃ (x13_1 : Int), v13 = .int .i64 x13_1 ∧ Aside0 (slices_Equal_bool_bool.l0 kq l0 l1 (l0.length : Int) x13_1 = some r) ∧ Aside0 (kq ≤ k) ∧ Drawn0 w w')
    case atStart => exact ⟨(0), (by first | rfl | (simp; done) | (simp [*]; done)), H', ⟨Nat.le_refl _⟩, by repeat (first | exact Drawn0.refl _ | apply Drawn0.step)⟩
    case round =>
      clear H'
      try clear c1
      try clear p2
      try clear c3
      try clear c3b0
      try clear c3b1
      try clear c3b2
      obtain ⟨x13_1, rfl, HA, HK1, ⟨m1, rfl⟩⟩ := hrel
      cases gk with
      | zero => exact absurd HA.out (by simp [slices_Equal_bool_bool.l0])
      | succ k1 =>
        have H := HA.out
        clear HA
        simp only [slices_Equal_bool_bool.l0] at H
        by_cases c4 : x13_1 < (l0.length : Int)
        · rw [if_pos c4] at H
          have c4b0 : decide (x13_1 < (l0.length : Int)) = true := decide_eq_true c4
          clear c4
          by_cases c5 : 0 ≤ x13_1
          · rw [if_pos c5] at H
            have c5b0 : decide (0 ≤ x13_1) = true := decide_eq_true c5
            clear c5
            by_cases c6 : x13_1 < (l0.length : Int)
            · rw [if_pos c6] at H
              have c6b0 : decide (x13_1 < (l0.length : Int)) = true := decide_eq_true c6
              clear c6
              by_cases c7 : x13_1 < (l1.length : Int)
              · rw [if_pos c7] at H
                have c7b0 : decide (x13_1 < (l1.length : Int)) = true := decide_eq_true c7
                clear c7
                by_cases c8 : ((rdOf false l0 x13_1) != (rdOf false l1 x13_1)) = true
                · rw [if_pos c8] at H
                  have c8b0 : ((rdOf false l0 x13_1) != (rdOf false l1 x13_1)) = true := c8
                  (try (have c8b1 : decide ((rdOf false l0 x13_1) = (rdOf false l1 x13_1)) = false := by simpa using c8))
                  (try (have c8b2 : ((rdOf false l0 x13_1) == (rdOf false l1 x13_1)) = false := by simpa using c8))
                  (try (have c8b3 : ¬ ((rdOf false l0 x13_1) = (rdOf false l1 x13_1)) := by simpa using c8))
                  clear c8
                  obtain rfl := Option.some.inj H
                  have p158 : 0 ≤ (x13_1 : Int) := of_decide_eq_true (by first | (with_reducible assumption) | assumption)
                  have q158 : x13_1 < (l0.length : Int) := of_decide_eq_true (by first | (with_reducible assumption) | assumption)
                  obtain ⟨ad158, e158, hx158_0⟩ := Kd.at_bool HR0.out x13_1 p158 q158
                  cases e158
                  replace p158 := eq_true p158
                  replace q158 := eq_true q158
                  have p159 : 0 ≤ (x13_1 : Int) := of_decide_eq_true (by first | (with_reducible assumption) | assumption)
                  have q159 : x13_1 < (l1.length : Int) := of_decide_eq_true (by first | (with_reducible assumption) | assumption)
                  obtain ⟨ad159, e159, hx159_0⟩ := Kd.at_bool HR1.out x13_1 p159 q159
                  cases e159
                  replace p159 := eq_true p159
                  replace q159 := eq_true q159
                  go_wp2
                  repeat (go_quiet (fail); try go_wp2)
                  go_ret
                  exact ⟨by first | rfl | (simp; done) | (simp [*]; done), by repeat (first | exact Drawn0.refl _ | apply Drawn0.step)⟩
                · rw [if_neg c8] at H
                  have c8b0 : ((rdOf false l0 x13_1) != (rdOf false l1 x13_1)) = false := by simpa using c8
                  (try (have c8b1 : decide ((rdOf false l0 x13_1) = (rdOf false l1 x13_1)) = true := by simpa using c8))
                  (try (have c8b2 : ((rdOf false l0 x13_1) == (rdOf false l1 x13_1)) = true := by simpa using c8))
                  clear c8
                  have H' := Aside0.mk H
                  clear H
                  have p158 : 0 ≤ (x13_1 : Int) := of_decide_eq_true (by first | (with_reducible assumption) | assumption)
                  have q158 : x13_1 < (l0.length : Int) := of_decide_eq_true (by first | (with_reducible assumption) | assumption)
                  obtain ⟨ad158, e158, hx158_0⟩ := Kd.at_bool HR0.out x13_1 p158 q158
                  cases e158
                  replace p158 := eq_true p158
                  replace q158 := eq_true q158
                  have p159 : 0 ≤ (x13_1 : Int) := of_decide_eq_true (by first | (with_reducible assumption) | assumption)
                  have q159 : x13_1 < (l1.length : Int) := of_decide_eq_true (by first | (with_reducible assumption) | assumption)
                  obtain ⟨ad159, e159, hx159_0⟩ := Kd.at_bool HR1.out x13_1 p159 q159
                  cases e159
                  replace p159 := eq_true p159
                  replace q159 := eq_true q159
                  go_wp2
                  repeat (go_quiet (fail); try go_wp2)
                  go_roundg k1
                  case measure => have := HK1.out; omega
                  case rel => exact ⟨(wrap64 (x13_1 + 1)), (by first | rfl | (simp; done) | (simp [*]; done)), H', ⟨by have := HK1.out; omega⟩, by repeat (first | exact Drawn0.refl _ | apply Drawn0.step)⟩
              · rw [if_neg c7] at H
                exact absurd H (by simp)
            · rw [if_neg c6] at H
              exact absurd H (by simp)
          · rw [if_neg c5] at H
            exact absurd H (by simp)
        · rw [if_neg c4] at H
          have c4b0 : decide (x13_1 < (l0.length : Int)) = false := decide_eq_false c4
          clear c4
          obtain rfl := Option.some.inj H
          go_wp2
          repeat (go_quiet (fail); try go_wp2)
          go_ret
          exact ⟨by first | rfl | (simp; done) | (simp [*]; done), by repeat (first | exact Drawn0.refl _ | apply Drawn0.step)⟩
  · rw [if_neg c3] at H
    have c3b0 : ((l0.length : Int) == (l1.length : Int)) = false := beq_eq_false_iff_ne.mpr c3
    have c3b1 : ((l0.length : Int) != (l1.length : Int)) = true := bne_iff_ne.mpr c3
    have c3b2 : (l0.length == l1.length) = false := by first | simpa using c3 | (simp at c3 ⊢; omega)
    obtain rfl := Option.some.inj H
    go_enter Try.func52, Try.ntmps52
    go_wp2
    repeat (go_quiet (fail); try go_wp2)
    go_ret
    exact ⟨by first | rfl | (simp; done) | (simp [*]; done), by repeat (first | exact Drawn0.refl _ | apply Drawn0.step)⟩

/-! ### impl_LogicEquivalent: function 26 -/
def impl_LogicEquivalent.f (k : Nat) (l0 : List (S69)) (l1 : List (S69)) (a2 : Int) : Option (Bool) := (impl_in.f a2 0 6).bind fun t160 => (if t160 = true then ((impl_LogicValid.f k l0 a2).bind fun t161 => (if t161 = true then ((impl_LogicValid.f k l1 a2).bind fun t162 => (if t162 = true then ((impl_table.f l0 a2).bind fun t163 => ((impl_table.f l1 a2).bind fun t166 => ((slices_Equal_bool_bool.f k t163 t166).bind fun t169 => (some t169)))) else (some false))) else (some false))) else (some false))
theorem impl_LogicEquivalent.mono : ∀ a0 a1 a2 k, LeO (impl_LogicEquivalent.f k a0 a1 a2) (impl_LogicEquivalent.f (k + 1) a0 a1 a2) := by
  intro a0 a1 a2 k
  unfold impl_LogicEquivalent.f
  repeat' first
      | (with_reducible exact impl_LogicValid.mono _ _ _)
      | (with_reducible exact slices_Equal_bool_bool.mono _ _ _)
      | (with_reducible exact LeO.refl _)
      | (with_reducible exact LeO.none _)
      | (with_reducible refine LeO.ite ?_ ?_)
      | (with_reducible refine LeO.bind ?_ (fun _ => ?_))
      | exact impl_LogicValid.mono _ _ _
      | exact slices_Equal_bool_bool.mono _ _ _
      | exact LeO.none _
      | refine LeO.ite ?_ ?_
      | refine LeO.bind ?_ (fun _ => ?_)
set_option maxHeartbeats 8000000 in
set_option maxRecDepth 100000 in
theorem impl_LogicEquivalent.calls (k : Nat) (A0 : Option Addr) (c0 : Nat) (l0 : List (S69)) (A1 : Option Addr) (c1 : Nat) (l1 : List (S69)) (a2 : Int) (r : Bool) (w : World) (hr0 : Kd.C k69 w A0 l0.length l0) (hc0 : l0.length ≤ c0) (hr1 : Kd.C k69 w A1 l1.length l1) (hc1 : l1.length ≤ c1) (h : impl_LogicEquivalent.f k l0 l1 a2 = some r) :
    Calls Try.prog 26 #[.slice A0 l0.length c0, .slice A1 l1.length c1, .int .i64 a2] w fun e w' => e = .returned (.bool r) ∧ Below w.heap.size w w' := by
  have HR0 := Aside0.mk hr0
  have HC0 := Aside0.mk hc0
  clear hr0 hc0
  have HR1 := Aside0.mk hr1
  have HC1 := Aside0.mk hc1
  clear hr1 hc1
  have HB := Aside0.mk (Below.refl w.heap.size w)
  have H : ((impl_in.f a2 0 6).bind fun t160 => (if t160 = true then ((impl_LogicValid.f k l0 a2).bind fun t161 => (if t161 = true then ((impl_LogicValid.f k l1 a2).bind fun t162 => (if t162 = true then ((impl_table.f l0 a2).bind fun t163 => ((impl_table.f l1 a2).bind fun t166 => ((slices_Equal_bool_bool.f k t163 t166).bind fun t169 => (some t169)))) else (some false))) else (some false))) else (some false))) = some r := h
  clear h
  replace H := Option.bind_eq_some_iff.mp H
  obtain ⟨t160, A40, H⟩ := H
  replace H : (if t160 = true then ((impl_LogicValid.f k l0 a2).bind fun t161 => (if t161 = true then ((impl_LogicValid.f k l1 a2).bind fun t162 => (if t162 = true then ((impl_table.f l0 a2).bind fun t163 => ((impl_table.f l1 a2).bind fun t166 => ((slices_Equal_bool_bool.f k t163 t166).bind fun t169 => (some t169)))) else (some false))) else (some false))) else (some false)) = some r := H
  have A4 := Aside0.mk A40
  clear A40
  by_cases c5 : t160 = true
  · subst c5
    have H1 : ((impl_LogicValid.f k l0 a2).bind fun t161 => (if t161 = true then ((impl_LogicValid.f k l1 a2).bind fun t162 => (if t162 = true then ((impl_table.f l0 a2).bind fun t163 => ((impl_table.f l1 a2).bind fun t166 => ((slices_Equal_bool_bool.f k t163 t166).bind fun t169 => (some t169)))) else (some false))) else (some false))) = some r := by rw [if_pos rfl] at H; exact H
    clear H
    have H := H1
    clear H1
    replace H := Option.bind_eq_some_iff.mp H
    obtain ⟨t161, A60, H⟩ := H
    replace H : (if t161 = true then ((impl_LogicValid.f k l1 a2).bind fun t162 => (if t162 = true then ((impl_table.f l0 a2).bind fun t163 => ((impl_table.f l1 a2).bind fun t166 => ((slices_Equal_bool_bool.f k t163 t166).bind fun t169 => (some t169)))) else (some false))) else (some false)) = some r := H
    have A6 := Aside0.mk A60
    clear A60
    by_cases c7 : t161 = true
    · subst c7
      have H1 : ((impl_LogicValid.f k l1 a2).bind fun t162 => (if t162 = true then ((impl_table.f l0 a2).bind fun t163 => ((impl_table.f l1 a2).bind fun t166 => ((slices_Equal_bool_bool.f k t163 t166).bind fun t169 => (some t169)))) else (some false))) = some r := by rw [if_pos rfl] at H; exact H
      clear H
      have H := H1
      clear H1
      replace H := Option.bind_eq_some_iff.mp H
      obtain ⟨t162, A80, H⟩ := H
      replace H : (if t162 = true then ((impl_table.f l0 a2).bind fun t163 => ((impl_table.f l1 a2).bind fun t166 => ((slices_Equal_bool_bool.f k t163 t166).bind fun t169 => (some t169)))) else (some false)) = some r := H
      have A8 := Aside0.mk A80
      clear A80
      by_cases c9 : t162 = true
      · subst c9
        have H1 : ((impl_table.f l0 a2).bind fun t163 => ((impl_table.f l1 a2).bind fun t166 => ((slices_Equal_bool_bool.f k t163 t166).bind fun t169 => (some t169)))) = some r := by rw [if_pos rfl] at H; exact H
        clear H
        have H := H1
        clear H1
        replace H := Option.bind_eq_some_iff.mp H
        obtain ⟨t163, A100, H⟩ := H
        replace H : ((impl_table.f l1 a2).bind fun t166 => ((slices_Equal_bool_bool.f k t163 t166).bind fun t169 => (some t169))) = some r := H
        have A10 := Aside0.mk A100
        clear A100
        replace H := Option.bind_eq_some_iff.mp H
        obtain ⟨t166, A110, H⟩ := H
        replace H : ((slices_Equal_bool_bool.f k t163 t166).bind fun t169 => (some t169)) = some r := H
        have A11 := Aside0.mk A110
        clear A110
        replace H := Option.bind_eq_some_iff.mp H
        obtain ⟨t169, A120, H⟩ := H
        replace H : (some t169) = some r := H
        have A12 := Aside0.mk A120
        clear A120
        obtain rfl := Option.some.inj H
        go_enter Try.func26, Try.ntmps26
        go_wp2_with (first | ((with_reducible refine gate_callee (f := 48) rfl ?_); refine goesL_ (some 8) rfl rfl Try.func48 (by kernel_rfl) rfl #[.int .i64 a2, .int .i64 0, .int .i64 6] rfl (by (try simp only [List.map_toArray, List.map_cons, List.map_nil]); first | done | rfl | (simp only [List.length_drop, List.length_take]; rfl)) ?_; (with_reducible refine (impl_in.calls a2 0 6 true _ A4.out).mono ?_); rintro e w' ⟨rfl, ⟨nd, rfl⟩⟩; refine ⟨_, rfl, ?_⟩) | (go_at_call 49; (with_reducible refine (impl_LogicValid.calls k _ _ l0 a2 true _ ?side1 ?side2 A6.out).mono ?_); (case side1 => repeat (first | exact HR0.out | (with_reducible refine Kd.C_alloc ?_ _) | (with_reducible refine Kd.C_drewN ?_ _) | (with_reducible refine Kd.C_drew ?_))); (case side2 => exact HC0.out); rintro e w13 ⟨rfl, hb⟩; have n0_ := Aside0.mk (below_step (by repeat (first | (with_reducible first | exact HB.out | apply below_alloc | apply pw_below_drewN | apply below_drew1) | exact HB.out)) hb); clear HB; have HB := n0_; clear n0_; (try clear hb); (try clear hb2); (try clear hk); (try clear hi)) | (go_at_call 49; (with_reducible refine (impl_LogicValid.calls k _ _ l1 a2 true _ ?side1 ?side2 A8.out).mono ?_); (case side1 => repeat (first | exact (Kd.C_below HR1.out HB.out) | (with_reducible refine Kd.C_alloc ?_ _) | (with_reducible refine Kd.C_drewN ?_ _) | (with_reducible refine Kd.C_drew ?_))); (case side2 => exact HC1.out); rintro e w14 ⟨rfl, hb⟩; have n0_ := Aside0.mk (below_step (by repeat (first | (with_reducible first | exact HB.out | apply below_alloc | apply pw_below_drewN | apply below_drew1) | exact HB.out)) hb); clear HB; have HB := n0_; clear n0_; (try clear hb); (try clear hb2); (try clear hk); (try clear hi)) | (go_at_call 50; (with_reducible refine (impl_table.calls _ _ l0 a2 t163 _ ?side1 ?side2 A10.out).mono ?_); (case side1 => repeat (first | exact (Kd.C_below HR0.out HB.out) | (with_reducible refine Kd.C_alloc ?_ _) | (with_reducible refine Kd.C_drewN ?_ _) | (with_reducible refine Kd.C_drew ?_))); (case side2 => exact HC0.out); rintro e w15 ⟨v164, rfl, ho0, hb⟩; have n0_ := Aside0.mk (Kd.R_lower ho0 (below_size (by repeat (first | (with_reducible first | exact HB.out | apply below_alloc | apply pw_below_drewN | apply below_drew1) | exact HB.out)))); have n1_ := Aside0.mk (below_step (by repeat (first | (with_reducible first | exact HB.out | apply below_alloc | apply pw_below_drewN | apply below_drew1) | exact HB.out)) hb); clear HB; have HO165 := n0_; have HB := n1_; clear n0_ n1_; (try clear hb); (try clear hb2); (try clear hk); (try clear hi); (try clear ho0)) | (go_at_call 50; (with_reducible refine (impl_table.calls _ _ l1 a2 t166 _ ?side1 ?side2 A11.out).mono ?_); (case side1 => repeat (first | exact (Kd.C_below HR1.out HB.out) | (with_reducible refine Kd.C_alloc ?_ _) | (with_reducible refine Kd.C_drewN ?_ _) | (with_reducible refine Kd.C_drew ?_))); (case side2 => exact HC1.out); rintro e w16 ⟨v167, rfl, ho0, hb⟩; have n0_ := Aside0.mk (Kd.R_elder' (by (with_reducible repeat (first | apply Kd.R_alloc | apply Kd.R_drewN | apply Kd.R_drew)); exact HO165.out) (Kd.R_base ho0) hb); have n1_ := Aside0.mk (Kd.R_lower (Kd.R_new' ho0 (Kd.R_lt (by (with_reducible repeat (first | apply Kd.R_alloc | apply Kd.R_drewN | apply Kd.R_drew)); exact HO165.out))) (below_size (by repeat (first | (with_reducible first | exact HB.out | apply below_alloc | apply pw_below_drewN | apply below_drew1) | exact HB.out)))); have n2_ := Aside0.mk (below_step (by repeat (first | (with_reducible first | exact HB.out | apply below_alloc | apply pw_below_drewN | apply below_drew1) | exact HB.out)) hb); clear HO165; clear HB; have HO165 := n0_; have HO168 := n1_; have HB := n2_; clear n0_ n1_ n2_; (try clear hb); (try clear hb2); (try clear hk); (try clear hi); (try clear ho0); obtain ⟨Ao17, co17, eo17⟩ := Kd.R_slice HO165.out; subst eo17; obtain ⟨Ao18, co18, eo18⟩ := Kd.R_slice HO168.out; subst eo18) | (go_at_call 52; (with_reducible refine (slices_Equal_bool_bool.calls k _ _ t163 _ _ t166 t169 _ ?side1 ?side2 ?side3 ?side4 A12.out).mono ?_); (case side1 => repeat (first | exact (Kd.R_reads' HO165.out).2.2 | (with_reducible refine Kd.C_alloc ?_ _) | (with_reducible refine Kd.C_drewN ?_ _) | (with_reducible refine Kd.C_drew ?_))); (case side2 => exact (Kd.R_reads' HO165.out).2.1); (case side3 => repeat (first | exact (Kd.R_reads' HO168.out).2.2 | (with_reducible refine Kd.C_alloc ?_ _) | (with_reducible refine Kd.C_drewN ?_ _) | (with_reducible refine Kd.C_drew ?_))); (case side4 => exact (Kd.R_reads' HO168.out).2.1); rintro e w' ⟨rfl, ⟨nd, rfl⟩⟩))
        go_ret
        exact ⟨by first | rfl | (simp [errW_none, errW_some] <;> rfl) | (simp [*, errW_none, errW_some] <;> rfl), by repeat (first | (with_reducible first | exact HB.out | apply below_alloc | apply pw_below_drewN | apply below_drew1) | exact HB.out)⟩
      · replace c9 := Bool.eq_false_iff.mpr c9
        subst c9
        have H1 : (some false) = some r := by rw [if_neg (show ¬ (false = true) by decide)] at H; exact H
        clear H
        have H := H1
        clear H1
        obtain rfl := Option.some.inj H
        go_enter Try.func26, Try.ntmps26
        go_wp2_with (first | ((with_reducible refine gate_callee (f := 48) rfl ?_); refine goesL_ (some 8) rfl rfl Try.func48 (by kernel_rfl) rfl #[.int .i64 a2, .int .i64 0, .int .i64 6] rfl (by (try simp only [List.map_toArray, List.map_cons, List.map_nil]); first | done | rfl | (simp only [List.length_drop, List.length_take]; rfl)) ?_; (with_reducible refine (impl_in.calls a2 0 6 true _ A4.out).mono ?_); rintro e w' ⟨rfl, ⟨nd, rfl⟩⟩; refine ⟨_, rfl, ?_⟩) | (go_at_call 49; (with_reducible refine (impl_LogicValid.calls k _ _ l0 a2 true _ ?side1 ?side2 A6.out).mono ?_); (case side1 => repeat (first | exact HR0.out | (with_reducible refine Kd.C_alloc ?_ _) | (with_reducible refine Kd.C_drewN ?_ _) | (with_reducible refine Kd.C_drew ?_))); (case side2 => exact HC0.out); rintro e w19 ⟨rfl, hb⟩; have n0_ := Aside0.mk (below_step (by repeat (first | (with_reducible first | exact HB.out | apply below_alloc | apply pw_below_drewN | apply below_drew1) | exact HB.out)) hb); clear HB; have HB := n0_; clear n0_; (try clear hb); (try clear hb2); (try clear hk); (try clear hi)) | (go_at_call 49; (with_reducible refine (impl_LogicValid.calls k _ _ l1 a2 false _ ?side1 ?side2 A8.out).mono ?_); (case side1 => repeat (first | exact (Kd.C_below HR1.out HB.out) | (with_reducible refine Kd.C_alloc ?_ _) | (with_reducible refine Kd.C_drewN ?_ _) | (with_reducible refine Kd.C_drew ?_))); (case side2 => exact HC1.out); rintro e w20 ⟨rfl, hb⟩; have n0_ := Aside0.mk (below_step (by repeat (first | (with_reducible first | exact HB.out | apply below_alloc | apply pw_below_drewN | apply below_drew1) | exact HB.out)) hb); clear HB; have HB := n0_; clear n0_; (try clear hb); (try clear hb2); (try clear hk); (try clear hi)))
        go_ret
        exact ⟨by first | rfl | (simp [errW_none, errW_some] <;> rfl) | (simp [*, errW_none, errW_some] <;> rfl), by repeat (first | (with_reducible first | exact HB.out | apply below_alloc | apply pw_below_drewN | apply below_drew1) | exact HB.out)⟩
    · replace c7 := Bool.eq_false_iff.mpr c7
      subst c7
      have H1 : (some false) = some r := by rw [if_neg (show ¬ (false = true) by decide)] at H; exact H
      clear H
      have H := H1
      clear H1
      obtain rfl := Option.some.inj H
      go_enter Try.func26, Try.ntmps26
      go_wp2_with (first | ((with_reducible refine gate_callee (f := 48) rfl ?_); refine goesL_ (some 8) rfl rfl Try.func48 (by kernel_rfl) rfl #[.int .i64 a2, .int .i64 0, .int .i64 6] rfl (by (try simp only [List.map_toArray, List.map_cons, List.map_nil]); first | done | rfl | (simp only [List.length_drop, List.length_take]; rfl)) ?_; (with_reducible refine (impl_in.calls a2 0 6 true _ A4.out).mono ?_); rintro e w' ⟨rfl, ⟨nd, rfl⟩⟩; refine ⟨_, rfl, ?_⟩) | (go_at_call 49; (with_reducible refine (impl_LogicValid.calls k _ _ l0 a2 false _ ?side1 ?side2 A6.out).mono ?_); (case side1 => repeat (first | exact HR0.out | (with_reducible refine Kd.C_alloc ?_ _) | (with_reducible refine Kd.C_drewN ?_ _) | (with_reducible refine Kd.C_drew ?_))); (case side2 => exact HC0.out); rintro e w21 ⟨rfl, hb⟩; have n0_ := Aside0.mk (below_step (by repeat (first | (with_reducible first | exact HB.out | apply below_alloc | apply pw_below_drewN | apply below_drew1) | exact HB.out)) hb); clear HB; have HB := n0_; clear n0_; (try clear hb); (try clear hb2); (try clear hk); (try clear hi)))
      go_ret
      exact ⟨by first | rfl | (simp [errW_none, errW_some] <;> rfl) | (simp [*, errW_none, errW_some] <;> rfl), by repeat (first | (with_reducible first | exact HB.out | apply below_alloc | apply pw_below_drewN | apply below_drew1) | exact HB.out)⟩
  · replace c5 := Bool.eq_false_iff.mpr c5
    subst c5
    have H1 : (some false) = some r := by rw [if_neg (show ¬ (false = true) by decide)] at H; exact H
    clear H
    have H := H1
    clear H1
    obtain rfl := Option.some.inj H
    go_enter Try.func26, Try.ntmps26
    go_wp2_with (first | ((with_reducible refine gate_callee (f := 48) rfl ?_); refine goesL_ (some 8) rfl rfl Try.func48 (by kernel_rfl) rfl #[.int .i64 a2, .int .i64 0, .int .i64 6] rfl (by (try simp only [List.map_toArray, List.map_cons, List.map_nil]); first | done | rfl | (simp only [List.length_drop, List.length_take]; rfl)) ?_; (with_reducible refine (impl_in.calls a2 0 6 false _ A4.out).mono ?_); rintro e w' ⟨rfl, ⟨nd, rfl⟩⟩; refine ⟨_, rfl, ?_⟩))
    go_ret
    exact ⟨by first | rfl | (simp [errW_none, errW_some] <;> rfl) | (simp [*, errW_none, errW_some] <;> rfl), by repeat (first | (with_reducible first | exact HB.out | apply below_alloc | apply pw_below_drewN | apply below_drew1) | exact HB.out)⟩

end Go.Proofs.Ytmphligplngeaaa.GFnExactLogicEquivalent

/- Functions of the program as Lean functions, with proofs that the machine comes to their answers; written by this session's program mkprint.py; no condition beyond each theorem's own. -/
import Derived.Test.YtmphligplngeaaaGFnExactLogicDependsx0
import Derived.Test.YtmphligplngeaaaGFnExactLogicDependsx2
import Derived.Test.YtmphligplngeaaaGFnExactLogicDependsx3
import Derived.Test.YtmphligplngeaaaGFnExactLogicDependsx4
namespace Go.Proofs.Ytmphligplngeaaa.GFnExactLogicDepends
open Go.RowKit Go.Proofs.YtmphligplngeaaaV.PrintWords Go.Proofs.YtmphligplngeaaaV.PrintLast Go.Proofs.YtmphligplngeaaaV.PrintMore
attribute [local go_sem] max2_int min2_int max_two min_two max_three min_three max_four min_four   -- for this text's walks alone
set_option linter.unusedVariables false
set_option linter.unusedSimpArgs false

/-! ### impl_table: function 50 -/
theorem impl_table.rd_take {st : List Bool} {m : Nat} (h : m + 1 ≤ st.length) : rdOf false (st.take (m + 1)) (m : Int) = rdOf false st (m : Int) := by
  simp [rdOf, List.getD_eq_getElem?_getD, List.getElem?_take]
/-- pop: the last value; the stack goes on without it. -/
theorem impl_table.pop (g g2 n c : Nat) (top : Bool) (w : World) (hn : 1 ≤ n) (hbig : n ≤ 1000000) (hc : n ≤ c) (hbox : w.heap[g]? = some (.cells #[.slice (some ⟨g2, 0, none⟩) n c] 42 (0, 0))) (hcell : w.cell? ⟨g2, n - 1, none⟩ = some (.bool top)) :
    Calls Try.prog 71 #[.pointer (some ⟨g, 0, none⟩)] w fun e w' => e = .returned (.bool top) ∧ w' = w.setCell ⟨g, 0, none⟩ (.slice (some ⟨g2, 0, none⟩) (n - 1) c) := by
  have hbc : w.cell? ⟨g, 0, none⟩ = some (.slice (some ⟨g2, 0, none⟩) n c) := (blk_cell hbox 0).trans rfl
  have hbf : w.frozen? ⟨g, 0, none⟩ = false := blk_frozen hbox 0
  have w1 : wrap64 ((n : Int) - 1) = ((n - 1 : Nat) : Int) := by unfold wrap64; omega
  have b2 : ((n - 1 : Nat) : Int) < (n : Int) := by omega
  have b3 : ((n - 1 : Nat) : Int) ≤ (c : Int) := by omega
  clear hbox hn hbig hc
  go_enter Try.func71, Try.ntmps71
  go_wp2
  go_ret
  exact ⟨rfl, rfl⟩
set_option maxHeartbeats 8000000 in
set_option maxRecDepth 100000 in
theorem impl_table.eval (bits : List Bool) (A0 : Option Addr) (c0 : Nat) (l0 : List S69) (cap : Value) (r : Bool) (w : World) (hr0 : Kd.C k69 w A0 l0.length l0) (h : evl.val bits l0 = some r)
    (hbit : ∀ (n : Int) (w' : World), 0 ≤ n → n < (bits.length : Int) → Below w.heap.size w w' → Calls Try.prog 66 #[.int .i64 n, cap] w' fun e w'' => e = .returned (.bool (rdOf false bits n)) ∧ Below w'.heap.size w' w'') :
    Calls Try.prog 62 #[.slice A0 l0.length c0, .func (.func 66) #[] #[cap]] w fun e w' => e = .returned (.bool r) ∧ Below w.heap.size w w' := by
  have hu69 := Try.underlying69
  unfold evl.val at h
  by_cases hb : l0.length ≤ 1000000
  · rw [if_pos hb] at h
    obtain ⟨sf, hrun, hfin⟩ := Option.bind_eq_some_iff.mp h
    have HR0 := Aside0.mk hr0
    have HX := Aside0.mk hrun
    have HF := Aside0.mk hfin
    have HL := Aside0.mk hb
    have HBIT := Aside0.mk hbit
    clear h hr0 hrun hfin hb hbit
    go_enter Try.func62, Try.ntmps62
    go_wp2_with (first | ((with_reducible refine gate_dst (N := 5) rfl ?_); refine box_event ?hg (N := 5) ?hd (cs := #[.slice none 0 0]) (t := 42) ?hr ?_; (case hd => rfl); (case hg => rfl); (case hr => first | (go_simp; done) | (go_simp; rfl)); intro gs hg w1 hbox hb; have BK0 := Aside0.mk hbox; have HB1 := Aside0.mk hb; have GS := Aside0.mk (show w.heap.size ≤ gs from by rw [hg]; exact Nat.le_refl _); clear hb hbox hg))
    go_loopg [17] l0.length (fun gg v17 wr => ∃ (st : List Bool) (i : Nat) (v5 : Value), v17 = .int .i64 (i : Int) ∧ Aside0 (evl.run bits (l0.drop i) st = some sf) ∧ Aside0 (i + gg = l0.length) ∧ Aside0 (st.length ≤ i) ∧ Aside0 (wr.heap[gs]? = some (.cells #[v5] 42 (0, 0))) ∧ Aside0 (Kd.R Kd.bool 4 wr w.heap.size (fun _ => True) v5 st) ∧ Aside0 (Below w.heap.size w wr))
    case atStart => exact ⟨[], 0, .slice none 0 0, rfl, HX, ⟨by omega⟩, ⟨Nat.le_refl _⟩, BK0, ⟨Kd.R_nil _ _ _ _ _⟩, HB1⟩
    case round =>
      obtain ⟨st, i, v5, rfl, HA, HN, HS, BK, HO, HB⟩ := hrel
      obtain ⟨A, c, e5⟩ := Kd.R_slice HO.out
      subst e5
      cases gk with
      | zero =>
        have hi : i = l0.length := HN.out
        subst hi
        have hst : st = sf := by
          have := HA.out
          rw [List.drop_length] at this
          exact Option.some.inj this
        subst hst
        have hF := HF.out
        by_cases hp : 0 < st.length
        · rw [if_pos hp] at hF
          have hrr := Option.some.inj hF
          obtain ⟨_, _, hcc⟩ := Kd.R_reads' HO.out
          obtain ⟨ad, e1, hx⟩ := Kd.at_bool hcc 0 (by omega) (by omega)
          subst e1
          have hltz : ¬ ((l0.length : Int) < (l0.length : Int)) := by omega
          have hpz : (0 : Int) < (st.length : Int) := by omega
          rw [hrr, show ad.add (Int.toNat 0) = ad by simp [Addr.add]] at hx
          have hbc : wr.cell? ⟨gs, 0, none⟩ = some (.slice (some ad) st.length c) := (blk_cell BK.out 0).trans rfl
          clear hcc hF hp hrr
          go_wp2
          go_ret
          exact ⟨rfl, HB.out⟩
        · rw [if_neg hp] at hF
          exact absurd hF (by simp)
      | succ m =>
        have hlt : i < l0.length := by have := HN.out; omega
        have hltz : (i : Int) < (l0.length : Int) := by omega
        have hdr : l0.drop i = l0[i] :: l0.drop (i + 1) := List.drop_eq_getElem_cons hlt
        have hA := HA.out
        rw [hdr] at hA
        obtain ⟨s2, hs, hA⟩ := Option.bind_eq_some_iff.mp hA
        have HS2 := Aside0.mk (evl.step_len hs)
        have HA2 := Aside0.mk hA
        obtain ⟨ad, e1, hx0, hx1⟩ := at_T69 HR0.out (i : Int) (by omega) (by omega)
        have hrd : rd_T69 l0 (i : Int) = l0[i] := by unfold rd_T69; rw [Int.toNat_natCast, List.getD_eq_getElem?_getD, List.getElem?_eq_getElem hlt]; rfl
        rw [hrd] at hx0 hx1
        simp only [Int.toNat_natCast] at hx0 hx1
        subst e1
        replace hx0 := (HB.out.cell (World.block_lt_of_cell? w _ hx0)).trans hx0
        replace hx1 := (HB.out.cell (World.block_lt_of_cell? w _ hx1)).trans hx1
        generalize l0[i] = x at hs hx0 hx1
        have HST := Aside0.mk hs
        clear hdr hA HA hrd hs
        go_upto_region 7 with (first | ((with_reducible refine gate_dst (N := 8) rfl ?_); refine box_event ?hg (N := 8) ?hd (cs := #[.int .i64 0, .int .i64 0]) (t := 69) ?hr ?_; (case hd => rfl); (case hg => rfl); (case hr => first | (go_simp; done) | (go_simp; rfl)); intro gx hg w2 hbox hb; have BX := Aside0.mk hbox; have HB2 := Aside0.mk (below_step HB.out hb); have HO2 := Aside0.mk (Kd.R_below HO.out hb); have BK2 := Aside0.mk (blk_below BK.out hb); have GX := Aside0.mk (show w.heap.size ≤ gx from by rw [hg]; exact below_size HB.out); clear hb hbox hg; clear HB HO BK; have hcz0 : w2.cell? ⟨gx, 0, none⟩ = some (.int .i64 0) := (blk_cell BX.out 0).trans rfl; have hcz1 : w2.cell? ⟨gx, 1, none⟩ = some (.int .i64 0) := (blk_cell BX.out 1).trans rfl; have hfz0 := blk_frozen BX.out 0; have hfz1 := blk_frozen BX.out 1))
        clear hcz0 hcz1 hfz0 hfz1 hx0 hx1
        have NX := Aside0.mk (blk_ne BK2.out BX.out (by decide))
        have BX3 := Aside0.mk (blk_put (cs' := #[.int .i64 x.f0, .int .i64 x.f1]) (blk_put (cs' := #[.int .i64 x.f0, .int .i64 0]) BX.out 0 (.int .i64 x.f0) rfl) 1 (.int .i64 x.f1) rfl)
        have BK := Aside0.mk (blk_far (p := ⟨gx, 1, none⟩) (blk_far (p := ⟨gx, 0, none⟩) BK2.out NX.out (.int .i64 x.f0)) NX.out (.int .i64 x.f1))
        have HO := Aside0.mk (Kd.R_set (Kd.R_set HO2.out BX.out (by decide) 0 (.int .i64 x.f0)) (blk_put (cs' := #[.int .i64 x.f0, .int .i64 0]) BX.out 0 (.int .i64 x.f0) rfl) (by decide) 1 (.int .i64 x.f1))
        have HB := Aside0.mk (below_set (j := 1) (v := .int .i64 x.f1) (below_set (j := 0) (v := .int .i64 x.f0) HB2.out GX.out) GX.out)
        clear BX HB2 HO2 BK2
        generalize (w2.setCell ⟨gx, 0, none⟩ (.int .i64 x.f0)).setCell ⟨gx, 1, none⟩ (.int .i64 x.f1) = W1 at BX3 BK HO HB ⊢
        have hx0 : W1.cell? ⟨gx, 0, none⟩ = some (.int .i64 x.f0) := (blk_cell BX3.out 0).trans rfl
        have hx1 : W1.cell? ⟨gx, 1, none⟩ = some (.int .i64 x.f1) := (blk_cell BX3.out 1).trans rfl
        have hs := HST.out
        clear HST BX3 NX GX
        unfold evl.step at hs
        by_cases k1 : x.f0 = 1
        · rw [if_pos k1] at hs
          have kb1 : (x.f0 == 1) = true := by rw [k1]; rfl
          have kb6 : (x.f0 == 6) = false := by rw [k1]; rfl
          have kb2 : (x.f0 == 2) = false := by rw [k1]; rfl
          have kb3 : (x.f0 == 3) = false := by rw [k1]; rfl
          have kb4 : (x.f0 == 4) = false := by rw [k1]; rfl
          have kb5 : (x.f0 == 5) = false := by rw [k1]; rfl
          by_cases kb : 0 ≤ x.f1 ∧ x.f1 < (bits.length : Int)
          · rw [if_pos kb] at hs
            obtain rfl := Option.some.inj hs
            have hcon := HBIT.out x.f1 W1 kb.1 kb.2 HB.out
            generalize hv : rdOf false bits x.f1 = v at hcon HA2 HS2
            clear hs kb hv k1
            go_wp2_with fail
            go_at_call 66
            refine hcon.mono ?_
            rintro e W2 ⟨rfl, hb⟩
            have BK3 := Aside0.mk (blk_below BK.out hb)
            have HO3 := Aside0.mk (Kd.R_below HO.out hb)
            have HB3 := Aside0.mk (below_step HB.out hb)
            clear hb hcon
            have hbc : W2.cell? ⟨gs, 0, none⟩ = some (.slice A st.length c) := (blk_cell BK3.out 0).trans rfl
            go_wp2_with (first | ((with_reducible refine gate_builtin (b := .append) (xs := #[.tmp 63, .tmp 65]) rfl ?_); at_builtin; refine Kd.R_append Kd.bool (w0 := w) w.heap.size rfl (.tmp 63) (.tmp 65) 42 4 (.bool false) 1 rfl Try.underlying42 info4 rfl (by decide) (by omega) _ (st) (v) [.bool (v)] (fun _ => True) (fun _ => False) rfl rfl ?aP (fun _ hk => hk.elim) ?aF ?aO ?aB ?aS ?aL ?_; (case aP => exact rfl); (case aB => exact HB3.out); (case aF => exact (fun _ _ => trivial)); (case aO => exact HO3.out); (case aS => exact (below_size HB3.out)); (case aL => have := HS.out; have := HN.out; have := HL.out; (try simp only [List.length_take]); omega); intro v153 w25 ho hb hg hat; obtain ⟨A5_, c5_, e5_⟩ := Kd.R_slice ho; generalize (st ++ [v]).length = n5_ at e5_; subst e5_; have HB5 := Aside0.mk hb; have HO5 := Aside0.mk ho; have BK5 := Aside0.mk (blk_grown BK3.out hg (Kd.R_ne HO3.out BK3.out (by decide))); clear ho hb hg hat; clear hbc; have hbc5 : w25.cell? ⟨gs, 0, none⟩ = some (.slice A st.length c) := (blk_cell BK5.out 0).trans rfl; have hbf5 := blk_frozen BK5.out 0))
            go_roundg m
            case measure => omega
            case rel => exact ⟨_, i + 1, _, (by first | rw [show wrap64 ((i : Int) + 1) = ((i + 1 : Nat) : Int) from by have := HL.out; have := HN.out; unfold wrap64; omega] | go_num), HA2, ⟨by have := HN.out; omega⟩, ⟨by have := HS.out; have := HS2.out; omega⟩, ⟨blk_put BK5.out 0 _ rfl⟩, ⟨Kd.R_set HO5.out BK5.out (by decide) 0 _⟩, ⟨below_set HB5.out GS.out⟩⟩
          · rw [if_neg kb] at hs
            exact absurd hs (by simp)
        · rw [if_neg k1] at hs
          by_cases k2 : x.f0 = 2
          · rw [if_pos k2] at hs
            have kb1 : (x.f0 == 1) = false := by rw [k2]; rfl
            have kb6 : (x.f0 == 6) = false := by rw [k2]; rfl
            have kb2 : (x.f0 == 2) = true := by rw [k2]; rfl
            have kb3 : (x.f0 == 3) = false := by rw [k2]; rfl
            have kb4 : (x.f0 == 4) = false := by rw [k2]; rfl
            have kb5 : (x.f0 == 5) = false := by rw [k2]; rfl
            by_cases kb : 1 ≤ st.length
            · rw [if_pos kb] at hs
              obtain rfl := Option.some.inj hs
              clear k1 k2
              obtain ⟨g, cap', e5, hgb, hgl, hgc⟩ := Kd.R_form HO.out (by omega)
              injection e5 with ea en ec
              subst ea ec
              clear en hgc hgb hgl
              have hcap := (Kd.R_reads' HO.out).2.1
              have hv1 := (Kd.R_celln false HO.out ((st.length - 1 : Nat) : Int) (by omega) (by omega)).1
              simp only [Int.toNat_natCast] at hv1
              generalize hv : rdOf false st ((st.length - 1 : Nat) : Int) = v at hv1 HA2 HS2
              have BK3 := Aside0.mk (blk_put (cs' := #[.slice (some ⟨g, 0, none⟩) (st.length - 1) c]) BK.out 0 (.slice (some ⟨g, 0, none⟩) (st.length - 1) c) rfl)
              have HO3 := Aside0.mk (Kd.R_set (Kd.R_take HO.out (show st.length - 1 ≤ st.length by omega)) BK.out (by decide) 0 (.slice (some ⟨g, 0, none⟩) (st.length - 1) c))
              have HB3 := Aside0.mk (below_set (j := 0) (v := .slice (some ⟨g, 0, none⟩) (st.length - 1) c) HB.out GS.out)
              have HL1 := Aside0.mk (show 1 ≤ st.length by omega)
              have HCAP := Aside0.mk hcap
              have HV1 := Aside0.mk hv1
              clear hs hv kb hcap hv1
              go_wp2_with fail
              go_at_call 71
              refine (impl_table.pop gs g st.length c v W1 HL1.out (by have := HS.out; have := HN.out; have := HL.out; omega) HCAP.out BK.out HV1.out).mono ?_
              rintro e w' ⟨rfl, rfl⟩
              generalize hW2 : W1.setCell ⟨gs, 0, none⟩ (.slice (some ⟨g, 0, none⟩) (st.length - 1) c) = W2 at BK3 HO3 HB3 ⊢
              clear hW2
              have hbc : W2.cell? ⟨gs, 0, none⟩ = some (.slice (some ⟨g, 0, none⟩) (st.length - 1) c) := (blk_cell BK3.out 0).trans rfl
              go_wp2_with (first | ((with_reducible refine gate_builtin (b := .append) (xs := #[.tmp 63, .tmp 65]) rfl ?_); at_builtin; refine Kd.R_append Kd.bool (w0 := w) w.heap.size rfl (.tmp 63) (.tmp 65) 42 4 (.bool false) 1 rfl Try.underlying42 info4 rfl (by decide) (by omega) _ (st.take (st.length - 1)) (!v) [.bool (!v)] (fun _ => True) (fun _ => False) rfl rfl ?aP (fun _ hk => hk.elim) ?aF ?aO ?aB ?aS ?aL ?_; (case aP => exact rfl); (case aB => exact HB3.out); (case aF => exact (fun _ _ => trivial)); (case aO => exact HO3.out); (case aS => exact (below_size HB3.out)); (case aL => have := HS.out; have := HN.out; have := HL.out; (try simp only [List.length_take]); omega); intro v153 w25 ho hb hg hat; obtain ⟨A5_, c5_, e5_⟩ := Kd.R_slice ho; generalize (st.take (st.length - 1) ++ [!v]).length = n5_ at e5_; subst e5_; have HB5 := Aside0.mk hb; have HO5 := Aside0.mk ho; have BK5 := Aside0.mk (blk_grown BK3.out hg (Kd.R_ne HO3.out BK3.out (by decide))); clear ho hb hg hat; clear hbc; have hbc5 : w25.cell? ⟨gs, 0, none⟩ = some (.slice (some ⟨g, 0, none⟩) (st.length - 1) c) := (blk_cell BK5.out 0).trans rfl; have hbf5 := blk_frozen BK5.out 0))
              go_roundg m
              case measure => omega
              case rel => exact ⟨_, i + 1, _, (by first | rw [show wrap64 ((i : Int) + 1) = ((i + 1 : Nat) : Int) from by have := HL.out; have := HN.out; unfold wrap64; omega] | go_num), HA2, ⟨by have := HN.out; omega⟩, ⟨by have := HS.out; have := HS2.out; omega⟩, ⟨blk_put BK5.out 0 _ rfl⟩, ⟨Kd.R_set HO5.out BK5.out (by decide) 0 _⟩, ⟨below_set HB5.out GS.out⟩⟩
            · rw [if_neg kb] at hs
              exact absurd hs (by simp)
          · rw [if_neg k2] at hs
            by_cases k3 : x.f0 = 3
            · rw [if_pos k3] at hs
              have kb1 : (x.f0 == 1) = false := by rw [k3]; rfl
              have kb6 : (x.f0 == 6) = false := by rw [k3]; rfl
              have kb2 : (x.f0 == 2) = false := by rw [k3]; rfl
              have kb3 : (x.f0 == 3) = true := by rw [k3]; rfl
              have kb4 : (x.f0 == 4) = false := by rw [k3]; rfl
              have kb5 : (x.f0 == 5) = false := by rw [k3]; rfl
              by_cases kb : 2 ≤ st.length
              · rw [if_pos kb] at hs
                obtain rfl := Option.some.inj hs
                clear k1 k2 k3
                obtain ⟨g, cap', e5, hgb, hgl, hgc⟩ := Kd.R_form HO.out (by omega)
                injection e5 with ea en ec
                subst ea ec
                clear en hgc hgb hgl
                have hcap := (Kd.R_reads' HO.out).2.1
                have hv1 := (Kd.R_celln false HO.out ((st.length - 1 : Nat) : Int) (by omega) (by omega)).1
                have hu1 := (Kd.R_celln false HO.out ((st.length - 2 : Nat) : Int) (by omega) (by omega)).1
                simp only [Int.toNat_natCast] at hv1 hu1
                generalize hv : rdOf false st ((st.length - 1 : Nat) : Int) = v at hv1 HA2 HS2
                generalize hu : rdOf false st ((st.length - 2 : Nat) : Int) = u at hu1 HA2 HS2
                have BK3 := Aside0.mk (blk_put (cs' := #[.slice (some ⟨g, 0, none⟩) (st.length - 1) c]) BK.out 0 (.slice (some ⟨g, 0, none⟩) (st.length - 1) c) rfl)
                have HO3 := Aside0.mk (Kd.R_set (Kd.R_take HO.out (show st.length - 1 ≤ st.length by omega)) BK.out (by decide) 0 (.slice (some ⟨g, 0, none⟩) (st.length - 1) c))
                have HB3 := Aside0.mk (below_set (j := 0) (v := .slice (some ⟨g, 0, none⟩) (st.length - 1) c) HB.out GS.out)
                have hu2 : (W1.setCell ⟨gs, 0, none⟩ (.slice (some ⟨g, 0, none⟩) (st.length - 1) c)).cell? ⟨g, st.length - 1 - 1, none⟩ = some (.bool u) := (cell_far (p := ⟨gs, 0, none⟩) (a := ⟨g, st.length - 1 - 1, none⟩) (fun e => Kd.R_ne HO.out BK.out (by decide) (congrArg some (Eq.symm e))) _).trans hu1
                have BK4 := Aside0.mk (blk_put (cs' := #[.slice (some ⟨g, 0, none⟩) (st.length - 1 - 1) c]) BK3.out 0 (.slice (some ⟨g, 0, none⟩) (st.length - 1 - 1) c) rfl)
                have HO4 := Aside0.mk (Kd.R_set (Kd.R_take HO3.out (show st.length - 1 - 1 ≤ (st.take (st.length - 1)).length by simp only [List.length_take]; omega)) BK3.out (by decide) 0 (.slice (some ⟨g, 0, none⟩) (st.length - 1 - 1) c))
                have HO5_ := HO4.out
                rw [List.take_take, Nat.min_eq_left (by omega)] at HO5_
                clear HO4
                have HO4 := Aside0.mk HO5_
                clear HO5_
                have HB4 := Aside0.mk (below_set (j := 0) (v := .slice (some ⟨g, 0, none⟩) (st.length - 1 - 1) c) HB3.out GS.out)
                have HU2 := Aside0.mk hu2
                clear hu2
                have HL1 := Aside0.mk (show 1 ≤ st.length by omega)
                have HL2 := Aside0.mk (show 2 ≤ st.length by omega)
                have HCAP := Aside0.mk hcap
                have HV1 := Aside0.mk hv1
                clear hs hv kb hcap hv1 hu hu1
                go_wp2_with fail
                go_at_call 71
                refine (impl_table.pop gs g st.length c v W1 HL1.out (by have := HS.out; have := HN.out; have := HL.out; omega) HCAP.out BK.out HV1.out).mono ?_
                rintro e w' ⟨rfl, rfl⟩
                generalize hW2 : W1.setCell ⟨gs, 0, none⟩ (.slice (some ⟨g, 0, none⟩) (st.length - 1) c) = W2 at BK3 HO3 HB3 BK4 HO4 HB4 HU2 ⊢
                clear hW2
                go_wp2_with fail
                go_at_call 71
                refine (impl_table.pop gs g (st.length - 1) c u W2 (by have := HL2.out; omega) (by have := HS.out; have := HN.out; have := HL.out; omega) (by have := HCAP.out; omega) BK3.out HU2.out).mono ?_
                rintro e w' ⟨rfl, rfl⟩
                generalize hW3 : W2.setCell ⟨gs, 0, none⟩ (.slice (some ⟨g, 0, none⟩) (st.length - 1 - 1) c) = W3 at BK4 HO4 HB4 ⊢
                clear hW3
                try rw [show st.length - 2 = st.length - 1 - 1 by omega] at HA2 HS2
                cases u with
                | false =>
                  simp only [Bool.false_and] at HA2 HS2
                  have hbc : W3.cell? ⟨gs, 0, none⟩ = some (.slice (some ⟨g, 0, none⟩) (st.length - 1 - 1) c) := (blk_cell BK4.out 0).trans rfl
                  go_wp2_with (first | ((with_reducible refine gate_builtin (b := .append) (xs := #[.tmp 63, .tmp 65]) rfl ?_); at_builtin; refine Kd.R_append Kd.bool (w0 := w) w.heap.size rfl (.tmp 63) (.tmp 65) 42 4 (.bool false) 1 rfl Try.underlying42 info4 rfl (by decide) (by omega) _ (st.take (st.length - 1 - 1)) (false) [.bool (false)] (fun _ => True) (fun _ => False) rfl rfl ?aP (fun _ hk => hk.elim) ?aF ?aO ?aB ?aS ?aL ?_; (case aP => exact rfl); (case aB => exact HB4.out); (case aF => exact (fun _ _ => trivial)); (case aO => exact HO4.out); (case aS => exact (below_size HB4.out)); (case aL => have := HS.out; have := HN.out; have := HL.out; (try simp only [List.length_take]); omega); intro v153 w25 ho hb hg hat; obtain ⟨A5_, c5_, e5_⟩ := Kd.R_slice ho; generalize (st.take (st.length - 1 - 1) ++ [false]).length = n5_ at e5_; subst e5_; have HB5 := Aside0.mk hb; have HO5 := Aside0.mk ho; have BK5 := Aside0.mk (blk_grown BK4.out hg (Kd.R_ne HO4.out BK4.out (by decide))); clear ho hb hg hat; clear hbc; have hbc5 : w25.cell? ⟨gs, 0, none⟩ = some (.slice (some ⟨g, 0, none⟩) (st.length - 1 - 1) c) := (blk_cell BK5.out 0).trans rfl; have hbf5 := blk_frozen BK5.out 0))
                  go_roundg m
                  case measure => omega
                  case rel => exact ⟨_, i + 1, _, (by first | rw [show wrap64 ((i : Int) + 1) = ((i + 1 : Nat) : Int) from by have := HL.out; have := HN.out; unfold wrap64; omega] | go_num), HA2, ⟨by have := HN.out; omega⟩, ⟨by have := HS.out; have := HS2.out; omega⟩, ⟨blk_put BK5.out 0 _ rfl⟩, ⟨Kd.R_set HO5.out BK5.out (by decide) 0 _⟩, ⟨below_set HB5.out GS.out⟩⟩
                | true =>
                  simp only [Bool.true_and] at HA2 HS2
                  have hbc : W3.cell? ⟨gs, 0, none⟩ = some (.slice (some ⟨g, 0, none⟩) (st.length - 1 - 1) c) := (blk_cell BK4.out 0).trans rfl
                  go_wp2_with (first | ((with_reducible refine gate_builtin (b := .append) (xs := #[.tmp 63, .tmp 65]) rfl ?_); at_builtin; refine Kd.R_append Kd.bool (w0 := w) w.heap.size rfl (.tmp 63) (.tmp 65) 42 4 (.bool false) 1 rfl Try.underlying42 info4 rfl (by decide) (by omega) _ (st.take (st.length - 1 - 1)) (v) [.bool (v)] (fun _ => True) (fun _ => False) rfl rfl ?aP (fun _ hk => hk.elim) ?aF ?aO ?aB ?aS ?aL ?_; (case aP => exact rfl); (case aB => exact HB4.out); (case aF => exact (fun _ _ => trivial)); (case aO => exact HO4.out); (case aS => exact (below_size HB4.out)); (case aL => have := HS.out; have := HN.out; have := HL.out; (try simp only [List.length_take]); omega); intro v153 w25 ho hb hg hat; obtain ⟨A5_, c5_, e5_⟩ := Kd.R_slice ho; generalize (st.take (st.length - 1 - 1) ++ [v]).length = n5_ at e5_; subst e5_; have HB5 := Aside0.mk hb; have HO5 := Aside0.mk ho; have BK5 := Aside0.mk (blk_grown BK4.out hg (Kd.R_ne HO4.out BK4.out (by decide))); clear ho hb hg hat; clear hbc; have hbc5 : w25.cell? ⟨gs, 0, none⟩ = some (.slice (some ⟨g, 0, none⟩) (st.length - 1 - 1) c) := (blk_cell BK5.out 0).trans rfl; have hbf5 := blk_frozen BK5.out 0))
                  go_roundg m
                  case measure => omega
                  case rel => exact ⟨_, i + 1, _, (by first | rw [show wrap64 ((i : Int) + 1) = ((i + 1 : Nat) : Int) from by have := HL.out; have := HN.out; unfold wrap64; omega] | go_num), HA2, ⟨by have := HN.out; omega⟩, ⟨by have := HS.out; have := HS2.out; omega⟩, ⟨blk_put BK5.out 0 _ rfl⟩, ⟨Kd.R_set HO5.out BK5.out (by decide) 0 _⟩, ⟨below_set HB5.out GS.out⟩⟩
              · rw [if_neg kb] at hs
                exact absurd hs (by simp)
            · rw [if_neg k3] at hs
              by_cases k4 : x.f0 = 4
              · rw [if_pos k4] at hs
                have kb1 : (x.f0 == 1) = false := by rw [k4]; rfl
                have kb6 : (x.f0 == 6) = false := by rw [k4]; rfl
                have kb2 : (x.f0 == 2) = false := by rw [k4]; rfl
                have kb3 : (x.f0 == 3) = false := by rw [k4]; rfl
                have kb4 : (x.f0 == 4) = true := by rw [k4]; rfl
                have kb5 : (x.f0 == 5) = false := by rw [k4]; rfl
                by_cases kb : 2 ≤ st.length
                · rw [if_pos kb] at hs
                  obtain rfl := Option.some.inj hs
                  clear k1 k2 k3 k4
                  obtain ⟨g, cap', e5, hgb, hgl, hgc⟩ := Kd.R_form HO.out (by omega)
                  injection e5 with ea en ec
                  subst ea ec
                  clear en hgc hgb hgl
                  have hcap := (Kd.R_reads' HO.out).2.1
                  have hv1 := (Kd.R_celln false HO.out ((st.length - 1 : Nat) : Int) (by omega) (by omega)).1
                  have hu1 := (Kd.R_celln false HO.out ((st.length - 2 : Nat) : Int) (by omega) (by omega)).1
                  simp only [Int.toNat_natCast] at hv1 hu1
                  generalize hv : rdOf false st ((st.length - 1 : Nat) : Int) = v at hv1 HA2 HS2
                  generalize hu : rdOf false st ((st.length - 2 : Nat) : Int) = u at hu1 HA2 HS2
                  have BK3 := Aside0.mk (blk_put (cs' := #[.slice (some ⟨g, 0, none⟩) (st.length - 1) c]) BK.out 0 (.slice (some ⟨g, 0, none⟩) (st.length - 1) c) rfl)
                  have HO3 := Aside0.mk (Kd.R_set (Kd.R_take HO.out (show st.length - 1 ≤ st.length by omega)) BK.out (by decide) 0 (.slice (some ⟨g, 0, none⟩) (st.length - 1) c))
                  have HB3 := Aside0.mk (below_set (j := 0) (v := .slice (some ⟨g, 0, none⟩) (st.length - 1) c) HB.out GS.out)
                  have hu2 : (W1.setCell ⟨gs, 0, none⟩ (.slice (some ⟨g, 0, none⟩) (st.length - 1) c)).cell? ⟨g, st.length - 1 - 1, none⟩ = some (.bool u) := (cell_far (p := ⟨gs, 0, none⟩) (a := ⟨g, st.length - 1 - 1, none⟩) (fun e => Kd.R_ne HO.out BK.out (by decide) (congrArg some (Eq.symm e))) _).trans hu1
                  have BK4 := Aside0.mk (blk_put (cs' := #[.slice (some ⟨g, 0, none⟩) (st.length - 1 - 1) c]) BK3.out 0 (.slice (some ⟨g, 0, none⟩) (st.length - 1 - 1) c) rfl)
                  have HO4 := Aside0.mk (Kd.R_set (Kd.R_take HO3.out (show st.length - 1 - 1 ≤ (st.take (st.length - 1)).length by simp only [List.length_take]; omega)) BK3.out (by decide) 0 (.slice (some ⟨g, 0, none⟩) (st.length - 1 - 1) c))
                  have HO5_ := HO4.out
                  rw [List.take_take, Nat.min_eq_left (by omega)] at HO5_
                  clear HO4
                  have HO4 := Aside0.mk HO5_
                  clear HO5_
                  have HB4 := Aside0.mk (below_set (j := 0) (v := .slice (some ⟨g, 0, none⟩) (st.length - 1 - 1) c) HB3.out GS.out)
                  have HU2 := Aside0.mk hu2
                  clear hu2
                  have HL1 := Aside0.mk (show 1 ≤ st.length by omega)
                  have HL2 := Aside0.mk (show 2 ≤ st.length by omega)
                  have HCAP := Aside0.mk hcap
                  have HV1 := Aside0.mk hv1
                  clear hs hv kb hcap hv1 hu hu1
                  go_wp2_with fail
                  go_at_call 71
                  refine (impl_table.pop gs g st.length c v W1 HL1.out (by have := HS.out; have := HN.out; have := HL.out; omega) HCAP.out BK.out HV1.out).mono ?_
                  rintro e w' ⟨rfl, rfl⟩
                  generalize hW2 : W1.setCell ⟨gs, 0, none⟩ (.slice (some ⟨g, 0, none⟩) (st.length - 1) c) = W2 at BK3 HO3 HB3 BK4 HO4 HB4 HU2 ⊢
                  clear hW2
                  go_wp2_with fail
                  go_at_call 71
                  refine (impl_table.pop gs g (st.length - 1) c u W2 (by have := HL2.out; omega) (by have := HS.out; have := HN.out; have := HL.out; omega) (by have := HCAP.out; omega) BK3.out HU2.out).mono ?_
                  rintro e w' ⟨rfl, rfl⟩
                  generalize hW3 : W2.setCell ⟨gs, 0, none⟩ (.slice (some ⟨g, 0, none⟩) (st.length - 1 - 1) c) = W3 at BK4 HO4 HB4 ⊢
                  clear hW3
                  try rw [show st.length - 2 = st.length - 1 - 1 by omega] at HA2 HS2
                  cases u with
                  | false =>
                    simp only [Bool.false_or] at HA2 HS2
                    have hbc : W3.cell? ⟨gs, 0, none⟩ = some (.slice (some ⟨g, 0, none⟩) (st.length - 1 - 1) c) := (blk_cell BK4.out 0).trans rfl
                    go_wp2_with (first | ((with_reducible refine gate_builtin (b := .append) (xs := #[.tmp 63, .tmp 65]) rfl ?_); at_builtin; refine Kd.R_append Kd.bool (w0 := w) w.heap.size rfl (.tmp 63) (.tmp 65) 42 4 (.bool false) 1 rfl Try.underlying42 info4 rfl (by decide) (by omega) _ (st.take (st.length - 1 - 1)) (v) [.bool (v)] (fun _ => True) (fun _ => False) rfl rfl ?aP (fun _ hk => hk.elim) ?aF ?aO ?aB ?aS ?aL ?_; (case aP => exact rfl); (case aB => exact HB4.out); (case aF => exact (fun _ _ => trivial)); (case aO => exact HO4.out); (case aS => exact (below_size HB4.out)); (case aL => have := HS.out; have := HN.out; have := HL.out; (try simp only [List.length_take]); omega); intro v153 w25 ho hb hg hat; obtain ⟨A5_, c5_, e5_⟩ := Kd.R_slice ho; generalize (st.take (st.length - 1 - 1) ++ [v]).length = n5_ at e5_; subst e5_; have HB5 := Aside0.mk hb; have HO5 := Aside0.mk ho; have BK5 := Aside0.mk (blk_grown BK4.out hg (Kd.R_ne HO4.out BK4.out (by decide))); clear ho hb hg hat; clear hbc; have hbc5 : w25.cell? ⟨gs, 0, none⟩ = some (.slice (some ⟨g, 0, none⟩) (st.length - 1 - 1) c) := (blk_cell BK5.out 0).trans rfl; have hbf5 := blk_frozen BK5.out 0))
                    go_roundg m
                    case measure => omega
                    case rel => exact ⟨_, i + 1, _, (by first | rw [show wrap64 ((i : Int) + 1) = ((i + 1 : Nat) : Int) from by have := HL.out; have := HN.out; unfold wrap64; omega] | go_num), HA2, ⟨by have := HN.out; omega⟩, ⟨by have := HS.out; have := HS2.out; omega⟩, ⟨blk_put BK5.out 0 _ rfl⟩, ⟨Kd.R_set HO5.out BK5.out (by decide) 0 _⟩, ⟨below_set HB5.out GS.out⟩⟩
                  | true =>
                    simp only [Bool.true_or] at HA2 HS2
                    have hbc : W3.cell? ⟨gs, 0, none⟩ = some (.slice (some ⟨g, 0, none⟩) (st.length - 1 - 1) c) := (blk_cell BK4.out 0).trans rfl
                    go_wp2_with (first | ((with_reducible refine gate_builtin (b := .append) (xs := #[.tmp 63, .tmp 65]) rfl ?_); at_builtin; refine Kd.R_append Kd.bool (w0 := w) w.heap.size rfl (.tmp 63) (.tmp 65) 42 4 (.bool false) 1 rfl Try.underlying42 info4 rfl (by decide) (by omega) _ (st.take (st.length - 1 - 1)) (true) [.bool (true)] (fun _ => True) (fun _ => False) rfl rfl ?aP (fun _ hk => hk.elim) ?aF ?aO ?aB ?aS ?aL ?_; (case aP => exact rfl); (case aB => exact HB4.out); (case aF => exact (fun _ _ => trivial)); (case aO => exact HO4.out); (case aS => exact (below_size HB4.out)); (case aL => have := HS.out; have := HN.out; have := HL.out; (try simp only [List.length_take]); omega); intro v153 w25 ho hb hg hat; obtain ⟨A5_, c5_, e5_⟩ := Kd.R_slice ho; generalize (st.take (st.length - 1 - 1) ++ [true]).length = n5_ at e5_; subst e5_; have HB5 := Aside0.mk hb; have HO5 := Aside0.mk ho; have BK5 := Aside0.mk (blk_grown BK4.out hg (Kd.R_ne HO4.out BK4.out (by decide))); clear ho hb hg hat; clear hbc; have hbc5 : w25.cell? ⟨gs, 0, none⟩ = some (.slice (some ⟨g, 0, none⟩) (st.length - 1 - 1) c) := (blk_cell BK5.out 0).trans rfl; have hbf5 := blk_frozen BK5.out 0))
                    go_roundg m
                    case measure => omega
                    case rel => exact ⟨_, i + 1, _, (by first | rw [show wrap64 ((i : Int) + 1) = ((i + 1 : Nat) : Int) from by have := HL.out; have := HN.out; unfold wrap64; omega] | go_num), HA2, ⟨by have := HN.out; omega⟩, ⟨by have := HS.out; have := HS2.out; omega⟩, ⟨blk_put BK5.out 0 _ rfl⟩, ⟨Kd.R_set HO5.out BK5.out (by decide) 0 _⟩, ⟨below_set HB5.out GS.out⟩⟩
                · rw [if_neg kb] at hs
                  exact absurd hs (by simp)
              · rw [if_neg k4] at hs
                by_cases k5 : x.f0 = 5
                · rw [if_pos k5] at hs
                  have kb1 : (x.f0 == 1) = false := by rw [k5]; rfl
                  have kb6 : (x.f0 == 6) = false := by rw [k5]; rfl
                  have kb2 : (x.f0 == 2) = false := by rw [k5]; rfl
                  have kb3 : (x.f0 == 3) = false := by rw [k5]; rfl
                  have kb4 : (x.f0 == 4) = false := by rw [k5]; rfl
                  have kb5 : (x.f0 == 5) = true := by rw [k5]; rfl
                  by_cases kb : 2 ≤ st.length
                  · rw [if_pos kb] at hs
                    obtain rfl := Option.some.inj hs
                    clear k1 k2 k3 k4 k5
                    obtain ⟨g, cap', e5, hgb, hgl, hgc⟩ := Kd.R_form HO.out (by omega)
                    injection e5 with ea en ec
                    subst ea ec
                    clear en hgc hgb hgl
                    have hcap := (Kd.R_reads' HO.out).2.1
                    have hv1 := (Kd.R_celln false HO.out ((st.length - 1 : Nat) : Int) (by omega) (by omega)).1
                    have hu1 := (Kd.R_celln false HO.out ((st.length - 2 : Nat) : Int) (by omega) (by omega)).1
                    simp only [Int.toNat_natCast] at hv1 hu1
                    generalize hv : rdOf false st ((st.length - 1 : Nat) : Int) = v at hv1 HA2 HS2
                    generalize hu : rdOf false st ((st.length - 2 : Nat) : Int) = u at hu1 HA2 HS2
                    have BK3 := Aside0.mk (blk_put (cs' := #[.slice (some ⟨g, 0, none⟩) (st.length - 1) c]) BK.out 0 (.slice (some ⟨g, 0, none⟩) (st.length - 1) c) rfl)
                    have HO3 := Aside0.mk (Kd.R_set (Kd.R_take HO.out (show st.length - 1 ≤ st.length by omega)) BK.out (by decide) 0 (.slice (some ⟨g, 0, none⟩) (st.length - 1) c))
                    have HB3 := Aside0.mk (below_set (j := 0) (v := .slice (some ⟨g, 0, none⟩) (st.length - 1) c) HB.out GS.out)
                    have hu2 : (W1.setCell ⟨gs, 0, none⟩ (.slice (some ⟨g, 0, none⟩) (st.length - 1) c)).cell? ⟨g, st.length - 1 - 1, none⟩ = some (.bool u) := (cell_far (p := ⟨gs, 0, none⟩) (a := ⟨g, st.length - 1 - 1, none⟩) (fun e => Kd.R_ne HO.out BK.out (by decide) (congrArg some (Eq.symm e))) _).trans hu1
                    have BK4 := Aside0.mk (blk_put (cs' := #[.slice (some ⟨g, 0, none⟩) (st.length - 1 - 1) c]) BK3.out 0 (.slice (some ⟨g, 0, none⟩) (st.length - 1 - 1) c) rfl)
                    have HO4 := Aside0.mk (Kd.R_set (Kd.R_take HO3.out (show st.length - 1 - 1 ≤ (st.take (st.length - 1)).length by simp only [List.length_take]; omega)) BK3.out (by decide) 0 (.slice (some ⟨g, 0, none⟩) (st.length - 1 - 1) c))
                    have HO5_ := HO4.out
                    rw [List.take_take, Nat.min_eq_left (by omega)] at HO5_
                    clear HO4
                    have HO4 := Aside0.mk HO5_
                    clear HO5_
                    have HB4 := Aside0.mk (below_set (j := 0) (v := .slice (some ⟨g, 0, none⟩) (st.length - 1 - 1) c) HB3.out GS.out)
                    have HU2 := Aside0.mk hu2
                    clear hu2
                    have HL1 := Aside0.mk (show 1 ≤ st.length by omega)
                    have HL2 := Aside0.mk (show 2 ≤ st.length by omega)
                    have HCAP := Aside0.mk hcap
                    have HV1 := Aside0.mk hv1
                    clear hs hv kb hcap hv1 hu hu1
                    go_wp2_with fail
                    go_at_call 71
                    refine (impl_table.pop gs g st.length c v W1 HL1.out (by have := HS.out; have := HN.out; have := HL.out; omega) HCAP.out BK.out HV1.out).mono ?_
                    rintro e w' ⟨rfl, rfl⟩
                    generalize hW2 : W1.setCell ⟨gs, 0, none⟩ (.slice (some ⟨g, 0, none⟩) (st.length - 1) c) = W2 at BK3 HO3 HB3 BK4 HO4 HB4 HU2 ⊢
                    clear hW2
                    go_wp2_with fail
                    go_at_call 71
                    refine (impl_table.pop gs g (st.length - 1) c u W2 (by have := HL2.out; omega) (by have := HS.out; have := HN.out; have := HL.out; omega) (by have := HCAP.out; omega) BK3.out HU2.out).mono ?_
                    rintro e w' ⟨rfl, rfl⟩
                    generalize hW3 : W2.setCell ⟨gs, 0, none⟩ (.slice (some ⟨g, 0, none⟩) (st.length - 1 - 1) c) = W3 at BK4 HO4 HB4 ⊢
                    clear hW3
                    try rw [show st.length - 2 = st.length - 1 - 1 by omega] at HA2 HS2
                    rw [show (u != v) = (v != u) by cases u <;> cases v <;> rfl] at HA2 HS2
                    have hbc : W3.cell? ⟨gs, 0, none⟩ = some (.slice (some ⟨g, 0, none⟩) (st.length - 1 - 1) c) := (blk_cell BK4.out 0).trans rfl
                    go_wp2_with (first | ((with_reducible refine gate_builtin (b := .append) (xs := #[.tmp 63, .tmp 65]) rfl ?_); at_builtin; refine Kd.R_append Kd.bool (w0 := w) w.heap.size rfl (.tmp 63) (.tmp 65) 42 4 (.bool false) 1 rfl Try.underlying42 info4 rfl (by decide) (by omega) _ (st.take (st.length - 1 - 1)) (v != u) [.bool (v != u)] (fun _ => True) (fun _ => False) rfl rfl ?aP (fun _ hk => hk.elim) ?aF ?aO ?aB ?aS ?aL ?_; (case aP => exact rfl); (case aB => exact HB4.out); (case aF => exact (fun _ _ => trivial)); (case aO => exact HO4.out); (case aS => exact (below_size HB4.out)); (case aL => have := HS.out; have := HN.out; have := HL.out; (try simp only [List.length_take]); omega); intro v153 w25 ho hb hg hat; obtain ⟨A5_, c5_, e5_⟩ := Kd.R_slice ho; generalize (st.take (st.length - 1 - 1) ++ [v != u]).length = n5_ at e5_; subst e5_; have HB5 := Aside0.mk hb; have HO5 := Aside0.mk ho; have BK5 := Aside0.mk (blk_grown BK4.out hg (Kd.R_ne HO4.out BK4.out (by decide))); clear ho hb hg hat; clear hbc; have hbc5 : w25.cell? ⟨gs, 0, none⟩ = some (.slice (some ⟨g, 0, none⟩) (st.length - 1 - 1) c) := (blk_cell BK5.out 0).trans rfl; have hbf5 := blk_frozen BK5.out 0))
                    go_roundg m
                    case measure => omega
                    case rel => exact ⟨_, i + 1, _, (by first | rw [show wrap64 ((i : Int) + 1) = ((i + 1 : Nat) : Int) from by have := HL.out; have := HN.out; unfold wrap64; omega] | go_num), HA2, ⟨by have := HN.out; omega⟩, ⟨by have := HS.out; have := HS2.out; omega⟩, ⟨blk_put BK5.out 0 _ rfl⟩, ⟨Kd.R_set HO5.out BK5.out (by decide) 0 _⟩, ⟨below_set HB5.out GS.out⟩⟩
                  · rw [if_neg kb] at hs
                    exact absurd hs (by simp)
                · rw [if_neg k5] at hs
                  obtain rfl := Option.some.inj hs
                  clear hs
                  have n1 := k1
                  have n2 := k2
                  have n3 := k3
                  have n4 := k4
                  have n5 := k5
                  by_cases k6 : x.f0 = 6
                  · clear k1 k2 k3 k4 k5 n1 n2 n3 n4 n5
                    have kb1 : (x.f0 == 1) = false := by rw [k6]; rfl
                    have kb6 : (x.f0 == 6) = true := by rw [k6]; rfl
                    have kb2 : (x.f0 == 2) = false := by rw [k6]; rfl
                    have kb3 : (x.f0 == 3) = false := by rw [k6]; rfl
                    have kb4 : (x.f0 == 4) = false := by rw [k6]; rfl
                    have kb5 : (x.f0 == 5) = false := by rw [k6]; rfl
                    rw [kb6] at HA2 HS2
                    clear k6
                    have hbc : W1.cell? ⟨gs, 0, none⟩ = some (.slice A st.length c) := (blk_cell BK.out 0).trans rfl
                    go_wp2_with (first | ((with_reducible refine gate_builtin (b := .append) (xs := #[.tmp 63, .tmp 65]) rfl ?_); at_builtin; refine Kd.R_append Kd.bool (w0 := w) w.heap.size rfl (.tmp 63) (.tmp 65) 42 4 (.bool false) 1 rfl Try.underlying42 info4 rfl (by decide) (by omega) _ (st) (true) [.bool (true)] (fun _ => True) (fun _ => False) rfl rfl ?aP (fun _ hk => hk.elim) ?aF ?aO ?aB ?aS ?aL ?_; (case aP => exact rfl); (case aB => exact HB.out); (case aF => exact (fun _ _ => trivial)); (case aO => exact HO.out); (case aS => exact (below_size HB.out)); (case aL => have := HS.out; have := HN.out; have := HL.out; (try simp only [List.length_take]); omega); intro v153 w25 ho hb hg hat; obtain ⟨A5_, c5_, e5_⟩ := Kd.R_slice ho; generalize (st ++ [true]).length = n5_ at e5_; subst e5_; have HB5 := Aside0.mk hb; have HO5 := Aside0.mk ho; have BK5 := Aside0.mk (blk_grown BK.out hg (Kd.R_ne HO.out BK.out (by decide))); clear ho hb hg hat; clear hbc; have hbc5 : w25.cell? ⟨gs, 0, none⟩ = some (.slice A st.length c) := (blk_cell BK5.out 0).trans rfl; have hbf5 := blk_frozen BK5.out 0))
                    go_roundg m
                    case measure => omega
                    case rel => exact ⟨_, i + 1, _, (by first | rw [show wrap64 ((i : Int) + 1) = ((i + 1 : Nat) : Int) from by have := HL.out; have := HN.out; unfold wrap64; omega] | go_num), HA2, ⟨by have := HN.out; omega⟩, ⟨by have := HS.out; have := HS2.out; omega⟩, ⟨blk_put BK5.out 0 _ rfl⟩, ⟨Kd.R_set HO5.out BK5.out (by decide) 0 _⟩, ⟨below_set HB5.out GS.out⟩⟩
                  · have n6 := k6
                    have kb1 : (x.f0 == 1) = false := beq_eq_false_iff_ne.mpr n1
                    have kb6 : (x.f0 == 6) = false := beq_eq_false_iff_ne.mpr n6
                    have kb2 : (x.f0 == 2) = false := beq_eq_false_iff_ne.mpr n2
                    have kb3 : (x.f0 == 3) = false := beq_eq_false_iff_ne.mpr n3
                    have kb4 : (x.f0 == 4) = false := beq_eq_false_iff_ne.mpr n4
                    have kb5 : (x.f0 == 5) = false := beq_eq_false_iff_ne.mpr n5
                    rw [kb6] at HA2 HS2
                    clear k1 k2 k3 k4 k5 k6 n1 n2 n3 n4 n5 n6
                    have hbc : W1.cell? ⟨gs, 0, none⟩ = some (.slice A st.length c) := (blk_cell BK.out 0).trans rfl
                    go_wp2_with (first | ((with_reducible refine gate_builtin (b := .append) (xs := #[.tmp 63, .tmp 65]) rfl ?_); at_builtin; refine Kd.R_append Kd.bool (w0 := w) w.heap.size rfl (.tmp 63) (.tmp 65) 42 4 (.bool false) 1 rfl Try.underlying42 info4 rfl (by decide) (by omega) _ (st) (false) [.bool (false)] (fun _ => True) (fun _ => False) rfl rfl ?aP (fun _ hk => hk.elim) ?aF ?aO ?aB ?aS ?aL ?_; (case aP => exact rfl); (case aB => exact HB.out); (case aF => exact (fun _ _ => trivial)); (case aO => exact HO.out); (case aS => exact (below_size HB.out)); (case aL => have := HS.out; have := HN.out; have := HL.out; (try simp only [List.length_take]); omega); intro v153 w25 ho hb hg hat; obtain ⟨A5_, c5_, e5_⟩ := Kd.R_slice ho; generalize (st ++ [false]).length = n5_ at e5_; subst e5_; have HB5 := Aside0.mk hb; have HO5 := Aside0.mk ho; have BK5 := Aside0.mk (blk_grown BK.out hg (Kd.R_ne HO.out BK.out (by decide))); clear ho hb hg hat; clear hbc; have hbc5 : w25.cell? ⟨gs, 0, none⟩ = some (.slice A st.length c) := (blk_cell BK5.out 0).trans rfl; have hbf5 := blk_frozen BK5.out 0))
                    go_roundg m
                    case measure => omega
                    case rel => exact ⟨_, i + 1, _, (by first | rw [show wrap64 ((i : Int) + 1) = ((i + 1 : Nat) : Int) from by have := HL.out; have := HN.out; unfold wrap64; omega] | go_num), HA2, ⟨by have := HN.out; omega⟩, ⟨by have := HS.out; have := HS2.out; omega⟩, ⟨blk_put BK5.out 0 _ rfl⟩, ⟨Kd.R_set HO5.out BK5.out (by decide) 0 _⟩, ⟨below_set HB5.out GS.out⟩⟩
  · rw [if_neg hb] at h
    exact absurd h (by simp)
/-- The truth values of n bits that the number x stands for. -/
def tbl.bits (n x : Nat) : List Bool := (List.range n).map fun j => ((x / 2 ^ j % 2 : Nat) : Int) == 1
theorem tbl.bits_length (n x : Nat) : (tbl.bits n x).length = n := by simp [tbl.bits]
theorem tbl.bits_at (n x j : Nat) (h : j < n) : rdOf false (tbl.bits n x) (j : Int) = (((x / 2 ^ j % 2 : Nat) : Int) == 1) := by
  simp [tbl.bits, rdOf, List.getD_eq_getElem?_getD, h]
theorem tbl.and1 : ∀ q : Nat, q < 64 → Go.bits .and .i64 (q : Int) 1 = ((q % 2 : Nat) : Int) := by decide
theorem impl_table.clos (gx x m : Nat) (n : Int) (w : World) (h0 : 0 ≤ n) (h1 : n < (m : Int)) (hm : m ≤ 6) (hx : x < 64) (hbox : w.heap[gx]? = some (.cells #[.int .i64 (x : Int)] 3 (0, 0))) :
    Calls Try.prog 66 #[.int .i64 n, .pointer (some ⟨gx, 0, none⟩)] w fun e w' => e = .returned (.bool (rdOf false (tbl.bits m x) n)) ∧ Below w.heap.size w w' := by
  obtain ⟨j, rfl⟩ : ∃ j : Nat, n = (j : Int) := ⟨n.toNat, by omega⟩
  have hc : w.cell? ⟨gx, 0, none⟩ = some (.int .i64 (x : Int)) := (blk_cell hbox 0).trans rfl
  rw [tbl.bits_at m x j (by omega)]
  have hq : x / 2 ^ j < 64 := Nat.lt_of_le_of_lt (Nat.div_le_self _ _) hx
  have hd : (x : Int) / 2 ^ j = ((x / 2 ^ j : Nat) : Int) := by simp
  have hand := tbl.and1 _ hq
  have j0 : (j : Int) ≤ 64 := by omega
  clear hbox h1 hm hx h0 hq
  generalize x / 2 ^ j = q at hd hand ⊢
  go_enter Try.func66, Try.ntmps66
  go_wp2
  go_ret
  exact ⟨rfl, Below.refl _ _⟩
def tbl.val (m : Nat) (l : List S69) (x : Nat) : Bool := (evl.val (tbl.bits m x) l).getD false
def tbl.out (m : Nat) (l : List S69) (i : Nat) : List Bool := (List.range (2 ^ m)).map fun j => if j < i then tbl.val m l j else false
theorem tbl.out_length (m : Nat) (l : List S69) (i : Nat) : (tbl.out m l i).length = 2 ^ m := by simp [tbl.out]
theorem tbl.out_zero (m : Nat) (l : List S69) : List.replicate (2 ^ m) false = tbl.out m l 0 := by
  apply List.ext_getElem?
  intro j
  by_cases hj : j < 2 ^ m <;> simp [tbl.out, hj, List.getElem?_replicate]
theorem tbl.out_succ (m : Nat) (l : List S69) (i : Nat) : (tbl.out m l i).set i (tbl.val m l i) = tbl.out m l (i + 1) := by
  apply List.ext_getElem?
  intro j
  by_cases hj : j < 2 ^ m
  · rw [List.getElem?_set]
    by_cases e : i = j
    · subst e
      simp [tbl.out, hj]
    · by_cases hji : j < i
      · simp [tbl.out, hj, e, hji, show j < i + 1 by omega]
      · simp [tbl.out, hj, e, hji, show ¬ j < i + 1 by omega]
  · rw [List.getElem?_eq_none (by rw [List.length_set, tbl.out_length]; omega), List.getElem?_eq_none (by rw [tbl.out_length]; omega)]
def impl_table.f (l0 : List S69) (a1 : Int) : Option (List Bool) := if 0 ≤ a1 ∧ a1 ≤ 6 ∧ ∀ x, x < 2 ^ a1.toNat → (evl.val (tbl.bits a1.toNat x) l0).isSome = true then some (tbl.out a1.toNat l0 (2 ^ a1.toNat)) else none
set_option maxHeartbeats 8000000 in
set_option maxRecDepth 100000 in
theorem impl_table.calls (A0 : Option Addr) (c0 : Nat) (l0 : List S69) (a1 : Int) (r : List Bool) (w : World) (hr0 : Kd.C k69 w A0 l0.length l0) (hc0 : l0.length ≤ c0) (h : impl_table.f l0 a1 = some r) :
    Calls Try.prog 50 #[.slice A0 l0.length c0, .int .i64 a1] w fun e w' => ∃ v0_ : Value, e = .returned v0_ ∧ Kd.R Kd.bool 4 w' w.heap.size (fun _ => True) v0_ r ∧ Below w.heap.size w w' := by
  unfold impl_table.f at h
  by_cases hb : 0 ≤ a1 ∧ a1 ≤ 6 ∧ ∀ x, x < 2 ^ a1.toNat → (evl.val (tbl.bits a1.toNat x) l0).isSome = true
  · rw [if_pos hb] at h
    obtain rfl := Option.some.inj h
    obtain ⟨h0, h6, hall⟩ := hb
    obtain ⟨m, rfl⟩ : ∃ m : Nat, a1 = (m : Int) := ⟨a1.toNat, by omega⟩
    simp only [Int.toNat_natCast] at hall ⊢
    have hm : m ≤ 6 := by omega
    have hN0 : 2 ^ m ≤ 64 := Nat.pow_le_pow_right (n := 2) (by decide) hm
    obtain ⟨N, hNe⟩ : ∃ N, N = 2 ^ m := ⟨_, rfl⟩
    have HZ0 := tbl.out_zero m l0
    have HLEN0 := fun i => tbl.out_length m l0 i
    rw [← hNe] at hall hN0 HZ0 ⊢
    simp only [← hNe] at HLEN0
    have hsh : wrap64 (2 ^ min m 64) = (N : Int) := by
      rw [Nat.min_eq_left (by omega), show (2 : Int) ^ m = ((2 ^ m : Nat) : Int) by simp, ← hNe]
      unfold wrap64
      omega
    have HZ := Aside0.mk HZ0
    have HLEN := Aside0.mk HLEN0
    have HR0 := Aside0.mk hr0
    have HALL := Aside0.mk hall
    have HM := Aside0.mk hm
    have HN := Aside0.mk hN0
    have HSH := Aside0.mk hsh
    clear h hr0 hc0 hall h0 h6 hm hNe HZ0 HLEN0 hN0 hsh
    go_enter Try.func50, Try.ntmps50
    go_wp2_with (first | ((with_reducible refine gate_dst (N := 9) rfl ?_); refine Kd.R_make Kd.bool _ 4 rfl (N := 9) rfl 42 _ _ rfl (wrap64 (2 ^ min m 64)) rfl rfl Try.underlying42 (.bool false) 1 info4 rfl (by decide) (by omega) false (ok := fun _ => True) (okp := fun _ => True) rfl (fun _ hk => hk) trivial (by rw [HSH.out]; omega) (by rw [HSH.out]; have := HN.out; omega) (Below.refl _ _) (Nat.le_refl _) ?_; intro v105 w4 ho5 hb hg_ hnew_; clear hg_ hnew_; rw [HSH.out, Int.toNat_natCast, HZ.out] at ho5; have HO := Aside0.mk ho5; have HB := Aside0.mk hb; clear hb ho5; obtain ⟨Ao, co, eo⟩ := Kd.R_slice HO.out; rw [HLEN.out] at eo; subst eo))
    go_loopg [12] N (fun gg v12 wr => ∃ i : Nat, v12 = .int .i64 (i : Int) ∧ Aside0 (i + gg = N) ∧ Aside0 (Kd.R Kd.bool 4 wr w.heap.size (fun _ => True) (.slice Ao N co) (tbl.out m l0 i)) ∧ Aside0 (Below w.heap.size w wr))
    case atStart => exact ⟨0, rfl, ⟨by omega⟩, HO, HB⟩
    case round =>
      clear HO HB
      obtain ⟨i, rfl, HI, HO, HB⟩ := hrel
      cases gk with
      | zero =>
        have hi : i = N := HI.out
        subst hi
        go_wp2
        go_ret
        exact ⟨_, rfl, HO.out, HB.out⟩
      | succ k1 =>
        have hlt : i < N := by have := HI.out; omega
        have hltz : (i : Int) < (N : Int) := by omega
        go_upto_region 5 with (first | ((with_reducible refine gate_dst (N := 6) rfl ?_); refine box_event ?hg (N := 6) ?hd (cs := #[.int .i64 0]) (t := 3) ?hr ?_; (case hd => rfl); (case hg => rfl); (case hr => first | (go_simp; done) | (go_simp; rfl)); intro gx hg w2 hbox hb; have BX := Aside0.mk hbox; have HB2 := Aside0.mk (below_step HB.out hb); have HO2 := Aside0.mk (Kd.R_below HO.out hb); have GX := Aside0.mk (show w.heap.size ≤ gx from by rw [hg]; exact below_size HB.out); clear hb hbox hg; clear HB HO; have hcz0 : w2.cell? ⟨gx, 0, none⟩ = some (.int .i64 0) := (blk_cell BX.out 0).trans rfl; have hfz0 := blk_frozen BX.out 0))
        have BX3 := Aside0.mk (blk_put (cs' := #[.int .i64 (i : Int)]) BX.out 0 (.int .i64 (i : Int)) rfl)
        have HO3 := Aside0.mk (Kd.R_set HO2.out BX.out (by decide) 0 (.int .i64 (i : Int)))
        have HB3 := Aside0.mk (below_set (j := 0) (v := .int .i64 (i : Int)) HB2.out GX.out)
        clear hcz0 hfz0 BX HO2 HB2
        generalize w2.setCell ⟨gx, 0, none⟩ (.int .i64 (i : Int)) = W1 at BX3 HO3 HB3 ⊢
        obtain ⟨g, cap', e5, hgb, hgl, hgc⟩ := Kd.R_form HO3.out (by rw [HLEN.out]; omega)
        injection e5 with ea en ec
        subst ea ec
        clear en hgc hgl
        have GR := Aside0.mk hgb
        clear hgb
        have HV := Aside0.mk (show evl.val (tbl.bits m i) l0 = some (tbl.val m l0 i) from by unfold tbl.val; obtain ⟨q, hq⟩ := Option.isSome_iff_exists.mp (HALL.out i hlt); rw [hq]; rfl)
        have hc0_ : W1.cell? ⟨gx, 0, none⟩ = some (.int .i64 (i : Int)) := (blk_cell BX3.out 0).trans rfl
        refine start_ (n := 7) (S := fun w' => w'.cell? ⟨gx, 0, none⟩ = some (.int .i64 (i : Int))) (ds := [6]) #[false, false, false, false, false, false, false] (by kernel_rfl) rfl rfl hc0_ (fun hHeld => ?_)
        have HOd := Aside0.mk (Kd.R_drew HO3.out)
        have HBd := Aside0.mk (below_drew1 HB3.out)
        have BXd := Aside0.mk (blk_drew BX3.out)
        have HRd := Aside0.mk (Kd.C_below HR0.out HBd.out)
        clear hc0_ HO3 HB3 BX3
        generalize W1.drew = w9 at HOd HBd BXd HRd hHeld ⊢
        refine pure_ (i := 0) (N := some 15) (v := ?_) (a' := ?_) #[true, false, false, false, false, false, false] rfl rfl (by kernel_rfl) (fun _ _ _ h => h) (Or.inl ⟨by rfl, ?_⟩) ?_ ?_
        rotate_left
        · intro w'
          go_simp
          with_reducible rfl
        rotate_left
        · simp only [Act.put, List.setIfInBounds_toArray, List.set_cons_zero, List.set_cons_succ, i64_w, i32_w]
          rfl
        refine take_ (i := 1) (N := some 16) (v := ?_) (a' := ?_) #[true, true, false, false, false, false, false] rfl rfl (by kernel_rfl) (fun _ _ _ h => h) (Or.inl ⟨by rfl, ?_⟩) hHeld ?_ ?_
        rotate_left
        · rintro w' s0
          go_simp
          with_reducible rfl
        rotate_left
        · simp only [Act.put, List.setIfInBounds_toArray, List.set_cons_zero, List.set_cons_succ, i64_w, i32_w]
          rfl
        refine pure_ (i := 2) (N := some 17) (v := ?_) (a' := ?_) #[true, true, true, false, false, false, false] rfl rfl (by kernel_rfl) (fun _ _ _ h => h) (Or.inl ⟨by rfl, ?_⟩) ?_ ?_
        rotate_left
        · intro w'
          go_simp
          with_reducible rfl
        rotate_left
        · simp only [Act.put, List.setIfInBounds_toArray, List.set_cons_zero, List.set_cons_succ, i64_w, i32_w]
          rfl
        refine pure_ (i := 3) (N := some 18) (v := ?_) (a' := ?_) #[true, true, true, true, false, false, false] rfl rfl (by kernel_rfl) (fun _ _ _ h => h) (Or.inl ⟨by rfl, ?_⟩) ?_ ?_
        rotate_left
        · intro w'
          go_simp
          with_reducible rfl
        rotate_left
        · simp only [Act.put, List.setIfInBounds_toArray, List.set_cons_zero, List.set_cons_succ, i64_w, i32_w]
          rfl
        refine one_ (i := 4) (N := some 19) #[true, true, true, true, true, false, false] rfl rfl (by kernel_rfl) (by decide) (fun K hK => ?_)
        refine goes_ Try.func62 (by kernel_rfl) rfl #[.slice A0 l0.length c0, .func (.func 66) #[] #[.pointer (some ⟨gx, 0, none⟩)]] (by rfl) rfl rfl (by (try simp only [List.map_toArray, List.map_cons, List.map_nil]); first | done | rfl) ?_
        refine (impl_table.eval (tbl.bits m i) A0 c0 l0 (.pointer (some ⟨gx, 0, none⟩)) (tbl.val m l0 i) w9 HRd.out HV.out (fun n w' h0 h1 hB => impl_table.clos gx i m n w' h0 (by rw [tbl.bits_length] at h1; exact h1) HM.out (by have := HN.out; have := HI.out; omega) (blk_below BXd.out hB))).mono ?_
        rintro e w12 ⟨rfl, hb⟩
        refine ⟨_, rfl, ?_⟩
        have BX4 := Aside0.mk (blk_below BXd.out hb)
        have HO4 := Aside0.mk (Kd.R_below HOd.out hb)
        have HB4 := Aside0.mk (below_step HBd.out hb)
        clear hb
        refine hK.out _ _ ((blk_cell BX4.out 0).trans rfl) (fun hHeld2 => ?_)
        clear hK K hHeld
        refine norm_ (a' := ?_) ?_ ?_
        rotate_left
        · show Act.put _ (some 19) _ = _
          simp only [Act.put, List.setIfInBounds_toArray, List.set_cons_zero, List.set_cons_succ, i64_w, i32_w]
          rfl
        refine pure_ (i := 5) (N := some 20) (v := ?_) (a' := ?_) #[true, true, true, true, true, true, false] rfl rfl (by kernel_rfl) (fun _ _ _ h => h) (Or.inl ⟨by rfl, ?_⟩) ?_ ?_
        rotate_left
        · intro w'
          go_simp
          with_reducible rfl
        rotate_left
        · simp only [Act.put, List.setIfInBounds_toArray, List.set_cons_zero, List.set_cons_succ, i64_w, i32_w]
          rfl
        refine last_ (i := 6) (N := none) #[true, true, true, true, true, true, true] rfl rfl (by kernel_rfl) (by decide) (fun K hK => ?_)
        obtain ⟨hcl, hfr⟩ := Kd.R_celln false HO4.out (i : Int) (by omega) (by omega)
        have hput := Kd.R_putg HO4.out (i : Int) (tbl.val m l0 i)
        simp only [Int.toNat_natCast] at hcl hfr hput
        have HP := Aside0.mk hput.1
        clear hput
        refine skip_ (w1 := ?_) (by rfl) rfl ?_ ?_
        rotate_left
        · go_simp
          rfl
        refine hK.out _ _ ?_
        clear hK K
        refine done_ (by kernel_rfl) ?_
        try go_wp2
        go_roundg k1
        case measure => omega
        case rel => exact ⟨i + 1, (by first | rw [show wrap64 ((i : Int) + 1) = ((i + 1 : Nat) : Int) from by have := HN.out; unfold wrap64; omega] | go_num), ⟨by have := HI.out; omega⟩, ⟨by have h_ := HP.out; rw [tbl.out_succ] at h_; exact h_⟩, ⟨below_set HB4.out GR.out⟩⟩
  · rw [if_neg hb] at h
    exact absurd h (by simp)


/-! ### impl_LogicDepends: function 23 -/
mutual
def impl_LogicDepends.j0 : Nat → List (S69) → Int → Int → Bool → Option (Bool)
  | 0, _, _, _, _ => none
  | k + 1, x0, x1, x2, x24 => if x24 = true then (some false) else ((impl_table.f x0 x1).bind fun t154 => (impl_LogicDepends.l0 k x2 t154 (t154.length : Int) 0))
def impl_LogicDepends.l0 : Nat → Int → List Bool → Int → Int → Option (Bool)
  | 0, _, _, _, _ => none
  | k + 1, x2, x7, x29, x30 => if x30 < x29 then (if 0 ≤ x30 then (if x30 < (x7.length : Int) then (if 0 ≤ x2 then (if 0 ≤ (Go.bits .xor .i64 x30 (shl .i64 1 x2)) then (if (Go.bits .xor .i64 x30 (shl .i64 1 x2)) < (x7.length : Int) then (if ((rdOf false x7 x30) != (rdOf false x7 (Go.bits .xor .i64 x30 (shl .i64 1 x2)))) = true then (some true) else (impl_LogicDepends.l0 k x2 x7 x29 (wrap64 (x30 + 1)))) else (none)) else (none)) else (none)) else (none)) else (none)) else (some false)
end
def impl_LogicDepends.f (k : Nat) (l0 : List (S69)) (a1 : Int) (a2 : Int) : Option (Bool) := (impl_in.f a1 0 6).bind fun t151 => (if t151 = true then ((impl_LogicValid.f k l0 a1).bind fun t152 => (if t152 = true then ((impl_in.f a2 0 (wrap64 (a1 - 1))).bind fun t153 => (impl_LogicDepends.j0 k l0 a1 a2 (!t153))) else (impl_LogicDepends.j0 k l0 a1 a2 true))) else (impl_LogicDepends.j0 k l0 a1 a2 true))
theorem impl_LogicDepends.mono_l : ∀ k, (∀ y0 y1 y2 y3, LeO (impl_LogicDepends.j0 k y0 y1 y2 y3) (impl_LogicDepends.j0 (k + 1) y0 y1 y2 y3)) ∧ (∀ y0 y1 y2 y3, LeO (impl_LogicDepends.l0 k y0 y1 y2 y3) (impl_LogicDepends.l0 (k + 1) y0 y1 y2 y3))
  | 0 => ⟨fun _ _ _ _ r h => by simp [impl_LogicDepends.j0] at h, fun _ _ _ _ r h => by simp [impl_LogicDepends.l0] at h⟩
  | k + 1 => by
    obtain ⟨ih0, ih1⟩ := impl_LogicDepends.mono_l k
    refine ⟨?_, ?_⟩
    · intro y0 y1 y2 y3
      unfold impl_LogicDepends.j0
      repeat' first
      | (with_reducible exact ih0 _ _ _ _)
      | (with_reducible exact ih1 _ _ _ _)
      | (with_reducible exact impl_LogicValid.mono _ _ _)
      | (with_reducible exact LeO.refl _)
      | (with_reducible exact LeO.none _)
      | (with_reducible refine LeO.ite ?_ ?_)
      | (with_reducible refine LeO.bind ?_ (fun _ => ?_))
      | exact ih0 _ _ _ _
      | exact ih1 _ _ _ _
      | exact impl_LogicValid.mono _ _ _
      | exact LeO.none _
      | refine LeO.ite ?_ ?_
      | refine LeO.bind ?_ (fun _ => ?_)
    · intro y0 y1 y2 y3
      unfold impl_LogicDepends.l0
      repeat' first
      | (with_reducible exact ih0 _ _ _ _)
      | (with_reducible exact ih1 _ _ _ _)
      | (with_reducible exact impl_LogicValid.mono _ _ _)
      | (with_reducible exact LeO.refl _)
      | (with_reducible exact LeO.none _)
      | (with_reducible refine LeO.ite ?_ ?_)
      | (with_reducible refine LeO.bind ?_ (fun _ => ?_))
      | exact ih0 _ _ _ _
      | exact ih1 _ _ _ _
      | exact impl_LogicValid.mono _ _ _
      | exact LeO.none _
      | refine LeO.ite ?_ ?_
      | refine LeO.bind ?_ (fun _ => ?_)
theorem impl_LogicDepends.mono : ∀ a0 a1 a2 k, LeO (impl_LogicDepends.f k a0 a1 a2) (impl_LogicDepends.f (k + 1) a0 a1 a2) := by
  intro a0 a1 a2 k
  obtain ⟨ih0, ih1⟩ := impl_LogicDepends.mono_l k
  unfold impl_LogicDepends.f
  repeat' first
      | (with_reducible exact ih0 _ _ _ _)
      | (with_reducible exact ih1 _ _ _ _)
      | (with_reducible exact impl_LogicValid.mono _ _ _)
      | (with_reducible exact LeO.refl _)
      | (with_reducible exact LeO.none _)
      | (with_reducible refine LeO.ite ?_ ?_)
      | (with_reducible refine LeO.bind ?_ (fun _ => ?_))
      | exact ih0 _ _ _ _
      | exact ih1 _ _ _ _
      | exact impl_LogicValid.mono _ _ _
      | exact LeO.none _
      | refine LeO.ite ?_ ?_
      | refine LeO.bind ?_ (fun _ => ?_)
set_option maxHeartbeats 8000000 in
set_option maxRecDepth 100000 in
theorem impl_LogicDepends.calls (k : Nat) (A0 : Option Addr) (c0 : Nat) (l0 : List (S69)) (a1 : Int) (a2 : Int) (r : Bool) (w : World) (hr0 : Kd.C k69 w A0 l0.length l0) (hc0 : l0.length ≤ c0) (h : impl_LogicDepends.f k l0 a1 a2 = some r) :
    Calls Try.prog 23 #[.slice A0 l0.length c0, .int .i64 a1, .int .i64 a2] w fun e w' => e = .returned (.bool r) ∧ Below w.heap.size w w' := by
  have HR0 := Aside0.mk hr0
  have HC0 := Aside0.mk hc0
  clear hr0 hc0
  have HB := Aside0.mk (Below.refl w.heap.size w)
  have H : ((impl_in.f a1 0 6).bind fun t151 => (if t151 = true then ((impl_LogicValid.f k l0 a1).bind fun t152 => (if t152 = true then ((impl_in.f a2 0 (wrap64 (a1 - 1))).bind fun t153 => (impl_LogicDepends.j0 k l0 a1 a2 (!t153))) else (impl_LogicDepends.j0 k l0 a1 a2 true))) else (impl_LogicDepends.j0 k l0 a1 a2 true))) = some r := h
  clear h
  have HC4 := Aside0.mk H
  clear H
  go_enter Try.func23, Try.ntmps23
  go_upto_region 1 with (fail)
  repeat (go_quiet (fail); go_upto_region 1 with (fail))
  go_cut [24] (fun v24 wc => ∃ (kq : Nat) (x24_3 : Bool), v24 = .bool x24_3 ∧ Aside0 (impl_LogicDepends.j0 kq l0 a1 a2 x24_3 = some r) ∧ Aside0 (kq ≤ k) ∧ Aside0 (Below w.heap.size w wc))
  case first =>
    have H := HC4.out
    clear HC4
    replace H := Option.bind_eq_some_iff.mp H
    obtain ⟨t151, A50, H⟩ := H
    replace H : (if t151 = true then ((impl_LogicValid.f k l0 a1).bind fun t152 => (if t152 = true then ((impl_in.f a2 0 (wrap64 (a1 - 1))).bind fun t153 => (impl_LogicDepends.j0 k l0 a1 a2 (!t153))) else (impl_LogicDepends.j0 k l0 a1 a2 true))) else (impl_LogicDepends.j0 k l0 a1 a2 true)) = some r := H
    have A5 := Aside0.mk A50
    clear A50
    by_cases c6 : t151 = true
    · subst c6
      have H1 : ((impl_LogicValid.f k l0 a1).bind fun t152 => (if t152 = true then ((impl_in.f a2 0 (wrap64 (a1 - 1))).bind fun t153 => (impl_LogicDepends.j0 k l0 a1 a2 (!t153))) else (impl_LogicDepends.j0 k l0 a1 a2 true))) = some r := by rw [if_pos rfl] at H; exact H
      clear H
      have H := H1
      clear H1
      replace H := Option.bind_eq_some_iff.mp H
      obtain ⟨t152, A70, H⟩ := H
      replace H : (if t152 = true then ((impl_in.f a2 0 (wrap64 (a1 - 1))).bind fun t153 => (impl_LogicDepends.j0 k l0 a1 a2 (!t153))) else (impl_LogicDepends.j0 k l0 a1 a2 true)) = some r := H
      have A7 := Aside0.mk A70
      clear A70
      by_cases c8 : t152 = true
      · subst c8
        have H1 : ((impl_in.f a2 0 (wrap64 (a1 - 1))).bind fun t153 => (impl_LogicDepends.j0 k l0 a1 a2 (!t153))) = some r := by rw [if_pos rfl] at H; exact H
        clear H
        have H := H1
        clear H1
        replace H := Option.bind_eq_some_iff.mp H
        obtain ⟨t153, A90, H⟩ := H
        replace H : (impl_LogicDepends.j0 k l0 a1 a2 (!t153)) = some r := H
        have A9 := Aside0.mk A90
        clear A90
        have H' := Aside0.mk H
        clear H
        go_wp2_with (first | (go_at_call 48; (with_reducible refine (impl_in.calls a1 0 6 true _ A5.out).mono ?_); rintro e w' ⟨rfl, ⟨nd, rfl⟩⟩; (try first | exact ⟨rfl, _, World.drewN_drewN _ _ _⟩ | exact ⟨rfl, _, Eq.trans (World.drewN_drewN _ _ _) (congrArg (World.drewN _) (Nat.add_assoc _ _ _))⟩)) | (go_at_call 49; (with_reducible refine (impl_LogicValid.calls k _ _ l0 a1 true _ ?side1 ?side2 A7.out).mono ?_); (case side1 => repeat (first | exact (Kd.C_below HR0.out (by repeat (first | (with_reducible first | exact HB.out | apply below_alloc | apply pw_below_drewN | apply below_drew1) | exact HB.out))) | (with_reducible refine Kd.C_alloc ?_ _) | (with_reducible refine Kd.C_drewN ?_ _) | (with_reducible refine Kd.C_drew ?_))); (case side2 => exact HC0.out); rintro e w10 ⟨rfl, hb⟩; have n0_ := Aside0.mk (below_step (by repeat (first | (with_reducible first | exact HB.out | apply below_alloc | apply pw_below_drewN | apply below_drew1) | exact HB.out)) hb); clear HB; have HB := n0_; clear n0_; (try clear hb); (try clear hb2); (try clear hk); (try clear hi)) | (go_at_call 48; (with_reducible refine (impl_in.calls a2 0 (wrap64 (a1 - 1)) t153 _ A9.out).mono ?_); rintro e w' ⟨rfl, ⟨nd, rfl⟩⟩; (try first | exact ⟨rfl, _, World.drewN_drewN _ _ _⟩ | exact ⟨rfl, _, Eq.trans (World.drewN_drewN _ _ _) (congrArg (World.drewN _) (Nat.add_assoc _ _ _))⟩)))
        repeat (go_quiet (first | (go_at_call 48; (with_reducible refine (impl_in.calls a1 0 6 true _ A5.out).mono ?_); rintro e w' ⟨rfl, ⟨nd, rfl⟩⟩; (try first | exact ⟨rfl, _, World.drewN_drewN _ _ _⟩ | exact ⟨rfl, _, Eq.trans (World.drewN_drewN _ _ _) (congrArg (World.drewN _) (Nat.add_assoc _ _ _))⟩)) | (go_at_call 49; (with_reducible refine (impl_LogicValid.calls k _ _ l0 a1 true _ ?side1 ?side2 A7.out).mono ?_); (case side1 => repeat (first | exact (Kd.C_below HR0.out (by repeat (first | (with_reducible first | exact HB.out | apply below_alloc | apply pw_below_drewN | apply below_drew1) | exact HB.out))) | (with_reducible refine Kd.C_alloc ?_ _) | (with_reducible refine Kd.C_drewN ?_ _) | (with_reducible refine Kd.C_drew ?_))); (case side2 => exact HC0.out); rintro e w10 ⟨rfl, hb⟩; have n0_ := Aside0.mk (below_step (by repeat (first | (with_reducible first | exact HB.out | apply below_alloc | apply pw_below_drewN | apply below_drew1) | exact HB.out)) hb); clear HB; have HB := n0_; clear n0_; (try clear hb); (try clear hb2); (try clear hk); (try clear hi)) | (go_at_call 48; (with_reducible refine (impl_in.calls a2 0 (wrap64 (a1 - 1)) t153 _ A9.out).mono ?_); rintro e w' ⟨rfl, ⟨nd, rfl⟩⟩; (try first | exact ⟨rfl, _, World.drewN_drewN _ _ _⟩ | exact ⟨rfl, _, Eq.trans (World.drewN_drewN _ _ _) (congrArg (World.drewN _) (Nat.add_assoc _ _ _))⟩))); try go_wp2_with (first | (go_at_call 48; (with_reducible refine (impl_in.calls a1 0 6 true _ A5.out).mono ?_); rintro e w' ⟨rfl, ⟨nd, rfl⟩⟩; (try first | exact ⟨rfl, _, World.drewN_drewN _ _ _⟩ | exact ⟨rfl, _, Eq.trans (World.drewN_drewN _ _ _) (congrArg (World.drewN _) (Nat.add_assoc _ _ _))⟩)) | (go_at_call 49; (with_reducible refine (impl_LogicValid.calls k _ _ l0 a1 true _ ?side1 ?side2 A7.out).mono ?_); (case side1 => repeat (first | exact (Kd.C_below HR0.out (by repeat (first | (with_reducible first | exact HB.out | apply below_alloc | apply pw_below_drewN | apply below_drew1) | exact HB.out))) | (with_reducible refine Kd.C_alloc ?_ _) | (with_reducible refine Kd.C_drewN ?_ _) | (with_reducible refine Kd.C_drew ?_))); (case side2 => exact HC0.out); rintro e w10 ⟨rfl, hb⟩; have n0_ := Aside0.mk (below_step (by repeat (first | (with_reducible first | exact HB.out | apply below_alloc | apply pw_below_drewN | apply below_drew1) | exact HB.out)) hb); clear HB; have HB := n0_; clear n0_; (try clear hb); (try clear hb2); (try clear hk); (try clear hi)) | (go_at_call 48; (with_reducible refine (impl_in.calls a2 0 (wrap64 (a1 - 1)) t153 _ A9.out).mono ?_); rintro e w' ⟨rfl, ⟨nd, rfl⟩⟩; (try first | exact ⟨rfl, _, World.drewN_drewN _ _ _⟩ | exact ⟨rfl, _, Eq.trans (World.drewN_drewN _ _ _) (congrArg (World.drewN _) (Nat.add_assoc _ _ _))⟩))))
        go_meet
        case rel => exact ⟨_, (!t153), (by first | rfl | (simp; done) | (simp [*]; done)), H', ⟨by first | omega | exact Nat.le_refl _⟩, ⟨by repeat (first | (with_reducible first | exact HB.out | apply below_alloc | apply pw_below_drewN | apply below_drew1) | exact HB.out)⟩⟩
      · replace c8 := Bool.eq_false_iff.mpr c8
        subst c8
        have H1 : (impl_LogicDepends.j0 k l0 a1 a2 true) = some r := by rw [if_neg (show ¬ (false = true) by decide)] at H; exact H
        clear H
        have H := H1
        clear H1
        have H' := Aside0.mk H
        clear H
        go_wp2_with (first | (go_at_call 48; (with_reducible refine (impl_in.calls a1 0 6 true _ A5.out).mono ?_); rintro e w' ⟨rfl, ⟨nd, rfl⟩⟩; (try first | exact ⟨rfl, _, World.drewN_drewN _ _ _⟩ | exact ⟨rfl, _, Eq.trans (World.drewN_drewN _ _ _) (congrArg (World.drewN _) (Nat.add_assoc _ _ _))⟩)) | (go_at_call 49; (with_reducible refine (impl_LogicValid.calls k _ _ l0 a1 false _ ?side1 ?side2 A7.out).mono ?_); (case side1 => repeat (first | exact (Kd.C_below HR0.out (by repeat (first | (with_reducible first | exact HB.out | apply below_alloc | apply pw_below_drewN | apply below_drew1) | exact HB.out))) | (with_reducible refine Kd.C_alloc ?_ _) | (with_reducible refine Kd.C_drewN ?_ _) | (with_reducible refine Kd.C_drew ?_))); (case side2 => exact HC0.out); rintro e w11 ⟨rfl, hb⟩; have n0_ := Aside0.mk (below_step (by repeat (first | (with_reducible first | exact HB.out | apply below_alloc | apply pw_below_drewN | apply below_drew1) | exact HB.out)) hb); clear HB; have HB := n0_; clear n0_; (try clear hb); (try clear hb2); (try clear hk); (try clear hi)))
        repeat (go_quiet (first | (go_at_call 48; (with_reducible refine (impl_in.calls a1 0 6 true _ A5.out).mono ?_); rintro e w' ⟨rfl, ⟨nd, rfl⟩⟩; (try first | exact ⟨rfl, _, World.drewN_drewN _ _ _⟩ | exact ⟨rfl, _, Eq.trans (World.drewN_drewN _ _ _) (congrArg (World.drewN _) (Nat.add_assoc _ _ _))⟩)) | (go_at_call 49; (with_reducible refine (impl_LogicValid.calls k _ _ l0 a1 false _ ?side1 ?side2 A7.out).mono ?_); (case side1 => repeat (first | exact (Kd.C_below HR0.out (by repeat (first | (with_reducible first | exact HB.out | apply below_alloc | apply pw_below_drewN | apply below_drew1) | exact HB.out))) | (with_reducible refine Kd.C_alloc ?_ _) | (with_reducible refine Kd.C_drewN ?_ _) | (with_reducible refine Kd.C_drew ?_))); (case side2 => exact HC0.out); rintro e w11 ⟨rfl, hb⟩; have n0_ := Aside0.mk (below_step (by repeat (first | (with_reducible first | exact HB.out | apply below_alloc | apply pw_below_drewN | apply below_drew1) | exact HB.out)) hb); clear HB; have HB := n0_; clear n0_; (try clear hb); (try clear hb2); (try clear hk); (try clear hi))); try go_wp2_with (first | (go_at_call 48; (with_reducible refine (impl_in.calls a1 0 6 true _ A5.out).mono ?_); rintro e w' ⟨rfl, ⟨nd, rfl⟩⟩; (try first | exact ⟨rfl, _, World.drewN_drewN _ _ _⟩ | exact ⟨rfl, _, Eq.trans (World.drewN_drewN _ _ _) (congrArg (World.drewN _) (Nat.add_assoc _ _ _))⟩)) | (go_at_call 49; (with_reducible refine (impl_LogicValid.calls k _ _ l0 a1 false _ ?side1 ?side2 A7.out).mono ?_); (case side1 => repeat (first | exact (Kd.C_below HR0.out (by repeat (first | (with_reducible first | exact HB.out | apply below_alloc | apply pw_below_drewN | apply below_drew1) | exact HB.out))) | (with_reducible refine Kd.C_alloc ?_ _) | (with_reducible refine Kd.C_drewN ?_ _) | (with_reducible refine Kd.C_drew ?_))); (case side2 => exact HC0.out); rintro e w11 ⟨rfl, hb⟩; have n0_ := Aside0.mk (below_step (by repeat (first | (with_reducible first | exact HB.out | apply below_alloc | apply pw_below_drewN | apply below_drew1) | exact HB.out)) hb); clear HB; have HB := n0_; clear n0_; (try clear hb); (try clear hb2); (try clear hk); (try clear hi))))
        go_meet
        case rel => exact ⟨_, (true), (by first | rfl | (simp; done) | (simp [*]; done)), H', ⟨by first | omega | exact Nat.le_refl _⟩, ⟨by repeat (first | (with_reducible first | exact HB.out | apply below_alloc | apply pw_below_drewN | apply below_drew1) | exact HB.out)⟩⟩
    · replace c6 := Bool.eq_false_iff.mpr c6
      subst c6
      have H1 : (impl_LogicDepends.j0 k l0 a1 a2 true) = some r := by rw [if_neg (show ¬ (false = true) by decide)] at H; exact H
      clear H
      have H := H1
      clear H1
      have H' := Aside0.mk H
      clear H
      go_wp2_with (first | (go_at_call 48; (with_reducible refine (impl_in.calls a1 0 6 false _ A5.out).mono ?_); rintro e w' ⟨rfl, ⟨nd, rfl⟩⟩; (try first | exact ⟨rfl, _, World.drewN_drewN _ _ _⟩ | exact ⟨rfl, _, Eq.trans (World.drewN_drewN _ _ _) (congrArg (World.drewN _) (Nat.add_assoc _ _ _))⟩)))
      repeat (go_quiet (first | (go_at_call 48; (with_reducible refine (impl_in.calls a1 0 6 false _ A5.out).mono ?_); rintro e w' ⟨rfl, ⟨nd, rfl⟩⟩; (try first | exact ⟨rfl, _, World.drewN_drewN _ _ _⟩ | exact ⟨rfl, _, Eq.trans (World.drewN_drewN _ _ _) (congrArg (World.drewN _) (Nat.add_assoc _ _ _))⟩))); try go_wp2_with (first | (go_at_call 48; (with_reducible refine (impl_in.calls a1 0 6 false _ A5.out).mono ?_); rintro e w' ⟨rfl, ⟨nd, rfl⟩⟩; (try first | exact ⟨rfl, _, World.drewN_drewN _ _ _⟩ | exact ⟨rfl, _, Eq.trans (World.drewN_drewN _ _ _) (congrArg (World.drewN _) (Nat.add_assoc _ _ _))⟩))))
      go_meet
      case rel => exact ⟨_, (true), (by first | rfl | (simp; done) | (simp [*]; done)), H', ⟨by first | omega | exact Nat.le_refl _⟩, ⟨by repeat (first | (with_reducible first | exact HB.out | apply below_alloc | apply pw_below_drewN | apply below_drew1) | exact HB.out)⟩⟩
  case rest =>
    clear HC4
    try clear c2
    try clear p2
    try clear c6
    try clear p6
    try clear c8
    obtain ⟨kq, x24_3, rfl, HA, HJ3, HB⟩ := hcut
    cases kq with
    | zero => exact absurd HA.out (by simp [impl_LogicDepends.j0])
    | succ kj3 =>
      have H := HA.out
      clear HA
      simp only [impl_LogicDepends.j0] at H
      by_cases c12 : x24_3 = true
      · subst c12
        have H1 : (some false) = some r := by rw [if_pos rfl] at H; exact H
        clear H
        have H := H1
        clear H1
        obtain rfl := Option.some.inj H
        go_wp2
        repeat (go_quiet (fail); try go_wp2)
        go_ret
        exact ⟨by first | rfl | (simp [errW_none, errW_some] <;> rfl) | (simp [*, errW_none, errW_some] <;> rfl), by repeat (first | (with_reducible first | exact HB.out | apply below_alloc | apply pw_below_drewN | apply below_drew1) | exact HB.out)⟩
      · replace c12 := Bool.eq_false_iff.mpr c12
        subst c12
        have H1 : ((impl_table.f l0 a1).bind fun t154 => (impl_LogicDepends.l0 kj3 a2 t154 (t154.length : Int) 0)) = some r := by rw [if_neg (show ¬ (false = true) by decide)] at H; exact H
        clear H
        have H := H1
        clear H1
        replace H := Option.bind_eq_some_iff.mp H
        obtain ⟨t154, A130, H⟩ := H
        replace H : (impl_LogicDepends.l0 kj3 a2 t154 (t154.length : Int) 0) = some r := H
        have A13 := Aside0.mk A130
        clear A130
        have H' := Aside0.mk H
        clear H
        go_wp2_with (first | (go_at_call 50; (with_reducible refine (impl_table.calls _ _ l0 a1 t154 _ ?side1 ?side2 A13.out).mono ?_); (case side1 => repeat (first | exact (Kd.C_below HR0.out HB.out) | (with_reducible refine Kd.C_alloc ?_ _) | (with_reducible refine Kd.C_drewN ?_ _) | (with_reducible refine Kd.C_drew ?_))); (case side2 => exact HC0.out); rintro e w14 ⟨v155, rfl, ho0, hb⟩; have n0_ := Aside0.mk (Kd.R_lower ho0 (below_size (by repeat (first | (with_reducible first | exact HB.out | apply below_alloc | apply pw_below_drewN | apply below_drew1) | exact HB.out)))); have n1_ := Aside0.mk (below_step (by repeat (first | (with_reducible first | exact HB.out | apply below_alloc | apply pw_below_drewN | apply below_drew1) | exact HB.out)) hb); clear HB; have HO156 := n0_; have HB := n1_; clear n0_ n1_; (try clear hb); (try clear hb2); (try clear hk); (try clear hi); (try clear ho0); obtain ⟨Ao15, co15, eo15⟩ := Kd.R_slice HO156.out; subst eo15))
        repeat (go_quiet (first | (go_at_call 50; (with_reducible refine (impl_table.calls _ _ l0 a1 t154 _ ?side1 ?side2 A13.out).mono ?_); (case side1 => repeat (first | exact (Kd.C_below HR0.out HB.out) | (with_reducible refine Kd.C_alloc ?_ _) | (with_reducible refine Kd.C_drewN ?_ _) | (with_reducible refine Kd.C_drew ?_))); (case side2 => exact HC0.out); rintro e w14 ⟨v155, rfl, ho0, hb⟩; have n0_ := Aside0.mk (Kd.R_lower ho0 (below_size (by repeat (first | (with_reducible first | exact HB.out | apply below_alloc | apply pw_below_drewN | apply below_drew1) | exact HB.out)))); have n1_ := Aside0.mk (below_step (by repeat (first | (with_reducible first | exact HB.out | apply below_alloc | apply pw_below_drewN | apply below_drew1) | exact HB.out)) hb); clear HB; have HO156 := n0_; have HB := n1_; clear n0_ n1_; (try clear hb); (try clear hb2); (try clear hk); (try clear hi); (try clear ho0); obtain ⟨Ao15, co15, eo15⟩ := Kd.R_slice HO156.out; subst eo15)); try go_wp2_with (first | (go_at_call 50; (with_reducible refine (impl_table.calls _ _ l0 a1 t154 _ ?side1 ?side2 A13.out).mono ?_); (case side1 => repeat (first | exact (Kd.C_below HR0.out HB.out) | (with_reducible refine Kd.C_alloc ?_ _) | (with_reducible refine Kd.C_drewN ?_ _) | (with_reducible refine Kd.C_drew ?_))); (case side2 => exact HC0.out); rintro e w14 ⟨v155, rfl, ho0, hb⟩; have n0_ := Aside0.mk (Kd.R_lower ho0 (below_size (by repeat (first | (with_reducible first | exact HB.out | apply below_alloc | apply pw_below_drewN | apply below_drew1) | exact HB.out)))); have n1_ := Aside0.mk (below_step (by repeat (first | (with_reducible first | exact HB.out | apply below_alloc | apply pw_below_drewN | apply below_drew1) | exact HB.out)) hb); clear HB; have HO156 := n0_; have HB := n1_; clear n0_ n1_; (try clear hb); (try clear hb2); (try clear hk); (try clear hi); (try clear ho0); obtain ⟨Ao15, co15, eo15⟩ := Kd.R_slice HO156.out; subst eo15)))
        go_loopg [30] kj3 (fun kq v30 w' => ∃ (x30_2 : Int), v30 = .int .i64 x30_2 ∧ Aside0 (impl_LogicDepends.l0 kq a2 t154 (t154.length : Int) x30_2 = some r) ∧ Aside0 (kq ≤ kj3) ∧ Aside0 (Kd.R Kd.bool 4 w' w.heap.size (fun _ => True) (.slice Ao15 t154.length co15) t154) ∧ Aside0 (Below w.heap.size w w'))
        case atStart => exact ⟨(0), (by first | rfl | (simp; done) | (simp [*]; done)), H', ⟨Nat.le_refl _⟩, ⟨by (with_reducible repeat (first | apply Kd.R_alloc | apply Kd.R_drewN | apply Kd.R_drew)); exact HO156.out⟩, ⟨by repeat (first | (with_reducible first | exact HB.out | apply below_alloc | apply pw_below_drewN | apply below_drew1) | exact HB.out)⟩⟩
        case round =>
          clear H'
          try clear c1
          try clear c2
          try clear p2
          try clear c6
          try clear p6
          try clear c8
          try clear c12
          try clear p2
          try clear p6
          obtain ⟨x30_2, rfl, HA, HK2, HO_7, HB⟩ := hrel
          cases gk with
          | zero => exact absurd HA.out (by simp [impl_LogicDepends.l0])
          | succ k2 =>
            have H := HA.out
            clear HA
            simp only [impl_LogicDepends.l0] at H
            by_cases c16 : x30_2 < (t154.length : Int)
            · rw [if_pos c16] at H
              have c16b0 : decide (x30_2 < (t154.length : Int)) = true := decide_eq_true c16
              clear c16
              by_cases c17 : 0 ≤ x30_2
              · rw [if_pos c17] at H
                have c17b0 : decide (0 ≤ x30_2) = true := decide_eq_true c17
                clear c17
                by_cases c18 : x30_2 < (t154.length : Int)
                · rw [if_pos c18] at H
                  have c18b0 : decide (x30_2 < (t154.length : Int)) = true := decide_eq_true c18
                  clear c18
                  by_cases c19 : 0 ≤ a2
                  · rw [if_pos c19] at H
                    have c19b0 := eq_true c19
                    have c19b1 : decide (0 ≤ a2) = true := decide_eq_true c19
                    clear c19
                    obtain ⟨ji20, hji20⟩ : ∃ j_ : Int, (shl .i64 1 a2) = j_ := ⟨_, rfl⟩
                    replace H : (if 0 ≤ (Go.bits .xor .i64 x30_2 (ji20)) then (if (Go.bits .xor .i64 x30_2 (ji20)) < (t154.length : Int) then (if ((rdOf false t154 x30_2) != (rdOf false t154 (Go.bits .xor .i64 x30_2 (ji20)))) = true then (some true) else (impl_LogicDepends.l0 k2 a2 t154 (t154.length : Int) (wrap64 (x30_2 + 1)))) else (none)) else (none)) = some r := by first | (rw [hji20] at H; exact H) | (simp only [hji20] at H ⊢; exact H)
                    have hji20_ : (IntKind.i64.wrap (1 * 2 ^ min a2.toNat 64)) = ji20 := hji20
                    have hji20z : a2 ≤ 64 → (IntKind.i64.wrap (1 * 2 ^ a2.toNat)) = ji20 := shl_small hji20
                    have hji20u : (IntKind.i64.wrap (2 ^ min a2.toNat 64)) = ji20 := by have h_ := hji20_; rw [Int.one_mul] at h_; exact h_
                    have hji20v : a2 ≤ 64 → (IntKind.i64.wrap (2 ^ a2.toNat)) = ji20 := fun hle_ => by have h_ := hji20z hle_; rw [Int.one_mul] at h_; exact h_
                    have hji20y : (wrap64 (1 * 2 ^ min a2.toNat 64)) = ji20 := (i64_w _).symm.trans hji20_
                    have hji20x : a2 ≤ 64 → (wrap64 (1 * 2 ^ a2.toNat)) = ji20 := fun h_ => (i64_w _).symm.trans (hji20z h_)
                    by_cases c21 : 0 ≤ (Go.bits .xor .i64 x30_2 (ji20))
                    · rw [if_pos c21] at H
                      have c21b0 : decide (0 ≤ (Go.bits .xor .i64 x30_2 (ji20))) = true := decide_eq_true c21
                      clear c21
                      by_cases c22 : (Go.bits .xor .i64 x30_2 (ji20)) < (t154.length : Int)
                      · rw [if_pos c22] at H
                        have c22b0 : decide ((Go.bits .xor .i64 x30_2 (ji20)) < (t154.length : Int)) = true := decide_eq_true c22
                        clear c22
                        by_cases c23 : ((rdOf false t154 x30_2) != (rdOf false t154 (Go.bits .xor .i64 x30_2 (ji20)))) = true
                        · rw [if_pos c23] at H
                          have c23b0 : ((rdOf false t154 x30_2) != (rdOf false t154 (Go.bits .xor .i64 x30_2 (ji20)))) = true := c23
                          (try (have c23b1 : decide ((rdOf false t154 x30_2) = (rdOf false t154 (Go.bits .xor .i64 x30_2 (ji20)))) = false := by simpa using c23))
                          (try (have c23b2 : ((rdOf false t154 x30_2) == (rdOf false t154 (Go.bits .xor .i64 x30_2 (ji20)))) = false := by simpa using c23))
                          (try (have c23b3 : ¬ ((rdOf false t154 x30_2) = (rdOf false t154 (Go.bits .xor .i64 x30_2 (ji20)))) := by simpa using c23))
                          clear c23
                          obtain rfl := Option.some.inj H
                          have p157 : 0 ≤ (x30_2 : Int) := of_decide_eq_true (by first | (with_reducible assumption) | assumption)
                          have q157 : x30_2 < (t154.length : Int) := of_decide_eq_true (by first | (with_reducible assumption) | assumption)
                          obtain ⟨ad157, e157, hx157_0⟩ := Kd.at_bool (Kd.R_reads' HO_7.out).2.2 x30_2 p157 q157
                          cases e157
                          replace p157 := eq_true p157
                          replace q157 := eq_true q157
                          have p158 : 0 ≤ ((Go.bits .xor .i64 x30_2 (ji20)) : Int) := of_decide_eq_true (by first | (with_reducible assumption) | assumption)
                          have q158 : (Go.bits .xor .i64 x30_2 (ji20)) < (t154.length : Int) := of_decide_eq_true (by first | (with_reducible assumption) | assumption)
                          obtain ⟨ad158, e158, hx158_0⟩ := Kd.at_bool (Kd.R_reads' HO_7.out).2.2 (Go.bits .xor .i64 x30_2 (ji20)) p158 q158
                          obtain rfl : ad157 = ad158 := (by injection e158)
                          replace p158 := eq_true p158
                          replace q158 := eq_true q158
                          go_wp2
                          repeat (go_quiet (fail); try go_wp2)
                          go_ret
                          exact ⟨by first | rfl | (simp [errW_none, errW_some] <;> rfl) | (simp only [← hji20]; first | rfl | (simp [errW_none, errW_some] <;> rfl)) | (simp [*, errW_none, errW_some] <;> rfl), by repeat (first | (with_reducible first | exact HB.out | apply below_alloc | apply pw_below_drewN | apply below_drew1) | exact HB.out)⟩
                        · rw [if_neg c23] at H
                          have c23b0 : ((rdOf false t154 x30_2) != (rdOf false t154 (Go.bits .xor .i64 x30_2 (ji20)))) = false := by simpa using c23
                          (try (have c23b1 : decide ((rdOf false t154 x30_2) = (rdOf false t154 (Go.bits .xor .i64 x30_2 (ji20)))) = true := by simpa using c23))
                          (try (have c23b2 : ((rdOf false t154 x30_2) == (rdOf false t154 (Go.bits .xor .i64 x30_2 (ji20)))) = true := by simpa using c23))
                          clear c23
                          have H' := Aside0.mk H
                          clear H
                          have p157 : 0 ≤ (x30_2 : Int) := of_decide_eq_true (by first | (with_reducible assumption) | assumption)
                          have q157 : x30_2 < (t154.length : Int) := of_decide_eq_true (by first | (with_reducible assumption) | assumption)
                          obtain ⟨ad157, e157, hx157_0⟩ := Kd.at_bool (Kd.R_reads' HO_7.out).2.2 x30_2 p157 q157
                          cases e157
                          replace p157 := eq_true p157
                          replace q157 := eq_true q157
                          have p158 : 0 ≤ ((Go.bits .xor .i64 x30_2 (ji20)) : Int) := of_decide_eq_true (by first | (with_reducible assumption) | assumption)
                          have q158 : (Go.bits .xor .i64 x30_2 (ji20)) < (t154.length : Int) := of_decide_eq_true (by first | (with_reducible assumption) | assumption)
                          obtain ⟨ad158, e158, hx158_0⟩ := Kd.at_bool (Kd.R_reads' HO_7.out).2.2 (Go.bits .xor .i64 x30_2 (ji20)) p158 q158
                          obtain rfl : ad157 = ad158 := (by injection e158)
                          replace p158 := eq_true p158
                          replace q158 := eq_true q158
                          go_wp2
                          repeat (go_quiet (fail); try go_wp2)
                          go_roundg k2
                          case measure => have := HJ3.out; have := HK2.out; omega
                          case rel => exact ⟨(wrap64 (x30_2 + 1)), (by first | rfl | (simp; done) | (simp [*]; done)), H', ⟨by have := HJ3.out; have := HK2.out; omega⟩, ⟨by (with_reducible repeat (first | apply Kd.R_alloc | apply Kd.R_drewN | apply Kd.R_drew)); exact HO_7.out⟩, ⟨by repeat (first | (with_reducible first | exact HB.out | apply below_alloc | apply pw_below_drewN | apply below_drew1) | exact HB.out)⟩⟩
                      · rw [if_neg c22] at H
                        exact absurd H (by simp)
                    · rw [if_neg c21] at H
                      exact absurd H (by simp)
                  · rw [if_neg c19] at H
                    exact absurd H (by simp)
                · rw [if_neg c18] at H
                  exact absurd H (by simp)
              · rw [if_neg c17] at H
                exact absurd H (by simp)
            · rw [if_neg c16] at H
              have c16b0 : decide (x30_2 < (t154.length : Int)) = false := decide_eq_false c16
              clear c16
              obtain rfl := Option.some.inj H
              go_wp2
              repeat (go_quiet (fail); try go_wp2)
              go_ret
              exact ⟨by first | rfl | (simp [errW_none, errW_some] <;> rfl) | (simp [*, errW_none, errW_some] <;> rfl), by repeat (first | (with_reducible first | exact HB.out | apply below_alloc | apply pw_below_drewN | apply below_drew1) | exact HB.out)⟩

end Go.Proofs.Ytmphligplngeaaa.GFnExactLogicDepends

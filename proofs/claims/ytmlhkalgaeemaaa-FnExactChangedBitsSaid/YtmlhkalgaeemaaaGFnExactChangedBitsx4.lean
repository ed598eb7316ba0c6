/- Functions of the program as Lean functions, with proofs that the machine comes to their answers; written by this session's program mkprint.py; no condition beyond each theorem's own. -/
import Derived.Test.YtmlhkalgaeemaaaGFnExactChangedBitsx0
import Derived.Test.YtmlhkalgaeemaaaGFnExactChangedBitsx1
import Derived.Test.YtmlhkalgaeemaaaGFnExactChangedBitsx2
import Derived.Test.YtmlhkalgaeemaaaGFnExactChangedBitsx3
namespace Go.Proofs.Ytmlhkalgaeemaaa.GFnExactChangedBits
open Go.RowKit Go.Proofs.YtmlhkalgaeemaaaV.PrintWords Go.Proofs.YtmlhkalgaeemaaaV.PrintLast Go.Proofs.YtmlhkalgaeemaaaV.PrintMore
attribute [local go_sem] max2_int min2_int max_two min_two max_three min_three max_four min_four   -- for this text's walks alone
set_option linter.unusedVariables false
set_option linter.unusedSimpArgs false

/-! ### laws_FnExactChangedBits: function 14 -/
def laws_FnExactChangedBits.j0 : Nat → List Int → List Int → Bool → List Bool → List Int → List Bool → List Int → Option (Bool)
  | 0, _, _, _, _, _, _, _ => none
  | k + 1, x6, x9, x63, x171000, x171001, x172000, x172001 => if x63 = true then (none) else ((laws_markIntS.f k x9 1).bind fun bt228 => ((laws_heldIntS.f k bt228.2 1).bind fun t230 => (if t230 < 0 then (none) else (if t230 = bt228.1 then ((laws_toImage.f k x171000 x171001).bind fun bt231 => ((laws_toImage.f k x172000 x172001).bind fun bt237 => ((impl_ChangedBits.f k bt231.1 bt231.2 bt237.1 bt237.2).bind fun t243 => ((laws_eqIntS.f k t243 x6).bind fun t246 => (if t246 = true then ((laws_heldIntS.f k bt228.2 1).bind fun t247 => (if t247 < 0 then (none) else (if t247 = bt228.1 then (some true) else (none)))) else (none)))))) else (none)))))
def laws_FnExactChangedBits.f (k : Nat) (l0_0 : List Bool) (l0_1 : List Int) (l1_0 : List Bool) (l1_1 : List Int) : Option (Bool) := (laws_szImage.f l0_0 l0_1 1048576).bind fun t172 => (if t172 < 0 then (some true) else ((laws_szImage.f l1_0 l1_1 t172).bind fun t173 => (if t173 < 0 then (some true) else ((laws_toImage.f k l0_0 l0_1).bind fun bt174 => ((laws_toImage.f k l1_0 l1_1).bind fun bt180 => ((spec_ChangedBits.f k bt174.1 bt174.2 bt180.1 bt180.2).bind fun t186 => ((laws_toImage.f k l0_0 l0_1).bind fun bt189 => ((laws_toImage.f k l1_0 l1_1).bind fun bt196 => ((impl_ChangedBits.f k bt189.1 bt189.2 bt196.1 bt196.2).bind fun t203 => ((laws_eqIntS.f k t203 t186).bind fun t206 => (if t206 = true then ((laws_toImage.f k l0_0 l0_1).bind fun bt207 => ((laws_eqImage.f k bt189.1 bt189.2 bt207.1 bt207.2).bind fun t213 => (if t213 = true then ((laws_toImage.f k l1_0 l1_1).bind fun bt214 => ((laws_eqImage.f k bt196.1 bt196.2 bt214.1 bt214.2).bind fun t220 => (if t220 = true then ((laws_markImage.f k bt189.1 bt189.2 1).bind fun bt221 => ((laws_markImage.f k bt196.1 bt196.2 bt221.1).bind fun bt224 => (if bt224.1 < 0 then (laws_FnExactChangedBits.j0 k t186 t203 true l0_0 l0_1 l1_0 l1_1) else ((laws_eqIntS.f k t203 t186).bind fun t227 => (laws_FnExactChangedBits.j0 k t186 t203 (!t227) l0_0 l0_1 l1_0 l1_1))))) else (none)))) else (none)))) else (none))))))))))))
theorem laws_FnExactChangedBits.mono_l : ∀ k, (∀ y0 y1 y2 y3 y4 y5 y6, LeO (laws_FnExactChangedBits.j0 k y0 y1 y2 y3 y4 y5 y6) (laws_FnExactChangedBits.j0 (k + 1) y0 y1 y2 y3 y4 y5 y6))
  | 0 => fun _ _ _ _ _ _ _ r h => by simp [laws_FnExactChangedBits.j0] at h
  | k + 1 => by
    have ih0 := laws_FnExactChangedBits.mono_l k
    · intro y0 y1 y2 y3 y4 y5 y6
      unfold laws_FnExactChangedBits.j0
      repeat' first
      | (with_reducible exact ih0 _ _ _ _ _ _ _)
      | (with_reducible exact impl_ChangedBits.mono _ _ _ _ _)
      | (with_reducible exact laws_eqImage.mono _ _ _ _ _)
      | (with_reducible exact laws_eqIntS.mono _ _ _)
      | (with_reducible exact laws_heldIntS.mono _ _ _)
      | (with_reducible exact laws_markImage.mono _ _ _ _)
      | (with_reducible exact laws_markIntS.mono _ _ _)
      | (with_reducible exact laws_toImage.mono _ _ _)
      | (with_reducible exact spec_ChangedBits.mono _ _ _ _ _)
      | (with_reducible exact LeO.refl _)
      | (with_reducible exact LeO.none _)
      | (with_reducible refine LeO.ite ?_ ?_)
      | (with_reducible refine LeO.bind ?_ (fun _ => ?_))
      | exact ih0 _ _ _ _ _ _ _
      | exact impl_ChangedBits.mono _ _ _ _ _
      | exact laws_eqImage.mono _ _ _ _ _
      | exact laws_eqIntS.mono _ _ _
      | exact laws_heldIntS.mono _ _ _
      | exact laws_markImage.mono _ _ _ _
      | exact laws_markIntS.mono _ _ _
      | exact laws_toImage.mono _ _ _
      | exact spec_ChangedBits.mono _ _ _ _ _
      | exact LeO.none _
      | refine LeO.ite ?_ ?_
      | refine LeO.bind ?_ (fun _ => ?_)
theorem laws_FnExactChangedBits.mono : ∀ a0 a1 a2 a3 k, LeO (laws_FnExactChangedBits.f k a0 a1 a2 a3) (laws_FnExactChangedBits.f (k + 1) a0 a1 a2 a3) := by
  intro a0 a1 a2 a3 k
  have ih0 := laws_FnExactChangedBits.mono_l k
  unfold laws_FnExactChangedBits.f
  repeat' first
      | (with_reducible exact ih0 _ _ _ _ _ _ _)
      | (with_reducible exact impl_ChangedBits.mono _ _ _ _ _)
      | (with_reducible exact laws_eqImage.mono _ _ _ _ _)
      | (with_reducible exact laws_eqIntS.mono _ _ _)
      | (with_reducible exact laws_heldIntS.mono _ _ _)
      | (with_reducible exact laws_markImage.mono _ _ _ _)
      | (with_reducible exact laws_markIntS.mono _ _ _)
      | (with_reducible exact laws_toImage.mono _ _ _)
      | (with_reducible exact spec_ChangedBits.mono _ _ _ _ _)
      | (with_reducible exact LeO.refl _)
      | (with_reducible exact LeO.none _)
      | (with_reducible refine LeO.ite ?_ ?_)
      | (with_reducible refine LeO.bind ?_ (fun _ => ?_))
      | exact ih0 _ _ _ _ _ _ _
      | exact impl_ChangedBits.mono _ _ _ _ _
      | exact laws_eqImage.mono _ _ _ _ _
      | exact laws_eqIntS.mono _ _ _
      | exact laws_heldIntS.mono _ _ _
      | exact laws_markImage.mono _ _ _ _
      | exact laws_markIntS.mono _ _ _
      | exact laws_toImage.mono _ _ _
      | exact spec_ChangedBits.mono _ _ _ _ _
      | exact LeO.none _
      | refine LeO.ite ?_ ?_
      | refine LeO.bind ?_ (fun _ => ?_)
set_option maxHeartbeats 8000000 in
set_option maxRecDepth 100000 in
theorem laws_FnExactChangedBits.calls (k : Nat) (A0_0 : Option Addr) (c0_0 : Nat) (l0_0 : List Bool) (A0_1 : Option Addr) (c0_1 : Nat) (l0_1 : List Int) (A1_0 : Option Addr) (c1_0 : Nat) (l1_0 : List Bool) (A1_1 : Option Addr) (c1_1 : Nat) (l1_1 : List Int) (r : Bool) (w : World) (hr0_0 : Kd.C Kd.bool w A0_0 l0_0.length l0_0) (hc0_0 : l0_0.length ≤ c0_0) (hr0_1 : Kd.C (Kd.int .i64) w A0_1 l0_1.length l0_1) (hc0_1 : l0_1.length ≤ c0_1) (hr1_0 : Kd.C Kd.bool w A1_0 l1_0.length l1_0) (hc1_0 : l1_0.length ≤ c1_0) (hr1_1 : Kd.C (Kd.int .i64) w A1_1 l1_1.length l1_1) (hc1_1 : l1_1.length ≤ c1_1) (h : laws_FnExactChangedBits.f k l0_0 l0_1 l1_0 l1_1 = some r) :
    Calls Try.prog 14 #[.agg #[.slice A0_0 l0_0.length c0_0, .slice A0_1 l0_1.length c0_1], .agg #[.slice A1_0 l1_0.length c1_0, .slice A1_1 l1_1.length c1_1]] w fun e w' => e = .returned (.bool r) ∧ Below w.heap.size w w' := by
  have hu62 := Try.underlying62
  have hu65 := Try.underlying65
  have HR0_0 := Aside0.mk hr0_0
  have HC0_0 := Aside0.mk hc0_0
  clear hr0_0 hc0_0
  have HR0_1 := Aside0.mk hr0_1
  have HC0_1 := Aside0.mk hc0_1
  clear hr0_1 hc0_1
  have HR1_0 := Aside0.mk hr1_0
  have HC1_0 := Aside0.mk hc1_0
  clear hr1_0 hc1_0
  have HR1_1 := Aside0.mk hr1_1
  have HC1_1 := Aside0.mk hc1_1
  clear hr1_1 hc1_1
  have HB := Aside0.mk (Below.refl w.heap.size w)
  have H : ((laws_szImage.f l0_0 l0_1 1048576).bind fun t172 => (if t172 < 0 then (some true) else ((laws_szImage.f l1_0 l1_1 t172).bind fun t173 => (if t173 < 0 then (some true) else ((laws_toImage.f k l0_0 l0_1).bind fun bt174 => ((laws_toImage.f k l1_0 l1_1).bind fun bt180 => ((spec_ChangedBits.f k bt174.1 bt174.2 bt180.1 bt180.2).bind fun t186 => ((laws_toImage.f k l0_0 l0_1).bind fun bt189 => ((laws_toImage.f k l1_0 l1_1).bind fun bt196 => ((impl_ChangedBits.f k bt189.1 bt189.2 bt196.1 bt196.2).bind fun t203 => ((laws_eqIntS.f k t203 t186).bind fun t206 => (if t206 = true then ((laws_toImage.f k l0_0 l0_1).bind fun bt207 => ((laws_eqImage.f k bt189.1 bt189.2 bt207.1 bt207.2).bind fun t213 => (if t213 = true then ((laws_toImage.f k l1_0 l1_1).bind fun bt214 => ((laws_eqImage.f k bt196.1 bt196.2 bt214.1 bt214.2).bind fun t220 => (if t220 = true then ((laws_markImage.f k bt189.1 bt189.2 1).bind fun bt221 => ((laws_markImage.f k bt196.1 bt196.2 bt221.1).bind fun bt224 => (if bt224.1 < 0 then (laws_FnExactChangedBits.j0 k t186 t203 true l0_0 l0_1 l1_0 l1_1) else ((laws_eqIntS.f k t203 t186).bind fun t227 => (laws_FnExactChangedBits.j0 k t186 t203 (!t227) l0_0 l0_1 l1_0 l1_1))))) else (none)))) else (none)))) else (none))))))))))))) = some r := h
  clear h
  replace H := Option.bind_eq_some_iff.mp H
  obtain ⟨t172, A30, H⟩ := H
  replace H : (if t172 < 0 then (some true) else ((laws_szImage.f l1_0 l1_1 t172).bind fun t173 => (if t173 < 0 then (some true) else ((laws_toImage.f k l0_0 l0_1).bind fun bt174 => ((laws_toImage.f k l1_0 l1_1).bind fun bt180 => ((spec_ChangedBits.f k bt174.1 bt174.2 bt180.1 bt180.2).bind fun t186 => ((laws_toImage.f k l0_0 l0_1).bind fun bt189 => ((laws_toImage.f k l1_0 l1_1).bind fun bt196 => ((impl_ChangedBits.f k bt189.1 bt189.2 bt196.1 bt196.2).bind fun t203 => ((laws_eqIntS.f k t203 t186).bind fun t206 => (if t206 = true then ((laws_toImage.f k l0_0 l0_1).bind fun bt207 => ((laws_eqImage.f k bt189.1 bt189.2 bt207.1 bt207.2).bind fun t213 => (if t213 = true then ((laws_toImage.f k l1_0 l1_1).bind fun bt214 => ((laws_eqImage.f k bt196.1 bt196.2 bt214.1 bt214.2).bind fun t220 => (if t220 = true then ((laws_markImage.f k bt189.1 bt189.2 1).bind fun bt221 => ((laws_markImage.f k bt196.1 bt196.2 bt221.1).bind fun bt224 => (if bt224.1 < 0 then (laws_FnExactChangedBits.j0 k t186 t203 true l0_0 l0_1 l1_0 l1_1) else ((laws_eqIntS.f k t203 t186).bind fun t227 => (laws_FnExactChangedBits.j0 k t186 t203 (!t227) l0_0 l0_1 l1_0 l1_1))))) else (none)))) else (none)))) else (none)))))))))))) = some r := H
  have A3 := Aside0.mk A30
  clear A30
  by_cases c4 : t172 < 0
  · rw [if_pos c4] at H
    have c4b0 : decide (t172 < 0) = true := decide_eq_true c4
    clear c4
    obtain rfl := Option.some.inj H
    go_enter Try.func14, Try.ntmps14
    go_wp2_with (first | ((with_reducible refine gate_dst (N := 2) rfl ?_); refine box_event ?hg (N := 2) ?hd (cs := #[.slice A0_0 l0_0.length c0_0, .slice A0_1 l0_1.length c0_1]) (t := 62) ?hr ?_; (case hd => rfl); (case hg => rfl); (case hr => first | (go_simp; done) | (go_simp; rfl)); intro gb170 hg w5 hbox hb; have n0_ := Aside0.mk (below_step (by repeat (first | (with_reducible first | exact HB.out | apply below_alloc | apply pw_below_drewN | apply below_drew1) | exact HB.out)) hb); have n1_ := Aside0.mk (hbox); have n2_ := Aside0.mk ((by rw [hg]; exact (below_size (by repeat (first | (with_reducible first | exact HB.out | apply below_alloc | apply pw_below_drewN | apply below_drew1) | exact HB.out))) : w.heap.size ≤ gb170)); have n3_ := Aside0.mk ((by rw [hg]; exact (below_size (by repeat (first | (with_reducible first | exact HB.out | apply below_alloc | apply pw_below_drewN | apply below_drew1) | exact HB.out))) : w.heap.size ≤ gb170)); clear HB; have HB := n0_; have BK170 := n1_; have GW170 := n2_; have GE170 := n3_; clear n0_ n1_ n2_ n3_; clear hb hbox hg) | ((with_reducible refine gate_dst (N := 3) rfl ?_); refine box_event ?hg (N := 3) ?hd (cs := #[.slice A1_0 l1_0.length c1_0, .slice A1_1 l1_1.length c1_1]) (t := 62) ?hr ?_; (case hd => rfl); (case hg => rfl); (case hr => first | (go_simp; done) | (go_simp; rfl)); intro gb171 hg w6 hbox hb; have n0_ := Aside0.mk (blk_below (g := gb170) (o := .cells #[.slice A0_0 l0_0.length c0_0, .slice A0_1 l0_1.length c0_1] 62 (0, 0)) (by (with_reducible repeat (first | refine blk_drewN ?_ _ | refine blk_drew ?_ | refine blk_alloc ?_ _)); exact BK170.out) hb); have n1_ := Aside0.mk (below_step (by repeat (first | (with_reducible first | exact HB.out | apply below_alloc | apply pw_below_drewN | apply below_drew1 | refine below_set ?_ GE170.out) | exact HB.out)) hb); have n2_ := Aside0.mk (hbox); have n3_ := Aside0.mk ((by rw [hg]; exact (below_size (by repeat (first | (with_reducible first | exact HB.out | apply below_alloc | apply pw_below_drewN | apply below_drew1 | refine below_set ?_ GE170.out) | exact HB.out))) : w.heap.size ≤ gb171)); have n4_ := Aside0.mk ((by rw [hg]; exact (below_size (by repeat (first | (with_reducible first | exact HB.out | apply below_alloc | apply pw_below_drewN | apply below_drew1 | refine below_set ?_ GE170.out) | exact HB.out))) : w.heap.size ≤ gb171)); have n5_ := Aside0.mk ((by rw [hg]; exact Nat.ne_of_lt (blk_lt (g := gb170) (o := .cells #[.slice A0_0 l0_0.length c0_0, .slice A0_1 l0_1.length c0_1] 62 (0, 0)) (by (with_reducible repeat (first | refine blk_drewN ?_ _ | refine blk_drew ?_ | refine blk_alloc ?_ _)); exact BK170.out)) : gb170 ≠ gb171)); have n6_ := Aside0.mk ((by rw [hg]; exact Nat.ne_of_gt (blk_lt (g := gb170) (o := .cells #[.slice A0_0 l0_0.length c0_0, .slice A0_1 l0_1.length c0_1] 62 (0, 0)) (by (with_reducible repeat (first | refine blk_drewN ?_ _ | refine blk_drew ?_ | refine blk_alloc ?_ _)); exact BK170.out)) : gb171 ≠ gb170)); clear BK170; clear HB; have BK170 := n0_; have HB := n1_; have BK171 := n2_; have GW171 := n3_; have GE171 := n4_; have NB170_171 := n5_; have NB171_170 := n6_; clear n0_ n1_ n2_ n3_ n4_ n5_ n6_; clear hb hbox hg; have hnb7 := NB170_171.out; have hnc7 := NB171_170.out; have hcz8_0 : w6.cell? ⟨gb170, 0, none⟩ = some (.slice A0_0 l0_0.length c0_0) := (blk_cell BK170.out 0).trans rfl; have hcz8_1 : w6.cell? ⟨gb170, 1, none⟩ = some (.slice A0_1 l0_1.length c0_1) := (blk_cell BK170.out 1).trans rfl; have hfz8_0 := blk_frozen BK170.out 0; have hfz8_1 := blk_frozen BK170.out 1) | ((with_reducible refine gate_callee (f := 51) rfl ?_); refine goesL_ (some 16) rfl rfl Try.func51 (by kernel_rfl) rfl #[.agg #[.slice A0_0 l0_0.length c0_0, .slice A0_1 l0_1.length c0_1], .int .i64 1048576] rfl (by (try simp only [List.map_toArray, List.map_cons, List.map_nil]); first | done | rfl | (simp only [List.length_drop, List.length_take]; rfl)) ?_; (with_reducible refine (laws_szImage.calls _ _ l0_0 _ _ l0_1 1048576 t172 _ ?side1 ?side2 ?side3 ?side4 A3.out).mono ?_); (case side1 => repeat (first | exact (Kd.C_below HR0_0.out HB.out) | (with_reducible refine Kd.C_alloc ?_ _) | (with_reducible refine Kd.C_drewN ?_ _) | (with_reducible refine Kd.C_drew ?_))); (case side2 => exact HC0_0.out); (case side3 => repeat (first | exact (Kd.C_below HR0_1.out HB.out) | (with_reducible refine Kd.C_alloc ?_ _) | (with_reducible refine Kd.C_drewN ?_ _) | (with_reducible refine Kd.C_drew ?_))); (case side4 => exact HC0_1.out); rintro e w9 ⟨rfl, hb⟩; refine ⟨_, rfl, ?_⟩; have n0_ := Aside0.mk (blk_below (g := gb170) (o := .cells #[.slice A0_0 l0_0.length c0_0, .slice A0_1 l0_1.length c0_1] 62 (0, 0)) (by (with_reducible repeat (first | refine blk_drewN ?_ _ | refine blk_drew ?_ | refine blk_alloc ?_ _)); exact BK170.out) hb); have n1_ := Aside0.mk (blk_below (g := gb171) (o := .cells #[.slice A1_0 l1_0.length c1_0, .slice A1_1 l1_1.length c1_1] 62 (0, 0)) (by (with_reducible repeat (first | refine blk_drewN ?_ _ | refine blk_drew ?_ | refine blk_alloc ?_ _)); exact BK171.out) hb); have n2_ := Aside0.mk (below_step (by repeat (first | (with_reducible first | exact HB.out | apply below_alloc | apply pw_below_drewN | apply below_drew1 | refine below_set ?_ GE170.out | refine below_set ?_ GE171.out) | exact HB.out)) hb); clear BK170; clear BK171; clear HB; have BK170 := n0_; have BK171 := n1_; have HB := n2_; clear n0_ n1_ n2_; (try clear hb); (try clear hb2); (try clear hk); (try clear hi)))
    go_ret
    exact ⟨by first | rfl | (simp [errW_none, errW_some] <;> rfl) | (simp [*, errW_none, errW_some] <;> rfl), by repeat (first | (with_reducible first | exact HB.out | apply below_alloc | apply pw_below_drewN | apply below_drew1 | refine below_set ?_ GE170.out | refine below_set ?_ GE171.out) | exact HB.out)⟩
  · rw [if_neg c4] at H
    have c4b0 : decide (t172 < 0) = false := decide_eq_false c4
    clear c4
    replace H := Option.bind_eq_some_iff.mp H
    obtain ⟨t173, A100, H⟩ := H
    replace H : (if t173 < 0 then (some true) else ((laws_toImage.f k l0_0 l0_1).bind fun bt174 => ((laws_toImage.f k l1_0 l1_1).bind fun bt180 => ((spec_ChangedBits.f k bt174.1 bt174.2 bt180.1 bt180.2).bind fun t186 => ((laws_toImage.f k l0_0 l0_1).bind fun bt189 => ((laws_toImage.f k l1_0 l1_1).bind fun bt196 => ((impl_ChangedBits.f k bt189.1 bt189.2 bt196.1 bt196.2).bind fun t203 => ((laws_eqIntS.f k t203 t186).bind fun t206 => (if t206 = true then ((laws_toImage.f k l0_0 l0_1).bind fun bt207 => ((laws_eqImage.f k bt189.1 bt189.2 bt207.1 bt207.2).bind fun t213 => (if t213 = true then ((laws_toImage.f k l1_0 l1_1).bind fun bt214 => ((laws_eqImage.f k bt196.1 bt196.2 bt214.1 bt214.2).bind fun t220 => (if t220 = true then ((laws_markImage.f k bt189.1 bt189.2 1).bind fun bt221 => ((laws_markImage.f k bt196.1 bt196.2 bt221.1).bind fun bt224 => (if bt224.1 < 0 then (laws_FnExactChangedBits.j0 k t186 t203 true l0_0 l0_1 l1_0 l1_1) else ((laws_eqIntS.f k t203 t186).bind fun t227 => (laws_FnExactChangedBits.j0 k t186 t203 (!t227) l0_0 l0_1 l1_0 l1_1))))) else (none)))) else (none)))) else (none)))))))))) = some r := H
    have A10 := Aside0.mk A100
    clear A100
    by_cases c11 : t173 < 0
    · rw [if_pos c11] at H
      have c11b0 : decide (t173 < 0) = true := decide_eq_true c11
      clear c11
      obtain rfl := Option.some.inj H
      go_enter Try.func14, Try.ntmps14
      go_wp2_with (first | ((with_reducible refine gate_dst (N := 2) rfl ?_); refine box_event ?hg (N := 2) ?hd (cs := #[.slice A0_0 l0_0.length c0_0, .slice A0_1 l0_1.length c0_1]) (t := 62) ?hr ?_; (case hd => rfl); (case hg => rfl); (case hr => first | (go_simp; done) | (go_simp; rfl)); intro gb170 hg w12 hbox hb; have n0_ := Aside0.mk (below_step (by repeat (first | (with_reducible first | exact HB.out | apply below_alloc | apply pw_below_drewN | apply below_drew1) | exact HB.out)) hb); have n1_ := Aside0.mk (hbox); have n2_ := Aside0.mk ((by rw [hg]; exact (below_size (by repeat (first | (with_reducible first | exact HB.out | apply below_alloc | apply pw_below_drewN | apply below_drew1) | exact HB.out))) : w.heap.size ≤ gb170)); have n3_ := Aside0.mk ((by rw [hg]; exact (below_size (by repeat (first | (with_reducible first | exact HB.out | apply below_alloc | apply pw_below_drewN | apply below_drew1) | exact HB.out))) : w.heap.size ≤ gb170)); clear HB; have HB := n0_; have BK170 := n1_; have GW170 := n2_; have GE170 := n3_; clear n0_ n1_ n2_ n3_; clear hb hbox hg) | ((with_reducible refine gate_dst (N := 3) rfl ?_); refine box_event ?hg (N := 3) ?hd (cs := #[.slice A1_0 l1_0.length c1_0, .slice A1_1 l1_1.length c1_1]) (t := 62) ?hr ?_; (case hd => rfl); (case hg => rfl); (case hr => first | (go_simp; done) | (go_simp; rfl)); intro gb171 hg w13 hbox hb; have n0_ := Aside0.mk (blk_below (g := gb170) (o := .cells #[.slice A0_0 l0_0.length c0_0, .slice A0_1 l0_1.length c0_1] 62 (0, 0)) (by (with_reducible repeat (first | refine blk_drewN ?_ _ | refine blk_drew ?_ | refine blk_alloc ?_ _)); exact BK170.out) hb); have n1_ := Aside0.mk (below_step (by repeat (first | (with_reducible first | exact HB.out | apply below_alloc | apply pw_below_drewN | apply below_drew1 | refine below_set ?_ GE170.out) | exact HB.out)) hb); have n2_ := Aside0.mk (hbox); have n3_ := Aside0.mk ((by rw [hg]; exact (below_size (by repeat (first | (with_reducible first | exact HB.out | apply below_alloc | apply pw_below_drewN | apply below_drew1 | refine below_set ?_ GE170.out) | exact HB.out))) : w.heap.size ≤ gb171)); have n4_ := Aside0.mk ((by rw [hg]; exact (below_size (by repeat (first | (with_reducible first | exact HB.out | apply below_alloc | apply pw_below_drewN | apply below_drew1 | refine below_set ?_ GE170.out) | exact HB.out))) : w.heap.size ≤ gb171)); have n5_ := Aside0.mk ((by rw [hg]; exact Nat.ne_of_lt (blk_lt (g := gb170) (o := .cells #[.slice A0_0 l0_0.length c0_0, .slice A0_1 l0_1.length c0_1] 62 (0, 0)) (by (with_reducible repeat (first | refine blk_drewN ?_ _ | refine blk_drew ?_ | refine blk_alloc ?_ _)); exact BK170.out)) : gb170 ≠ gb171)); have n6_ := Aside0.mk ((by rw [hg]; exact Nat.ne_of_gt (blk_lt (g := gb170) (o := .cells #[.slice A0_0 l0_0.length c0_0, .slice A0_1 l0_1.length c0_1] 62 (0, 0)) (by (with_reducible repeat (first | refine blk_drewN ?_ _ | refine blk_drew ?_ | refine blk_alloc ?_ _)); exact BK170.out)) : gb171 ≠ gb170)); clear BK170; clear HB; have BK170 := n0_; have HB := n1_; have BK171 := n2_; have GW171 := n3_; have GE171 := n4_; have NB170_171 := n5_; have NB171_170 := n6_; clear n0_ n1_ n2_ n3_ n4_ n5_ n6_; clear hb hbox hg; have hnb14 := NB170_171.out; have hnc14 := NB171_170.out; have hcz15_0 : w13.cell? ⟨gb170, 0, none⟩ = some (.slice A0_0 l0_0.length c0_0) := (blk_cell BK170.out 0).trans rfl; have hcz15_1 : w13.cell? ⟨gb170, 1, none⟩ = some (.slice A0_1 l0_1.length c0_1) := (blk_cell BK170.out 1).trans rfl; have hfz15_0 := blk_frozen BK170.out 0; have hfz15_1 := blk_frozen BK170.out 1) | ((with_reducible refine gate_callee (f := 51) rfl ?_); refine goesL_ (some 16) rfl rfl Try.func51 (by kernel_rfl) rfl #[.agg #[.slice A0_0 l0_0.length c0_0, .slice A0_1 l0_1.length c0_1], .int .i64 1048576] rfl (by (try simp only [List.map_toArray, List.map_cons, List.map_nil]); first | done | rfl | (simp only [List.length_drop, List.length_take]; rfl)) ?_; (with_reducible refine (laws_szImage.calls _ _ l0_0 _ _ l0_1 1048576 t172 _ ?side1 ?side2 ?side3 ?side4 A3.out).mono ?_); (case side1 => repeat (first | exact (Kd.C_below HR0_0.out HB.out) | (with_reducible refine Kd.C_alloc ?_ _) | (with_reducible refine Kd.C_drewN ?_ _) | (with_reducible refine Kd.C_drew ?_))); (case side2 => exact HC0_0.out); (case side3 => repeat (first | exact (Kd.C_below HR0_1.out HB.out) | (with_reducible refine Kd.C_alloc ?_ _) | (with_reducible refine Kd.C_drewN ?_ _) | (with_reducible refine Kd.C_drew ?_))); (case side4 => exact HC0_1.out); rintro e w16 ⟨rfl, hb⟩; refine ⟨_, rfl, ?_⟩; have n0_ := Aside0.mk (blk_below (g := gb170) (o := .cells #[.slice A0_0 l0_0.length c0_0, .slice A0_1 l0_1.length c0_1] 62 (0, 0)) (by (with_reducible repeat (first | refine blk_drewN ?_ _ | refine blk_drew ?_ | refine blk_alloc ?_ _)); exact BK170.out) hb); have n1_ := Aside0.mk (blk_below (g := gb171) (o := .cells #[.slice A1_0 l1_0.length c1_0, .slice A1_1 l1_1.length c1_1] 62 (0, 0)) (by (with_reducible repeat (first | refine blk_drewN ?_ _ | refine blk_drew ?_ | refine blk_alloc ?_ _)); exact BK171.out) hb); have n2_ := Aside0.mk (below_step (by repeat (first | (with_reducible first | exact HB.out | apply below_alloc | apply pw_below_drewN | apply below_drew1 | refine below_set ?_ GE170.out | refine below_set ?_ GE171.out) | exact HB.out)) hb); clear BK170; clear BK171; clear HB; have BK170 := n0_; have BK171 := n1_; have HB := n2_; clear n0_ n1_ n2_; (try clear hb); (try clear hb2); (try clear hk); (try clear hi); have hcz17_0 : w16.cell? ⟨gb171, 0, none⟩ = some (.slice A1_0 l1_0.length c1_0) := (blk_cell BK171.out 0).trans rfl; have hcz17_1 : w16.cell? ⟨gb171, 1, none⟩ = some (.slice A1_1 l1_1.length c1_1) := (blk_cell BK171.out 1).trans rfl; have hfz17_0 := blk_frozen BK171.out 0; have hfz17_1 := blk_frozen BK171.out 1) | ((with_reducible refine gate_callee (f := 51) rfl ?_); refine goesL_ (some 21) rfl rfl Try.func51 (by kernel_rfl) rfl #[.agg #[.slice A1_0 l1_0.length c1_0, .slice A1_1 l1_1.length c1_1], .int .i64 t172] rfl (by (try simp only [List.map_toArray, List.map_cons, List.map_nil]); first | done | rfl | (simp only [List.length_drop, List.length_take]; rfl)) ?_; (with_reducible refine (laws_szImage.calls _ _ l1_0 _ _ l1_1 t172 t173 _ ?side1 ?side2 ?side3 ?side4 A10.out).mono ?_); (case side1 => repeat (first | exact (Kd.C_below HR1_0.out HB.out) | (with_reducible refine Kd.C_alloc ?_ _) | (with_reducible refine Kd.C_drewN ?_ _) | (with_reducible refine Kd.C_drew ?_))); (case side2 => exact HC1_0.out); (case side3 => repeat (first | exact (Kd.C_below HR1_1.out HB.out) | (with_reducible refine Kd.C_alloc ?_ _) | (with_reducible refine Kd.C_drewN ?_ _) | (with_reducible refine Kd.C_drew ?_))); (case side4 => exact HC1_1.out); rintro e w18 ⟨rfl, hb⟩; refine ⟨_, rfl, ?_⟩; have n0_ := Aside0.mk (blk_below (g := gb170) (o := .cells #[.slice A0_0 l0_0.length c0_0, .slice A0_1 l0_1.length c0_1] 62 (0, 0)) (by (with_reducible repeat (first | refine blk_drewN ?_ _ | refine blk_drew ?_ | refine blk_alloc ?_ _)); exact BK170.out) hb); have n1_ := Aside0.mk (blk_below (g := gb171) (o := .cells #[.slice A1_0 l1_0.length c1_0, .slice A1_1 l1_1.length c1_1] 62 (0, 0)) (by (with_reducible repeat (first | refine blk_drewN ?_ _ | refine blk_drew ?_ | refine blk_alloc ?_ _)); exact BK171.out) hb); have n2_ := Aside0.mk (below_step (by repeat (first | (with_reducible first | exact HB.out | apply below_alloc | apply pw_below_drewN | apply below_drew1 | refine below_set ?_ GE170.out | refine below_set ?_ GE171.out) | exact HB.out)) hb); clear BK170; clear BK171; clear HB; have BK170 := n0_; have BK171 := n1_; have HB := n2_; clear n0_ n1_ n2_; (try clear hb); (try clear hb2); (try clear hk); (try clear hi)))
      go_ret
      exact ⟨by first | rfl | (simp [errW_none, errW_some] <;> rfl) | (simp [*, errW_none, errW_some] <;> rfl), by repeat (first | (with_reducible first | exact HB.out | apply below_alloc | apply pw_below_drewN | apply below_drew1 | refine below_set ?_ GE170.out | refine below_set ?_ GE171.out) | exact HB.out)⟩
    · rw [if_neg c11] at H
      have c11b0 : decide (t173 < 0) = false := decide_eq_false c11
      clear c11
      replace H := Option.bind_eq_some_iff.mp H
      obtain ⟨⟨t174, t177⟩, A190, H⟩ := H
      replace H : ((laws_toImage.f k l1_0 l1_1).bind fun bt180 => ((spec_ChangedBits.f k t174 t177 bt180.1 bt180.2).bind fun t186 => ((laws_toImage.f k l0_0 l0_1).bind fun bt189 => ((laws_toImage.f k l1_0 l1_1).bind fun bt196 => ((impl_ChangedBits.f k bt189.1 bt189.2 bt196.1 bt196.2).bind fun t203 => ((laws_eqIntS.f k t203 t186).bind fun t206 => (if t206 = true then ((laws_toImage.f k l0_0 l0_1).bind fun bt207 => ((laws_eqImage.f k bt189.1 bt189.2 bt207.1 bt207.2).bind fun t213 => (if t213 = true then ((laws_toImage.f k l1_0 l1_1).bind fun bt214 => ((laws_eqImage.f k bt196.1 bt196.2 bt214.1 bt214.2).bind fun t220 => (if t220 = true then ((laws_markImage.f k bt189.1 bt189.2 1).bind fun bt221 => ((laws_markImage.f k bt196.1 bt196.2 bt221.1).bind fun bt224 => (if bt224.1 < 0 then (laws_FnExactChangedBits.j0 k t186 t203 true l0_0 l0_1 l1_0 l1_1) else ((laws_eqIntS.f k t203 t186).bind fun t227 => (laws_FnExactChangedBits.j0 k t186 t203 (!t227) l0_0 l0_1 l1_0 l1_1))))) else (none)))) else (none)))) else (none)))))))) = some r := H
      have A19 := Aside0.mk A190
      clear A190
      replace H := Option.bind_eq_some_iff.mp H
      obtain ⟨⟨t180, t183⟩, A200, H⟩ := H
      replace H : ((spec_ChangedBits.f k t174 t177 t180 t183).bind fun t186 => ((laws_toImage.f k l0_0 l0_1).bind fun bt189 => ((laws_toImage.f k l1_0 l1_1).bind fun bt196 => ((impl_ChangedBits.f k bt189.1 bt189.2 bt196.1 bt196.2).bind fun t203 => ((laws_eqIntS.f k t203 t186).bind fun t206 => (if t206 = true then ((laws_toImage.f k l0_0 l0_1).bind fun bt207 => ((laws_eqImage.f k bt189.1 bt189.2 bt207.1 bt207.2).bind fun t213 => (if t213 = true then ((laws_toImage.f k l1_0 l1_1).bind fun bt214 => ((laws_eqImage.f k bt196.1 bt196.2 bt214.1 bt214.2).bind fun t220 => (if t220 = true then ((laws_markImage.f k bt189.1 bt189.2 1).bind fun bt221 => ((laws_markImage.f k bt196.1 bt196.2 bt221.1).bind fun bt224 => (if bt224.1 < 0 then (laws_FnExactChangedBits.j0 k t186 t203 true l0_0 l0_1 l1_0 l1_1) else ((laws_eqIntS.f k t203 t186).bind fun t227 => (laws_FnExactChangedBits.j0 k t186 t203 (!t227) l0_0 l0_1 l1_0 l1_1))))) else (none)))) else (none)))) else (none))))))) = some r := H
      have A20 := Aside0.mk A200
      clear A200
      replace H := Option.bind_eq_some_iff.mp H
      obtain ⟨t186, A210, H⟩ := H
      replace H : ((laws_toImage.f k l0_0 l0_1).bind fun bt189 => ((laws_toImage.f k l1_0 l1_1).bind fun bt196 => ((impl_ChangedBits.f k bt189.1 bt189.2 bt196.1 bt196.2).bind fun t203 => ((laws_eqIntS.f k t203 t186).bind fun t206 => (if t206 = true then ((laws_toImage.f k l0_0 l0_1).bind fun bt207 => ((laws_eqImage.f k bt189.1 bt189.2 bt207.1 bt207.2).bind fun t213 => (if t213 = true then ((laws_toImage.f k l1_0 l1_1).bind fun bt214 => ((laws_eqImage.f k bt196.1 bt196.2 bt214.1 bt214.2).bind fun t220 => (if t220 = true then ((laws_markImage.f k bt189.1 bt189.2 1).bind fun bt221 => ((laws_markImage.f k bt196.1 bt196.2 bt221.1).bind fun bt224 => (if bt224.1 < 0 then (laws_FnExactChangedBits.j0 k t186 t203 true l0_0 l0_1 l1_0 l1_1) else ((laws_eqIntS.f k t203 t186).bind fun t227 => (laws_FnExactChangedBits.j0 k t186 t203 (!t227) l0_0 l0_1 l1_0 l1_1))))) else (none)))) else (none)))) else (none)))))) = some r := H
      have A21 := Aside0.mk A210
      clear A210
      replace H := Option.bind_eq_some_iff.mp H
      obtain ⟨⟨t189, t192⟩, A220, H⟩ := H
      replace H : ((laws_toImage.f k l1_0 l1_1).bind fun bt196 => ((impl_ChangedBits.f k t189 t192 bt196.1 bt196.2).bind fun t203 => ((laws_eqIntS.f k t203 t186).bind fun t206 => (if t206 = true then ((laws_toImage.f k l0_0 l0_1).bind fun bt207 => ((laws_eqImage.f k t189 t192 bt207.1 bt207.2).bind fun t213 => (if t213 = true then ((laws_toImage.f k l1_0 l1_1).bind fun bt214 => ((laws_eqImage.f k bt196.1 bt196.2 bt214.1 bt214.2).bind fun t220 => (if t220 = true then ((laws_markImage.f k t189 t192 1).bind fun bt221 => ((laws_markImage.f k bt196.1 bt196.2 bt221.1).bind fun bt224 => (if bt224.1 < 0 then (laws_FnExactChangedBits.j0 k t186 t203 true l0_0 l0_1 l1_0 l1_1) else ((laws_eqIntS.f k t203 t186).bind fun t227 => (laws_FnExactChangedBits.j0 k t186 t203 (!t227) l0_0 l0_1 l1_0 l1_1))))) else (none)))) else (none)))) else (none))))) = some r := H
      have A22 := Aside0.mk A220
      clear A220
      replace H := Option.bind_eq_some_iff.mp H
      obtain ⟨⟨t196, t199⟩, A230, H⟩ := H
      replace H : ((impl_ChangedBits.f k t189 t192 t196 t199).bind fun t203 => ((laws_eqIntS.f k t203 t186).bind fun t206 => (if t206 = true then ((laws_toImage.f k l0_0 l0_1).bind fun bt207 => ((laws_eqImage.f k t189 t192 bt207.1 bt207.2).bind fun t213 => (if t213 = true then ((laws_toImage.f k l1_0 l1_1).bind fun bt214 => ((laws_eqImage.f k t196 t199 bt214.1 bt214.2).bind fun t220 => (if t220 = true then ((laws_markImage.f k t189 t192 1).bind fun bt221 => ((laws_markImage.f k t196 t199 bt221.1).bind fun bt224 => (if bt224.1 < 0 then (laws_FnExactChangedBits.j0 k t186 t203 true l0_0 l0_1 l1_0 l1_1) else ((laws_eqIntS.f k t203 t186).bind fun t227 => (laws_FnExactChangedBits.j0 k t186 t203 (!t227) l0_0 l0_1 l1_0 l1_1))))) else (none)))) else (none)))) else (none)))) = some r := H
      have A23 := Aside0.mk A230
      clear A230
      replace H := Option.bind_eq_some_iff.mp H
      obtain ⟨t203, A240, H⟩ := H
      replace H : ((laws_eqIntS.f k t203 t186).bind fun t206 => (if t206 = true then ((laws_toImage.f k l0_0 l0_1).bind fun bt207 => ((laws_eqImage.f k t189 t192 bt207.1 bt207.2).bind fun t213 => (if t213 = true then ((laws_toImage.f k l1_0 l1_1).bind fun bt214 => ((laws_eqImage.f k t196 t199 bt214.1 bt214.2).bind fun t220 => (if t220 = true then ((laws_markImage.f k t189 t192 1).bind fun bt221 => ((laws_markImage.f k t196 t199 bt221.1).bind fun bt224 => (if bt224.1 < 0 then (laws_FnExactChangedBits.j0 k t186 t203 true l0_0 l0_1 l1_0 l1_1) else ((laws_eqIntS.f k t203 t186).bind fun t227 => (laws_FnExactChangedBits.j0 k t186 t203 (!t227) l0_0 l0_1 l1_0 l1_1))))) else (none)))) else (none)))) else (none))) = some r := H
      have A24 := Aside0.mk A240
      clear A240
      replace H := Option.bind_eq_some_iff.mp H
      obtain ⟨t206, A250, H⟩ := H
      replace H : (if t206 = true then ((laws_toImage.f k l0_0 l0_1).bind fun bt207 => ((laws_eqImage.f k t189 t192 bt207.1 bt207.2).bind fun t213 => (if t213 = true then ((laws_toImage.f k l1_0 l1_1).bind fun bt214 => ((laws_eqImage.f k t196 t199 bt214.1 bt214.2).bind fun t220 => (if t220 = true then ((laws_markImage.f k t189 t192 1).bind fun bt221 => ((laws_markImage.f k t196 t199 bt221.1).bind fun bt224 => (if bt224.1 < 0 then (laws_FnExactChangedBits.j0 k t186 t203 true l0_0 l0_1 l1_0 l1_1) else ((laws_eqIntS.f k t203 t186).bind fun t227 => (laws_FnExactChangedBits.j0 k t186 t203 (!t227) l0_0 l0_1 l1_0 l1_1))))) else (none)))) else (none)))) else (none)) = some r := H
      have A25 := Aside0.mk A250
      clear A250
      by_cases c26 : t206 = true
      · subst c26
        have H1 : ((laws_toImage.f k l0_0 l0_1).bind fun bt207 => ((laws_eqImage.f k t189 t192 bt207.1 bt207.2).bind fun t213 => (if t213 = true then ((laws_toImage.f k l1_0 l1_1).bind fun bt214 => ((laws_eqImage.f k t196 t199 bt214.1 bt214.2).bind fun t220 => (if t220 = true then ((laws_markImage.f k t189 t192 1).bind fun bt221 => ((laws_markImage.f k t196 t199 bt221.1).bind fun bt224 => (if bt224.1 < 0 then (laws_FnExactChangedBits.j0 k t186 t203 true l0_0 l0_1 l1_0 l1_1) else ((laws_eqIntS.f k t203 t186).bind fun t227 => (laws_FnExactChangedBits.j0 k t186 t203 (!t227) l0_0 l0_1 l1_0 l1_1))))) else (none)))) else (none)))) = some r := by rw [if_pos rfl] at H; exact H
        clear H
        have H := H1
        clear H1
        replace H := Option.bind_eq_some_iff.mp H
        obtain ⟨⟨t207, t210⟩, A270, H⟩ := H
        replace H : ((laws_eqImage.f k t189 t192 t207 t210).bind fun t213 => (if t213 = true then ((laws_toImage.f k l1_0 l1_1).bind fun bt214 => ((laws_eqImage.f k t196 t199 bt214.1 bt214.2).bind fun t220 => (if t220 = true then ((laws_markImage.f k t189 t192 1).bind fun bt221 => ((laws_markImage.f k t196 t199 bt221.1).bind fun bt224 => (if bt224.1 < 0 then (laws_FnExactChangedBits.j0 k t186 t203 true l0_0 l0_1 l1_0 l1_1) else ((laws_eqIntS.f k t203 t186).bind fun t227 => (laws_FnExactChangedBits.j0 k t186 t203 (!t227) l0_0 l0_1 l1_0 l1_1))))) else (none)))) else (none))) = some r := H
        have A27 := Aside0.mk A270
        clear A270
        replace H := Option.bind_eq_some_iff.mp H
        obtain ⟨t213, A280, H⟩ := H
        replace H : (if t213 = true then ((laws_toImage.f k l1_0 l1_1).bind fun bt214 => ((laws_eqImage.f k t196 t199 bt214.1 bt214.2).bind fun t220 => (if t220 = true then ((laws_markImage.f k t189 t192 1).bind fun bt221 => ((laws_markImage.f k t196 t199 bt221.1).bind fun bt224 => (if bt224.1 < 0 then (laws_FnExactChangedBits.j0 k t186 t203 true l0_0 l0_1 l1_0 l1_1) else ((laws_eqIntS.f k t203 t186).bind fun t227 => (laws_FnExactChangedBits.j0 k t186 t203 (!t227) l0_0 l0_1 l1_0 l1_1))))) else (none)))) else (none)) = some r := H
        have A28 := Aside0.mk A280
        clear A280
        by_cases c29 : t213 = true
        · subst c29
          have H1 : ((laws_toImage.f k l1_0 l1_1).bind fun bt214 => ((laws_eqImage.f k t196 t199 bt214.1 bt214.2).bind fun t220 => (if t220 = true then ((laws_markImage.f k t189 t192 1).bind fun bt221 => ((laws_markImage.f k t196 t199 bt221.1).bind fun bt224 => (if bt224.1 < 0 then (laws_FnExactChangedBits.j0 k t186 t203 true l0_0 l0_1 l1_0 l1_1) else ((laws_eqIntS.f k t203 t186).bind fun t227 => (laws_FnExactChangedBits.j0 k t186 t203 (!t227) l0_0 l0_1 l1_0 l1_1))))) else (none)))) = some r := by rw [if_pos rfl] at H; exact H
          clear H
          have H := H1
          clear H1
          replace H := Option.bind_eq_some_iff.mp H
          obtain ⟨⟨t214, t217⟩, A300, H⟩ := H
          replace H : ((laws_eqImage.f k t196 t199 t214 t217).bind fun t220 => (if t220 = true then ((laws_markImage.f k t189 t192 1).bind fun bt221 => ((laws_markImage.f k t196 t199 bt221.1).bind fun bt224 => (if bt224.1 < 0 then (laws_FnExactChangedBits.j0 k t186 t203 true l0_0 l0_1 l1_0 l1_1) else ((laws_eqIntS.f k t203 t186).bind fun t227 => (laws_FnExactChangedBits.j0 k t186 t203 (!t227) l0_0 l0_1 l1_0 l1_1))))) else (none))) = some r := H
          have A30 := Aside0.mk A300
          clear A300
          replace H := Option.bind_eq_some_iff.mp H
          obtain ⟨t220, A310, H⟩ := H
          replace H : (if t220 = true then ((laws_markImage.f k t189 t192 1).bind fun bt221 => ((laws_markImage.f k t196 t199 bt221.1).bind fun bt224 => (if bt224.1 < 0 then (laws_FnExactChangedBits.j0 k t186 t203 true l0_0 l0_1 l1_0 l1_1) else ((laws_eqIntS.f k t203 t186).bind fun t227 => (laws_FnExactChangedBits.j0 k t186 t203 (!t227) l0_0 l0_1 l1_0 l1_1))))) else (none)) = some r := H
          have A31 := Aside0.mk A310
          clear A310
          by_cases c32 : t220 = true
          · subst c32
            have H1 : ((laws_markImage.f k t189 t192 1).bind fun bt221 => ((laws_markImage.f k t196 t199 bt221.1).bind fun bt224 => (if bt224.1 < 0 then (laws_FnExactChangedBits.j0 k t186 t203 true l0_0 l0_1 l1_0 l1_1) else ((laws_eqIntS.f k t203 t186).bind fun t227 => (laws_FnExactChangedBits.j0 k t186 t203 (!t227) l0_0 l0_1 l1_0 l1_1))))) = some r := by rw [if_pos rfl] at H; exact H
            clear H
            have H := H1
            clear H1
            replace H := Option.bind_eq_some_iff.mp H
            obtain ⟨⟨t221, t222, t223⟩, A330, H⟩ := H
            replace H : ((laws_markImage.f k t196 t199 t221).bind fun bt224 => (if bt224.1 < 0 then (laws_FnExactChangedBits.j0 k t186 t203 true l0_0 l0_1 l1_0 l1_1) else ((laws_eqIntS.f k t203 t186).bind fun t227 => (laws_FnExactChangedBits.j0 k t186 t203 (!t227) l0_0 l0_1 l1_0 l1_1)))) = some r := H
            have A33 := Aside0.mk A330
            clear A330
            replace H := Option.bind_eq_some_iff.mp H
            obtain ⟨⟨t224, t225, t226⟩, A340, H⟩ := H
            replace H : (if t224 < 0 then (laws_FnExactChangedBits.j0 k t186 t203 true l0_0 l0_1 l1_0 l1_1) else ((laws_eqIntS.f k t203 t186).bind fun t227 => (laws_FnExactChangedBits.j0 k t186 t203 (!t227) l0_0 l0_1 l1_0 l1_1))) = some r := H
            have A34 := Aside0.mk A340
            clear A340
            have HC35 := Aside0.mk H
            clear H
            go_enter Try.func14, Try.ntmps14
            try go_wp2_with (first | ((with_reducible refine gate_dst (N := 2) rfl ?_); refine box_event ?hg (N := 2) ?hd (cs := #[.slice A0_0 l0_0.length c0_0, .slice A0_1 l0_1.length c0_1]) (t := 62) ?hr ?_; (case hd => rfl); (case hg => rfl); (case hr => first | (go_simp; done) | (go_simp; rfl)); intro gb170 hg w36 hbox hb; have n0_ := Aside0.mk (below_step (by repeat (first | (with_reducible first | exact HB.out | apply below_alloc | apply pw_below_drewN | apply below_drew1) | exact HB.out)) hb); have n1_ := Aside0.mk (hbox); have n2_ := Aside0.mk ((by rw [hg]; exact (below_size (by repeat (first | (with_reducible first | exact HB.out | apply below_alloc | apply pw_below_drewN | apply below_drew1) | exact HB.out))) : w.heap.size ≤ gb170)); have n3_ := Aside0.mk ((by rw [hg]; exact (below_size (by repeat (first | (with_reducible first | exact HB.out | apply below_alloc | apply pw_below_drewN | apply below_drew1) | exact HB.out))) : w.heap.size ≤ gb170)); clear HB; have HB := n0_; have BK170 := n1_; have GW170 := n2_; have GE170 := n3_; clear n0_ n1_ n2_ n3_; clear hb hbox hg) | ((with_reducible refine gate_dst (N := 3) rfl ?_); refine box_event ?hg (N := 3) ?hd (cs := #[.slice A1_0 l1_0.length c1_0, .slice A1_1 l1_1.length c1_1]) (t := 62) ?hr ?_; (case hd => rfl); (case hg => rfl); (case hr => first | (go_simp; done) | (go_simp; rfl)); intro gb171 hg w37 hbox hb; have n0_ := Aside0.mk (blk_below (g := gb170) (o := .cells #[.slice A0_0 l0_0.length c0_0, .slice A0_1 l0_1.length c0_1] 62 (0, 0)) (by (with_reducible repeat (first | refine blk_drewN ?_ _ | refine blk_drew ?_ | refine blk_alloc ?_ _)); exact BK170.out) hb); have n1_ := Aside0.mk (below_step (by repeat (first | (with_reducible first | exact HB.out | apply below_alloc | apply pw_below_drewN | apply below_drew1 | refine below_set ?_ GE170.out) | exact HB.out)) hb); have n2_ := Aside0.mk (hbox); have n3_ := Aside0.mk ((by rw [hg]; exact (below_size (by repeat (first | (with_reducible first | exact HB.out | apply below_alloc | apply pw_below_drewN | apply below_drew1 | refine below_set ?_ GE170.out) | exact HB.out))) : w.heap.size ≤ gb171)); have n4_ := Aside0.mk ((by rw [hg]; exact (below_size (by repeat (first | (with_reducible first | exact HB.out | apply below_alloc | apply pw_below_drewN | apply below_drew1 | refine below_set ?_ GE170.out) | exact HB.out))) : w.heap.size ≤ gb171)); have n5_ := Aside0.mk ((by rw [hg]; exact Nat.ne_of_lt (blk_lt (g := gb170) (o := .cells #[.slice A0_0 l0_0.length c0_0, .slice A0_1 l0_1.length c0_1] 62 (0, 0)) (by (with_reducible repeat (first | refine blk_drewN ?_ _ | refine blk_drew ?_ | refine blk_alloc ?_ _)); exact BK170.out)) : gb170 ≠ gb171)); have n6_ := Aside0.mk ((by rw [hg]; exact Nat.ne_of_gt (blk_lt (g := gb170) (o := .cells #[.slice A0_0 l0_0.length c0_0, .slice A0_1 l0_1.length c0_1] 62 (0, 0)) (by (with_reducible repeat (first | refine blk_drewN ?_ _ | refine blk_drew ?_ | refine blk_alloc ?_ _)); exact BK170.out)) : gb171 ≠ gb170)); clear BK170; clear HB; have BK170 := n0_; have HB := n1_; have BK171 := n2_; have GW171 := n3_; have GE171 := n4_; have NB170_171 := n5_; have NB171_170 := n6_; clear n0_ n1_ n2_ n3_ n4_ n5_ n6_; clear hb hbox hg; have hnb38 := NB170_171.out; have hnc38 := NB171_170.out; have hcz39_0 : w37.cell? ⟨gb170, 0, none⟩ = some (.slice A0_0 l0_0.length c0_0) := (blk_cell BK170.out 0).trans rfl; have hcz39_1 : w37.cell? ⟨gb170, 1, none⟩ = some (.slice A0_1 l0_1.length c0_1) := (blk_cell BK170.out 1).trans rfl; have hfz39_0 := blk_frozen BK170.out 0; have hfz39_1 := blk_frozen BK170.out 1) | ((with_reducible refine gate_callee (f := 51) rfl ?_); refine goesL_ (some 16) rfl rfl Try.func51 (by kernel_rfl) rfl #[.agg #[.slice A0_0 l0_0.length c0_0, .slice A0_1 l0_1.length c0_1], .int .i64 1048576] rfl (by (try simp only [List.map_toArray, List.map_cons, List.map_nil]); first | done | rfl | (simp only [List.length_drop, List.length_take]; rfl)) ?_; (with_reducible refine (laws_szImage.calls _ _ l0_0 _ _ l0_1 1048576 t172 _ ?side1 ?side2 ?side3 ?side4 A3.out).mono ?_); (case side1 => repeat (first | exact (Kd.C_below HR0_0.out HB.out) | (with_reducible refine Kd.C_alloc ?_ _) | (with_reducible refine Kd.C_drewN ?_ _) | (with_reducible refine Kd.C_drew ?_))); (case side2 => exact HC0_0.out); (case side3 => repeat (first | exact (Kd.C_below HR0_1.out HB.out) | (with_reducible refine Kd.C_alloc ?_ _) | (with_reducible refine Kd.C_drewN ?_ _) | (with_reducible refine Kd.C_drew ?_))); (case side4 => exact HC0_1.out); rintro e w40 ⟨rfl, hb⟩; refine ⟨_, rfl, ?_⟩; have n0_ := Aside0.mk (blk_below (g := gb170) (o := .cells #[.slice A0_0 l0_0.length c0_0, .slice A0_1 l0_1.length c0_1] 62 (0, 0)) (by (with_reducible repeat (first | refine blk_drewN ?_ _ | refine blk_drew ?_ | refine blk_alloc ?_ _)); exact BK170.out) hb); have n1_ := Aside0.mk (blk_below (g := gb171) (o := .cells #[.slice A1_0 l1_0.length c1_0, .slice A1_1 l1_1.length c1_1] 62 (0, 0)) (by (with_reducible repeat (first | refine blk_drewN ?_ _ | refine blk_drew ?_ | refine blk_alloc ?_ _)); exact BK171.out) hb); have n2_ := Aside0.mk (below_step (by repeat (first | (with_reducible first | exact HB.out | apply below_alloc | apply pw_below_drewN | apply below_drew1 | refine below_set ?_ GE170.out | refine below_set ?_ GE171.out) | exact HB.out)) hb); clear BK170; clear BK171; clear HB; have BK170 := n0_; have BK171 := n1_; have HB := n2_; clear n0_ n1_ n2_; (try clear hb); (try clear hb2); (try clear hk); (try clear hi); have hcz41_0 : w40.cell? ⟨gb171, 0, none⟩ = some (.slice A1_0 l1_0.length c1_0) := (blk_cell BK171.out 0).trans rfl; have hcz41_1 : w40.cell? ⟨gb171, 1, none⟩ = some (.slice A1_1 l1_1.length c1_1) := (blk_cell BK171.out 1).trans rfl; have hfz41_0 := blk_frozen BK171.out 0; have hfz41_1 := blk_frozen BK171.out 1) | ((with_reducible refine gate_callee (f := 51) rfl ?_); refine goesL_ (some 21) rfl rfl Try.func51 (by kernel_rfl) rfl #[.agg #[.slice A1_0 l1_0.length c1_0, .slice A1_1 l1_1.length c1_1], .int .i64 t172] rfl (by (try simp only [List.map_toArray, List.map_cons, List.map_nil]); first | done | rfl | (simp only [List.length_drop, List.length_take]; rfl)) ?_; (with_reducible refine (laws_szImage.calls _ _ l1_0 _ _ l1_1 t172 t173 _ ?side1 ?side2 ?side3 ?side4 A10.out).mono ?_); (case side1 => repeat (first | exact (Kd.C_below HR1_0.out HB.out) | (with_reducible refine Kd.C_alloc ?_ _) | (with_reducible refine Kd.C_drewN ?_ _) | (with_reducible refine Kd.C_drew ?_))); (case side2 => exact HC1_0.out); (case side3 => repeat (first | exact (Kd.C_below HR1_1.out HB.out) | (with_reducible refine Kd.C_alloc ?_ _) | (with_reducible refine Kd.C_drewN ?_ _) | (with_reducible refine Kd.C_drew ?_))); (case side4 => exact HC1_1.out); rintro e w42 ⟨rfl, hb⟩; refine ⟨_, rfl, ?_⟩; have n0_ := Aside0.mk (blk_below (g := gb170) (o := .cells #[.slice A0_0 l0_0.length c0_0, .slice A0_1 l0_1.length c0_1] 62 (0, 0)) (by (with_reducible repeat (first | refine blk_drewN ?_ _ | refine blk_drew ?_ | refine blk_alloc ?_ _)); exact BK170.out) hb); have n1_ := Aside0.mk (blk_below (g := gb171) (o := .cells #[.slice A1_0 l1_0.length c1_0, .slice A1_1 l1_1.length c1_1] 62 (0, 0)) (by (with_reducible repeat (first | refine blk_drewN ?_ _ | refine blk_drew ?_ | refine blk_alloc ?_ _)); exact BK171.out) hb); have n2_ := Aside0.mk (below_step (by repeat (first | (with_reducible first | exact HB.out | apply below_alloc | apply pw_below_drewN | apply below_drew1 | refine below_set ?_ GE170.out | refine below_set ?_ GE171.out) | exact HB.out)) hb); clear BK170; clear BK171; clear HB; have BK170 := n0_; have BK171 := n1_; have HB := n2_; clear n0_ n1_ n2_; (try clear hb); (try clear hb2); (try clear hk); (try clear hi)))
            have n0_ := Aside0.mk (blk_drew BK170.out)
            have n1_ := Aside0.mk (blk_drew BK171.out)
            have n2_ := Aside0.mk (below_drew1 HB.out)
            clear BK170
            clear BK171
            clear HB
            have BK170 := n0_
            have BK171 := n1_
            have HB := n2_
            clear n0_ n1_ n2_
            refine start_ (n := 6) (S := fun w' => w'.cell? ⟨gb170, 0, none⟩ = some (.slice A0_0 l0_0.length c0_0) ∧ w'.cell? ⟨gb170, 1, none⟩ = some (.slice A0_1 l0_1.length c0_1) ∧ w'.cell? ⟨gb171, 0, none⟩ = some (.slice A1_0 l1_0.length c1_0) ∧ w'.cell? ⟨gb171, 1, none⟩ = some (.slice A1_1 l1_1.length c1_1)) (ds := []) #[false, false, false, false, false, false] (by kernel_rfl) rfl rfl ⟨(blk_cell BK170.out 0).trans rfl, (blk_cell BK170.out 1).trans rfl, (blk_cell BK171.out 0).trans rfl, (blk_cell BK171.out 1).trans rfl⟩ (fun hHeld => ?_)
            generalize w42.drew = w43 at BK170 BK171 HB hHeld ⊢
            refine take_ (i := 0) (N := some 24) (v := ?_) (a' := ?_) #[true, false, false, false, false, false] rfl rfl (by kernel_rfl) (fun _ _ _ h => h) (Or.inl ⟨by rfl, ?_⟩) hHeld ?_ ?_
            rotate_left
            · rintro w' ⟨s0, s1, s2, s3⟩
              go_simp
              with_reducible rfl
            rotate_left
            · simp only [Act.put, List.setIfInBounds_toArray, List.set_cons_zero, List.set_cons_succ, i64_w, i32_w]
              rfl
            refine take_ (i := 2) (N := some 26) (v := ?_) (a' := ?_) #[true, false, true, false, false, false] rfl rfl (by kernel_rfl) (fun _ _ _ h => h) (Or.inl ⟨by rfl, ?_⟩) hHeld ?_ ?_
            rotate_left
            · rintro w' ⟨s0, s1, s2, s3⟩
              go_simp
              with_reducible rfl
            rotate_left
            · simp only [Act.put, List.setIfInBounds_toArray, List.set_cons_zero, List.set_cons_succ, i64_w, i32_w]
              rfl
            refine one_ (i := 1) (N := some 25) #[true, true, true, false, false, false] rfl rfl (by kernel_rfl) (by decide) (fun K hK => ?_)
            refine goes_ Try.func53 (by kernel_rfl) rfl #[.agg #[.slice A0_0 l0_0.length c0_0, .slice A0_1 l0_1.length c0_1]] (by rfl) rfl rfl (by (try simp only [List.map_toArray, List.map_cons, List.map_nil]); first | done | rfl | (simp only [List.length_drop, List.length_take]; rfl)) ?_
            with_reducible refine (laws_toImage.calls k _ _ l0_0 _ _ l0_1 t174 t177 _ ?side1 ?side2 ?side3 ?side4 A19.out).mono ?_
            (case side1 => repeat (first | exact (Kd.C_below HR0_0.out HB.out) | (with_reducible refine Kd.C_alloc ?_ _) | (with_reducible refine Kd.C_drewN ?_ _) | (with_reducible refine Kd.C_drew ?_)))
            (case side2 => exact HC0_0.out)
            (case side3 => repeat (first | exact (Kd.C_below HR0_1.out HB.out) | (with_reducible refine Kd.C_alloc ?_ _) | (with_reducible refine Kd.C_drewN ?_ _) | (with_reducible refine Kd.C_drew ?_)))
            (case side4 => exact HC0_1.out)
            rintro e w44 ⟨v175, v178, rfl, ho0, ho1, hb⟩
            refine ⟨_, rfl, ?_⟩
            have n0_ := Aside0.mk (Kd.R_lower ho0 (below_size (by repeat (first | (with_reducible first | exact HB.out | apply below_alloc | apply pw_below_drewN | apply below_drew1 | refine below_set ?_ GE170.out | refine below_set ?_ GE171.out) | exact HB.out))))
            have n1_ := Aside0.mk (Kd.R_lower ho1 (below_size (by repeat (first | (with_reducible first | exact HB.out | apply below_alloc | apply pw_below_drewN | apply below_drew1 | refine below_set ?_ GE170.out | refine below_set ?_ GE171.out) | exact HB.out))))
            have n2_ := Aside0.mk (blk_below (g := gb170) (o := .cells #[.slice A0_0 l0_0.length c0_0, .slice A0_1 l0_1.length c0_1] 62 (0, 0)) (by (with_reducible repeat (first | refine blk_drewN ?_ _ | refine blk_drew ?_ | refine blk_alloc ?_ _)); exact BK170.out) hb)
            have n3_ := Aside0.mk (blk_below (g := gb171) (o := .cells #[.slice A1_0 l1_0.length c1_0, .slice A1_1 l1_1.length c1_1] 62 (0, 0)) (by (with_reducible repeat (first | refine blk_drewN ?_ _ | refine blk_drew ?_ | refine blk_alloc ?_ _)); exact BK171.out) hb)
            have n4_ := Aside0.mk (below_step (by repeat (first | (with_reducible first | exact HB.out | apply below_alloc | apply pw_below_drewN | apply below_drew1 | refine below_set ?_ GE170.out | refine below_set ?_ GE171.out) | exact HB.out)) hb)
            clear BK170
            clear BK171
            clear HB
            have HO176 := n0_
            have HO179 := n1_
            have BK170 := n2_
            have BK171 := n3_
            have HB := n4_
            clear n0_ n1_ n2_ n3_ n4_
            (try clear hb)
            (try clear hb2)
            (try clear hk)
            (try clear hi)
            (try clear ho0)
            (try clear ho1)
            refine hK.out _ _ ⟨(blk_cell BK170.out 0).trans rfl, (blk_cell BK170.out 1).trans rfl, (blk_cell BK171.out 0).trans rfl, (blk_cell BK171.out 1).trans rfl⟩ (fun hHeld => ?_)
            clear hK K
            refine norm_ (a' := ?_) ?_ ?_
            rotate_left
            · show Act.put _ (some 25) _ = _
              simp only [Act.put, List.setIfInBounds_toArray, List.set_cons_zero, List.set_cons_succ, i64_w, i32_w]
              rfl
            refine one_ (i := 3) (N := some 27) #[true, true, true, true, false, false] rfl rfl (by kernel_rfl) (by decide) (fun K hK => ?_)
            refine goes_ Try.func53 (by kernel_rfl) rfl #[.agg #[.slice A1_0 l1_0.length c1_0, .slice A1_1 l1_1.length c1_1]] (by rfl) rfl rfl (by (try simp only [List.map_toArray, List.map_cons, List.map_nil]); first | done | rfl | (simp only [List.length_drop, List.length_take]; rfl)) ?_
            with_reducible refine (laws_toImage.calls k _ _ l1_0 _ _ l1_1 t180 t183 _ ?side1 ?side2 ?side3 ?side4 A20.out).mono ?_
            (case side1 => repeat (first | exact (Kd.C_below HR1_0.out HB.out) | (with_reducible refine Kd.C_alloc ?_ _) | (with_reducible refine Kd.C_drewN ?_ _) | (with_reducible refine Kd.C_drew ?_)))
            (case side2 => exact HC1_0.out)
            (case side3 => repeat (first | exact (Kd.C_below HR1_1.out HB.out) | (with_reducible refine Kd.C_alloc ?_ _) | (with_reducible refine Kd.C_drewN ?_ _) | (with_reducible refine Kd.C_drew ?_)))
            (case side4 => exact HC1_1.out)
            rintro e w45 ⟨v181, v184, rfl, ho0, ho1, hb⟩
            refine ⟨_, rfl, ?_⟩
            have n0_ := Aside0.mk (Kd.R_elder' (by (with_reducible repeat (first | apply Kd.R_alloc | apply Kd.R_drewN | apply Kd.R_drew)); exact HO176.out) (Kd.R_base ho0) hb)
            have n1_ := Aside0.mk (Kd.R_elder' (by (with_reducible repeat (first | apply Kd.R_alloc | apply Kd.R_drewN | apply Kd.R_drew)); exact HO179.out) (Kd.R_base ho1) hb)
            have n2_ := Aside0.mk (Kd.R_lower (Kd.R_new' ho0 (Kd.R_lt (by (with_reducible repeat (first | apply Kd.R_alloc | apply Kd.R_drewN | apply Kd.R_drew)); exact HO176.out))) (below_size (by repeat (first | (with_reducible first | exact HB.out | apply below_alloc | apply pw_below_drewN | apply below_drew1 | refine below_set ?_ GE170.out | refine below_set ?_ GE171.out) | exact HB.out))))
            have n3_ := Aside0.mk (Kd.R_lower (Kd.R_new' ho1 (Kd.R_lt (by (with_reducible repeat (first | apply Kd.R_alloc | apply Kd.R_drewN | apply Kd.R_drew)); exact HO179.out))) (below_size (by repeat (first | (with_reducible first | exact HB.out | apply below_alloc | apply pw_below_drewN | apply below_drew1 | refine below_set ?_ GE170.out | refine below_set ?_ GE171.out) | exact HB.out))))
            have n4_ := Aside0.mk (blk_below (g := gb170) (o := .cells #[.slice A0_0 l0_0.length c0_0, .slice A0_1 l0_1.length c0_1] 62 (0, 0)) (by (with_reducible repeat (first | refine blk_drewN ?_ _ | refine blk_drew ?_ | refine blk_alloc ?_ _)); exact BK170.out) hb)
            have n5_ := Aside0.mk (blk_below (g := gb171) (o := .cells #[.slice A1_0 l1_0.length c1_0, .slice A1_1 l1_1.length c1_1] 62 (0, 0)) (by (with_reducible repeat (first | refine blk_drewN ?_ _ | refine blk_drew ?_ | refine blk_alloc ?_ _)); exact BK171.out) hb)
            have n6_ := Aside0.mk (below_step (by repeat (first | (with_reducible first | exact HB.out | apply below_alloc | apply pw_below_drewN | apply below_drew1 | refine below_set ?_ GE170.out | refine below_set ?_ GE171.out) | exact HB.out)) hb)
            clear HO176
            clear HO179
            clear BK170
            clear BK171
            clear HB
            have HO176 := n0_
            have HO179 := n1_
            have HO182 := n2_
            have HO185 := n3_
            have BK170 := n4_
            have BK171 := n5_
            have HB := n6_
            clear n0_ n1_ n2_ n3_ n4_ n5_ n6_
            (try clear hb)
            (try clear hb2)
            (try clear hk)
            (try clear hi)
            (try clear ho0)
            (try clear ho1)
            obtain ⟨Ao46, co46, eo46⟩ := Kd.R_slice HO176.out
            (first | subst eo46 | (injection eo46 with f1_ f2_ f3_; have f4_ := f1_.symm; have f5_ := f3_.symm; clear f1_ f2_ f3_; subst f4_; subst f5_))
            obtain ⟨Ao47, co47, eo47⟩ := Kd.R_slice HO179.out
            (first | subst eo47 | (injection eo47 with f1_ f2_ f3_; have f4_ := f1_.symm; have f5_ := f3_.symm; clear f1_ f2_ f3_; subst f4_; subst f5_))
            obtain ⟨Ao48, co48, eo48⟩ := Kd.R_slice HO182.out
            (first | subst eo48 | (injection eo48 with f1_ f2_ f3_; have f4_ := f1_.symm; have f5_ := f3_.symm; clear f1_ f2_ f3_; subst f4_; subst f5_))
            obtain ⟨Ao49, co49, eo49⟩ := Kd.R_slice HO185.out
            (first | subst eo49 | (injection eo49 with f1_ f2_ f3_; have f4_ := f1_.symm; have f5_ := f3_.symm; clear f1_ f2_ f3_; subst f4_; subst f5_))
            refine hK.out _ _ ⟨(blk_cell BK170.out 0).trans rfl, (blk_cell BK170.out 1).trans rfl, (blk_cell BK171.out 0).trans rfl, (blk_cell BK171.out 1).trans rfl⟩ (fun hHeld => ?_)
            clear hK K
            refine norm_ (a' := ?_) ?_ ?_
            rotate_left
            · show Act.put _ (some 27) _ = _
              simp only [Act.put, List.setIfInBounds_toArray, List.set_cons_zero, List.set_cons_succ, i64_w, i32_w]
              rfl
            refine one_ (i := 4) (N := some 28) #[true, true, true, true, true, false] rfl rfl (by kernel_rfl) (by decide) (fun K hK => ?_)
            refine goes_ Try.func58 (by kernel_rfl) rfl #[.agg #[.slice Ao46 t174.length co46, .slice Ao47 t177.length co47], .agg #[.slice Ao48 t180.length co48, .slice Ao49 t183.length co49]] (by rfl) rfl rfl (by (try simp only [List.map_toArray, List.map_cons, List.map_nil]); first | done | rfl | (simp only [List.length_drop, List.length_take]; rfl)) ?_
            with_reducible refine (spec_ChangedBits.calls k _ _ t174 _ _ t177 _ _ t180 _ _ t183 t186 _ ?side1 ?side2 ?side3 ?side4 ?side5 ?side6 ?side7 ?side8 A21.out).mono ?_
            (case side1 => repeat (first | exact (Kd.R_reads' HO176.out).2.2 | (with_reducible refine Kd.C_alloc ?_ _) | (with_reducible refine Kd.C_drewN ?_ _) | (with_reducible refine Kd.C_drew ?_)))
            (case side2 => exact (Kd.R_reads' HO176.out).2.1)
            (case side3 => repeat (first | exact (Kd.R_reads' HO179.out).2.2 | (with_reducible refine Kd.C_alloc ?_ _) | (with_reducible refine Kd.C_drewN ?_ _) | (with_reducible refine Kd.C_drew ?_)))
            (case side4 => exact (Kd.R_reads' HO179.out).2.1)
            (case side5 => repeat (first | exact (Kd.R_reads' HO182.out).2.2 | (with_reducible refine Kd.C_alloc ?_ _) | (with_reducible refine Kd.C_drewN ?_ _) | (with_reducible refine Kd.C_drew ?_)))
            (case side6 => exact (Kd.R_reads' HO182.out).2.1)
            (case side7 => repeat (first | exact (Kd.R_reads' HO185.out).2.2 | (with_reducible refine Kd.C_alloc ?_ _) | (with_reducible refine Kd.C_drewN ?_ _) | (with_reducible refine Kd.C_drew ?_)))
            (case side8 => exact (Kd.R_reads' HO185.out).2.1)
            rintro e w50 ⟨v187, rfl, ho0, hb⟩
            refine ⟨_, rfl, ?_⟩
            have n0_ := Aside0.mk (Kd.R_below (by (with_reducible repeat (first | apply Kd.R_alloc | apply Kd.R_drewN | apply Kd.R_drew)); exact HO176.out) hb)
            have n1_ := Aside0.mk (Kd.R_elder' (by (with_reducible repeat (first | apply Kd.R_alloc | apply Kd.R_drewN | apply Kd.R_drew)); exact HO179.out) (Kd.R_base ho0) hb)
            have n2_ := Aside0.mk (Kd.R_below (by (with_reducible repeat (first | apply Kd.R_alloc | apply Kd.R_drewN | apply Kd.R_drew)); exact HO182.out) hb)
            have n3_ := Aside0.mk (Kd.R_elder' (by (with_reducible repeat (first | apply Kd.R_alloc | apply Kd.R_drewN | apply Kd.R_drew)); exact HO185.out) (Kd.R_base ho0) hb)
            have n4_ := Aside0.mk (Kd.R_lower (Kd.R_new' (Kd.R_new' ho0 (Kd.R_lt (by (with_reducible repeat (first | apply Kd.R_alloc | apply Kd.R_drewN | apply Kd.R_drew)); exact HO179.out))) (Kd.R_lt (by (with_reducible repeat (first | apply Kd.R_alloc | apply Kd.R_drewN | apply Kd.R_drew)); exact HO185.out))) (below_size (by repeat (first | (with_reducible first | exact HB.out | apply below_alloc | apply pw_below_drewN | apply below_drew1 | refine below_set ?_ GE170.out | refine below_set ?_ GE171.out) | exact HB.out))))
            have n5_ := Aside0.mk (blk_below (g := gb170) (o := .cells #[.slice A0_0 l0_0.length c0_0, .slice A0_1 l0_1.length c0_1] 62 (0, 0)) (by (with_reducible repeat (first | refine blk_drewN ?_ _ | refine blk_drew ?_ | refine blk_alloc ?_ _)); exact BK170.out) hb)
            have n6_ := Aside0.mk (blk_below (g := gb171) (o := .cells #[.slice A1_0 l1_0.length c1_0, .slice A1_1 l1_1.length c1_1] 62 (0, 0)) (by (with_reducible repeat (first | refine blk_drewN ?_ _ | refine blk_drew ?_ | refine blk_alloc ?_ _)); exact BK171.out) hb)
            have n7_ := Aside0.mk (below_step (by repeat (first | (with_reducible first | exact HB.out | apply below_alloc | apply pw_below_drewN | apply below_drew1 | refine below_set ?_ GE170.out | refine below_set ?_ GE171.out) | exact HB.out)) hb)
            clear HO176
            clear HO179
            clear HO182
            clear HO185
            clear BK170
            clear BK171
            clear HB
            have HO176 := n0_
            have HO179 := n1_
            have HO182 := n2_
            have HO185 := n3_
            have HO188 := n4_
            have BK170 := n5_
            have BK171 := n6_
            have HB := n7_
            clear n0_ n1_ n2_ n3_ n4_ n5_ n6_ n7_
            (try clear hb)
            (try clear hb2)
            (try clear hk)
            (try clear hi)
            (try clear ho0)
            refine hK.out _ _ ⟨(blk_cell BK170.out 0).trans rfl, (blk_cell BK170.out 1).trans rfl, (blk_cell BK171.out 0).trans rfl, (blk_cell BK171.out 1).trans rfl⟩ (fun hHeld => ?_)
            clear hK K
            refine norm_ (a' := ?_) ?_ ?_
            rotate_left
            · show Act.put _ (some 28) _ = _
              simp only [Act.put, List.setIfInBounds_toArray, List.set_cons_zero, List.set_cons_succ, i64_w, i32_w]
              rfl
            refine pure_ (i := 5) (N := some 6) (v := ?_) (a' := ?_) #[true, true, true, true, true, true] rfl rfl (by kernel_rfl) (fun _ _ _ h => h) (Or.inl ⟨by rfl, ?_⟩) ?_ ?_
            rotate_left
            · intro w'
              go_simp
              with_reducible rfl
            rotate_left
            · simp only [Act.put, List.setIfInBounds_toArray, List.set_cons_zero, List.set_cons_succ, i64_w, i32_w]
              rfl
            refine done_ (by kernel_rfl) ?_
            have hcz51_0 : w50.cell? ⟨gb170, 0, none⟩ = some (.slice A0_0 l0_0.length c0_0) := (blk_cell BK170.out 0).trans rfl
            have hcz51_1 : w50.cell? ⟨gb170, 1, none⟩ = some (.slice A0_1 l0_1.length c0_1) := (blk_cell BK170.out 1).trans rfl
            have hfz51_0 := blk_frozen BK170.out 0
            have hfz51_1 := blk_frozen BK170.out 1
            try go_wp2_with (first | ((with_reducible refine gate_callee (f := 53) rfl ?_); refine goesL_ (some 30) rfl rfl Try.func53 (by kernel_rfl) rfl #[.agg #[.slice A0_0 l0_0.length c0_0, .slice A0_1 l0_1.length c0_1]] rfl (by (try simp only [List.map_toArray, List.map_cons, List.map_nil]); first | done | rfl | (simp only [List.length_drop, List.length_take]; rfl)) ?_; (with_reducible refine (laws_toImage.calls k _ _ l0_0 _ _ l0_1 t189 t192 _ ?side1 ?side2 ?side3 ?side4 A22.out).mono ?_); (case side1 => repeat (first | exact (Kd.C_below HR0_0.out HB.out) | (with_reducible refine Kd.C_alloc ?_ _) | (with_reducible refine Kd.C_drewN ?_ _) | (with_reducible refine Kd.C_drew ?_))); (case side2 => exact HC0_0.out); (case side3 => repeat (first | exact (Kd.C_below HR0_1.out HB.out) | (with_reducible refine Kd.C_alloc ?_ _) | (with_reducible refine Kd.C_drewN ?_ _) | (with_reducible refine Kd.C_drew ?_))); (case side4 => exact HC0_1.out); rintro e w52 ⟨v190, v193, rfl, ho0, ho1, hb⟩; refine ⟨_, rfl, ?_⟩; have n0_ := Aside0.mk (Kd.R_elder' (by (with_reducible repeat (first | apply Kd.R_alloc | apply Kd.R_drewN | apply Kd.R_drew)); exact HO176.out) (Kd.R_base ho0) hb); have n1_ := Aside0.mk (Kd.R_elder' (by (with_reducible repeat (first | apply Kd.R_alloc | apply Kd.R_drewN | apply Kd.R_drew)); exact HO179.out) (Kd.R_base ho1) hb); have n2_ := Aside0.mk (Kd.R_elder' (by (with_reducible repeat (first | apply Kd.R_alloc | apply Kd.R_drewN | apply Kd.R_drew)); exact HO182.out) (Kd.R_base ho0) hb); have n3_ := Aside0.mk (Kd.R_elder' (by (with_reducible repeat (first | apply Kd.R_alloc | apply Kd.R_drewN | apply Kd.R_drew)); exact HO185.out) (Kd.R_base ho1) hb); have n4_ := Aside0.mk (Kd.R_elder' (by (with_reducible repeat (first | apply Kd.R_alloc | apply Kd.R_drewN | apply Kd.R_drew)); exact HO188.out) (Kd.R_base ho1) hb); have n5_ := Aside0.mk (Kd.R_lower (Kd.R_new' (Kd.R_new' ho0 (Kd.R_lt (by (with_reducible repeat (first | apply Kd.R_alloc | apply Kd.R_drewN | apply Kd.R_drew)); exact HO176.out))) (Kd.R_lt (by (with_reducible repeat (first | apply Kd.R_alloc | apply Kd.R_drewN | apply Kd.R_drew)); exact HO182.out))) (below_size (by repeat (first | (with_reducible first | exact HB.out | apply below_alloc | apply pw_below_drewN | apply below_drew1 | refine below_set ?_ GE170.out | refine below_set ?_ GE171.out) | exact HB.out)))); have n6_ := Aside0.mk (Kd.R_lower (Kd.R_new' (Kd.R_new' (Kd.R_new' ho1 (Kd.R_lt (by (with_reducible repeat (first | apply Kd.R_alloc | apply Kd.R_drewN | apply Kd.R_drew)); exact HO179.out))) (Kd.R_lt (by (with_reducible repeat (first | apply Kd.R_alloc | apply Kd.R_drewN | apply Kd.R_drew)); exact HO185.out))) (Kd.R_lt (by (with_reducible repeat (first | apply Kd.R_alloc | apply Kd.R_drewN | apply Kd.R_drew)); exact HO188.out))) (below_size (by repeat (first | (with_reducible first | exact HB.out | apply below_alloc | apply pw_below_drewN | apply below_drew1 | refine below_set ?_ GE170.out | refine below_set ?_ GE171.out) | exact HB.out)))); have n7_ := Aside0.mk (blk_below (g := gb170) (o := .cells #[.slice A0_0 l0_0.length c0_0, .slice A0_1 l0_1.length c0_1] 62 (0, 0)) (by (with_reducible repeat (first | refine blk_drewN ?_ _ | refine blk_drew ?_ | refine blk_alloc ?_ _)); exact BK170.out) hb); have n8_ := Aside0.mk (blk_below (g := gb171) (o := .cells #[.slice A1_0 l1_0.length c1_0, .slice A1_1 l1_1.length c1_1] 62 (0, 0)) (by (with_reducible repeat (first | refine blk_drewN ?_ _ | refine blk_drew ?_ | refine blk_alloc ?_ _)); exact BK171.out) hb); have n9_ := Aside0.mk (below_step (by repeat (first | (with_reducible first | exact HB.out | apply below_alloc | apply pw_below_drewN | apply below_drew1 | refine below_set ?_ GE170.out | refine below_set ?_ GE171.out) | exact HB.out)) hb); clear HO176; clear HO179; clear HO182; clear HO185; clear HO188; clear BK170; clear BK171; clear HB; have HO176 := n0_; have HO179 := n1_; have HO182 := n2_; have HO185 := n3_; have HO188 := n4_; have HO191 := n5_; have HO194 := n6_; have BK170 := n7_; have BK171 := n8_; have HB := n9_; clear n0_ n1_ n2_ n3_ n4_ n5_ n6_ n7_ n8_ n9_; (try clear hb); (try clear hb2); (try clear hk); (try clear hi); (try clear ho0); (try clear ho1)) | ((with_reducible refine gate_dst (N := 7) rfl ?_); refine box_event ?hg (N := 7) ?hd (cs := #[.slice none 0 0, .slice none 0 0]) (t := 65) ?hr ?_; (case hd => rfl); (case hg => rfl); (case hr => first | (go_simp; done) | (go_simp; rfl)); intro gb195 hg w53 hbox hb; have n0_ := Aside0.mk (Kd.R_below (by (with_reducible repeat (first | apply Kd.R_alloc | apply Kd.R_drewN | apply Kd.R_drew)); exact HO176.out) hb); have n1_ := Aside0.mk (Kd.R_below (by (with_reducible repeat (first | apply Kd.R_alloc | apply Kd.R_drewN | apply Kd.R_drew)); exact HO179.out) hb); have n2_ := Aside0.mk (Kd.R_below (by (with_reducible repeat (first | apply Kd.R_alloc | apply Kd.R_drewN | apply Kd.R_drew)); exact HO182.out) hb); have n3_ := Aside0.mk (Kd.R_below (by (with_reducible repeat (first | apply Kd.R_alloc | apply Kd.R_drewN | apply Kd.R_drew)); exact HO185.out) hb); have n4_ := Aside0.mk (Kd.R_below (by (with_reducible repeat (first | apply Kd.R_alloc | apply Kd.R_drewN | apply Kd.R_drew)); exact HO188.out) hb); have n5_ := Aside0.mk (Kd.R_below (by (with_reducible repeat (first | apply Kd.R_alloc | apply Kd.R_drewN | apply Kd.R_drew)); exact HO191.out) hb); have n6_ := Aside0.mk (Kd.R_below (by (with_reducible repeat (first | apply Kd.R_alloc | apply Kd.R_drewN | apply Kd.R_drew)); exact HO194.out) hb); have n7_ := Aside0.mk (blk_below (g := gb170) (o := .cells #[.slice A0_0 l0_0.length c0_0, .slice A0_1 l0_1.length c0_1] 62 (0, 0)) (by (with_reducible repeat (first | refine blk_drewN ?_ _ | refine blk_drew ?_ | refine blk_alloc ?_ _)); exact BK170.out) hb); have n8_ := Aside0.mk (blk_below (g := gb171) (o := .cells #[.slice A1_0 l1_0.length c1_0, .slice A1_1 l1_1.length c1_1] 62 (0, 0)) (by (with_reducible repeat (first | refine blk_drewN ?_ _ | refine blk_drew ?_ | refine blk_alloc ?_ _)); exact BK171.out) hb); have n9_ := Aside0.mk (below_step (by repeat (first | (with_reducible first | exact HB.out | apply below_alloc | apply pw_below_drewN | apply below_drew1 | refine below_set ?_ GE170.out | refine below_set ?_ GE171.out) | exact HB.out)) hb); have n10_ := Aside0.mk (hbox); have n11_ := Aside0.mk ((by rw [hg]; exact (below_size (by repeat (first | (with_reducible first | exact HB.out | apply below_alloc | apply pw_below_drewN | apply below_drew1 | refine below_set ?_ GE170.out | refine below_set ?_ GE171.out) | exact HB.out))) : w.heap.size ≤ gb195)); have n12_ := Aside0.mk ((by rw [hg]; exact (below_size (by repeat (first | (with_reducible first | exact HB.out | apply below_alloc | apply pw_below_drewN | apply below_drew1 | refine below_set ?_ GE170.out | refine below_set ?_ GE171.out) | exact HB.out))) : w.heap.size ≤ gb195)); have n13_ := Aside0.mk ((by rw [hg]; exact Nat.ne_of_lt (blk_lt (g := gb170) (o := .cells #[.slice A0_0 l0_0.length c0_0, .slice A0_1 l0_1.length c0_1] 62 (0, 0)) (by (with_reducible repeat (first | refine blk_drewN ?_ _ | refine blk_drew ?_ | refine blk_alloc ?_ _)); exact BK170.out)) : gb170 ≠ gb195)); have n14_ := Aside0.mk ((by rw [hg]; exact Nat.ne_of_gt (blk_lt (g := gb170) (o := .cells #[.slice A0_0 l0_0.length c0_0, .slice A0_1 l0_1.length c0_1] 62 (0, 0)) (by (with_reducible repeat (first | refine blk_drewN ?_ _ | refine blk_drew ?_ | refine blk_alloc ?_ _)); exact BK170.out)) : gb195 ≠ gb170)); have n15_ := Aside0.mk ((by rw [hg]; exact Nat.ne_of_lt (blk_lt (g := gb171) (o := .cells #[.slice A1_0 l1_0.length c1_0, .slice A1_1 l1_1.length c1_1] 62 (0, 0)) (by (with_reducible repeat (first | refine blk_drewN ?_ _ | refine blk_drew ?_ | refine blk_alloc ?_ _)); exact BK171.out)) : gb171 ≠ gb195)); have n16_ := Aside0.mk ((by rw [hg]; exact Nat.ne_of_gt (blk_lt (g := gb171) (o := .cells #[.slice A1_0 l1_0.length c1_0, .slice A1_1 l1_1.length c1_1] 62 (0, 0)) (by (with_reducible repeat (first | refine blk_drewN ?_ _ | refine blk_drew ?_ | refine blk_alloc ?_ _)); exact BK171.out)) : gb195 ≠ gb171)); clear HO176; clear HO179; clear HO182; clear HO185; clear HO188; clear HO191; clear HO194; clear BK170; clear BK171; clear HB; have HO176 := n0_; have HO179 := n1_; have HO182 := n2_; have HO185 := n3_; have HO188 := n4_; have HO191 := n5_; have HO194 := n6_; have BK170 := n7_; have BK171 := n8_; have HB := n9_; have BK195 := n10_; have GW195 := n11_; have GE195 := n12_; have NB170_195 := n13_; have NB195_170 := n14_; have NB171_195 := n15_; have NB195_171 := n16_; clear n0_ n1_ n2_ n3_ n4_ n5_ n6_ n7_ n8_ n9_ n10_ n11_ n12_ n13_ n14_ n15_ n16_; clear hb hbox hg; obtain ⟨Ao54, co54, eo54⟩ := Kd.R_slice HO191.out; subst eo54; have hnb55 := NB195_170.out; have hnc55 := NB170_195.out; have hnb56 := NB195_171.out; have hnc56 := NB171_195.out; have hcz57_0 : w53.cell? ⟨gb195, 0, none⟩ = some (.slice none 0 0) := (blk_cell BK195.out 0).trans rfl; have hcz57_1 : w53.cell? ⟨gb195, 1, none⟩ = some (.slice none 0 0) := (blk_cell BK195.out 1).trans rfl; have hfz57_0 := blk_frozen BK195.out 0; have hfz57_1 := blk_frozen BK195.out 1; obtain ⟨Ao58, co58, eo58⟩ := Kd.R_slice HO194.out; subst eo58; have hcz59_0 : w53.cell? ⟨gb171, 0, none⟩ = some (.slice A1_0 l1_0.length c1_0) := (blk_cell BK171.out 0).trans rfl; have hcz59_1 : w53.cell? ⟨gb171, 1, none⟩ = some (.slice A1_1 l1_1.length c1_1) := (blk_cell BK171.out 1).trans rfl; have hfz59_0 := blk_frozen BK171.out 0; have hfz59_1 := blk_frozen BK171.out 1) | ((with_reducible refine gate_callee (f := 53) rfl ?_); refine goesL_ (some 32) rfl rfl Try.func53 (by kernel_rfl) rfl #[.agg #[.slice A1_0 l1_0.length c1_0, .slice A1_1 l1_1.length c1_1]] rfl (by (try simp only [List.map_toArray, List.map_cons, List.map_nil]); first | done | rfl | (simp only [List.length_drop, List.length_take]; rfl)) ?_; (with_reducible refine (laws_toImage.calls k _ _ l1_0 _ _ l1_1 t196 t199 _ ?side1 ?side2 ?side3 ?side4 A23.out).mono ?_); (case side1 => exact Kd.C_below HR1_0.out (by repeat (first | (with_reducible first | exact HB.out | apply below_alloc | apply pw_below_drewN | apply below_drew1 | refine below_set ?_ GE170.out | refine below_set ?_ GE171.out | refine below_set ?_ GE195.out) | exact HB.out))); (case side2 => exact HC1_0.out); (case side3 => exact Kd.C_below HR1_1.out (by repeat (first | (with_reducible first | exact HB.out | apply below_alloc | apply pw_below_drewN | apply below_drew1 | refine below_set ?_ GE170.out | refine below_set ?_ GE171.out | refine below_set ?_ GE195.out) | exact HB.out))); (case side4 => exact HC1_1.out); rintro e w60 ⟨v197, v200, rfl, ho0, ho1, hb⟩; refine ⟨_, rfl, ?_⟩; have n0_ := Aside0.mk (Kd.R_elder' (by (with_reducible repeat (first | apply Kd.R_alloc | apply Kd.R_drewN | apply Kd.R_drew)); exact (Kd.R_mono (Kd.R_far (p := ⟨gb195, 1, none⟩) (Kd.R_far (p := ⟨gb195, 0, none⟩) (Kd.R_types HO176.out BK195.out (by decide)) (fun _ hk => hk.2) (.slice Ao54 t189.length co54)) (fun _ hk => hk.2) (.slice Ao58 t192.length co58)) (fun _ h_ => h_.1))) (Kd.R_base ho0) hb); have n1_ := Aside0.mk (Kd.R_elder' (by (with_reducible repeat (first | apply Kd.R_alloc | apply Kd.R_drewN | apply Kd.R_drew)); exact (Kd.R_mono (Kd.R_far (p := ⟨gb195, 1, none⟩) (Kd.R_far (p := ⟨gb195, 0, none⟩) (Kd.R_types HO179.out BK195.out (by decide)) (fun _ hk => hk.2) (.slice Ao54 t189.length co54)) (fun _ hk => hk.2) (.slice Ao58 t192.length co58)) (fun _ h_ => h_.1))) (Kd.R_base ho1) hb); have n2_ := Aside0.mk (Kd.R_elder' (by (with_reducible repeat (first | apply Kd.R_alloc | apply Kd.R_drewN | apply Kd.R_drew)); exact (Kd.R_mono (Kd.R_far (p := ⟨gb195, 1, none⟩) (Kd.R_far (p := ⟨gb195, 0, none⟩) (Kd.R_types HO182.out BK195.out (by decide)) (fun _ hk => hk.2) (.slice Ao54 t189.length co54)) (fun _ hk => hk.2) (.slice Ao58 t192.length co58)) (fun _ h_ => h_.1))) (Kd.R_base ho0) hb); have n3_ := Aside0.mk (Kd.R_elder' (by (with_reducible repeat (first | apply Kd.R_alloc | apply Kd.R_drewN | apply Kd.R_drew)); exact (Kd.R_mono (Kd.R_far (p := ⟨gb195, 1, none⟩) (Kd.R_far (p := ⟨gb195, 0, none⟩) (Kd.R_types HO185.out BK195.out (by decide)) (fun _ hk => hk.2) (.slice Ao54 t189.length co54)) (fun _ hk => hk.2) (.slice Ao58 t192.length co58)) (fun _ h_ => h_.1))) (Kd.R_base ho1) hb); have n4_ := Aside0.mk (Kd.R_elder' (by (with_reducible repeat (first | apply Kd.R_alloc | apply Kd.R_drewN | apply Kd.R_drew)); exact (Kd.R_mono (Kd.R_far (p := ⟨gb195, 1, none⟩) (Kd.R_far (p := ⟨gb195, 0, none⟩) (Kd.R_types HO188.out BK195.out (by decide)) (fun _ hk => hk.2) (.slice Ao54 t189.length co54)) (fun _ hk => hk.2) (.slice Ao58 t192.length co58)) (fun _ h_ => h_.1))) (Kd.R_base ho1) hb); have n5_ := Aside0.mk (Kd.R_elder' (by (with_reducible repeat (first | apply Kd.R_alloc | apply Kd.R_drewN | apply Kd.R_drew)); exact (Kd.R_mono (Kd.R_far (p := ⟨gb195, 1, none⟩) (Kd.R_far (p := ⟨gb195, 0, none⟩) (Kd.R_types HO191.out BK195.out (by decide)) (fun _ hk => hk.2) (.slice Ao54 t189.length co54)) (fun _ hk => hk.2) (.slice Ao58 t192.length co58)) (fun _ h_ => h_.1))) (Kd.R_base ho0) hb); have n6_ := Aside0.mk (Kd.R_elder' (by (with_reducible repeat (first | apply Kd.R_alloc | apply Kd.R_drewN | apply Kd.R_drew)); exact (Kd.R_mono (Kd.R_far (p := ⟨gb195, 1, none⟩) (Kd.R_far (p := ⟨gb195, 0, none⟩) (Kd.R_types HO194.out BK195.out (by decide)) (fun _ hk => hk.2) (.slice Ao54 t189.length co54)) (fun _ hk => hk.2) (.slice Ao58 t192.length co58)) (fun _ h_ => h_.1))) (Kd.R_base ho1) hb); have n7_ := Aside0.mk (Kd.R_lower (Kd.R_new' (Kd.R_new' (Kd.R_new' ho0 (Kd.R_lt (by (with_reducible repeat (first | apply Kd.R_alloc | apply Kd.R_drewN | apply Kd.R_drew)); exact (Kd.R_mono (Kd.R_far (p := ⟨gb195, 1, none⟩) (Kd.R_far (p := ⟨gb195, 0, none⟩) (Kd.R_types HO176.out BK195.out (by decide)) (fun _ hk => hk.2) (.slice Ao54 t189.length co54)) (fun _ hk => hk.2) (.slice Ao58 t192.length co58)) (fun _ h_ => h_.1))))) (Kd.R_lt (by (with_reducible repeat (first | apply Kd.R_alloc | apply Kd.R_drewN | apply Kd.R_drew)); exact (Kd.R_mono (Kd.R_far (p := ⟨gb195, 1, none⟩) (Kd.R_far (p := ⟨gb195, 0, none⟩) (Kd.R_types HO182.out BK195.out (by decide)) (fun _ hk => hk.2) (.slice Ao54 t189.length co54)) (fun _ hk => hk.2) (.slice Ao58 t192.length co58)) (fun _ h_ => h_.1))))) (Kd.R_lt (by (with_reducible repeat (first | apply Kd.R_alloc | apply Kd.R_drewN | apply Kd.R_drew)); exact (Kd.R_mono (Kd.R_far (p := ⟨gb195, 1, none⟩) (Kd.R_far (p := ⟨gb195, 0, none⟩) (Kd.R_types HO191.out BK195.out (by decide)) (fun _ hk => hk.2) (.slice Ao54 t189.length co54)) (fun _ hk => hk.2) (.slice Ao58 t192.length co58)) (fun _ h_ => h_.1))))) (below_size (by repeat (first | (with_reducible first | exact HB.out | apply below_alloc | apply pw_below_drewN | apply below_drew1 | refine below_set ?_ GE170.out | refine below_set ?_ GE171.out | refine below_set ?_ GE195.out) | exact HB.out)))); have n8_ := Aside0.mk (Kd.R_lower (Kd.R_new' (Kd.R_new' (Kd.R_new' (Kd.R_new' ho1 (Kd.R_lt (by (with_reducible repeat (first | apply Kd.R_alloc | apply Kd.R_drewN | apply Kd.R_drew)); exact (Kd.R_mono (Kd.R_far (p := ⟨gb195, 1, none⟩) (Kd.R_far (p := ⟨gb195, 0, none⟩) (Kd.R_types HO179.out BK195.out (by decide)) (fun _ hk => hk.2) (.slice Ao54 t189.length co54)) (fun _ hk => hk.2) (.slice Ao58 t192.length co58)) (fun _ h_ => h_.1))))) (Kd.R_lt (by (with_reducible repeat (first | apply Kd.R_alloc | apply Kd.R_drewN | apply Kd.R_drew)); exact (Kd.R_mono (Kd.R_far (p := ⟨gb195, 1, none⟩) (Kd.R_far (p := ⟨gb195, 0, none⟩) (Kd.R_types HO185.out BK195.out (by decide)) (fun _ hk => hk.2) (.slice Ao54 t189.length co54)) (fun _ hk => hk.2) (.slice Ao58 t192.length co58)) (fun _ h_ => h_.1))))) (Kd.R_lt (by (with_reducible repeat (first | apply Kd.R_alloc | apply Kd.R_drewN | apply Kd.R_drew)); exact (Kd.R_mono (Kd.R_far (p := ⟨gb195, 1, none⟩) (Kd.R_far (p := ⟨gb195, 0, none⟩) (Kd.R_types HO188.out BK195.out (by decide)) (fun _ hk => hk.2) (.slice Ao54 t189.length co54)) (fun _ hk => hk.2) (.slice Ao58 t192.length co58)) (fun _ h_ => h_.1))))) (Kd.R_lt (by (with_reducible repeat (first | apply Kd.R_alloc | apply Kd.R_drewN | apply Kd.R_drew)); exact (Kd.R_mono (Kd.R_far (p := ⟨gb195, 1, none⟩) (Kd.R_far (p := ⟨gb195, 0, none⟩) (Kd.R_types HO194.out BK195.out (by decide)) (fun _ hk => hk.2) (.slice Ao54 t189.length co54)) (fun _ hk => hk.2) (.slice Ao58 t192.length co58)) (fun _ h_ => h_.1))))) (below_size (by repeat (first | (with_reducible first | exact HB.out | apply below_alloc | apply pw_below_drewN | apply below_drew1 | refine below_set ?_ GE170.out | refine below_set ?_ GE171.out | refine below_set ?_ GE195.out) | exact HB.out)))); have n9_ := Aside0.mk (blk_below (g := gb170) (o := .cells #[.slice A0_0 l0_0.length c0_0, .slice A0_1 l0_1.length c0_1] 62 (0, 0)) (by (with_reducible repeat (first | refine blk_drewN ?_ _ | refine blk_drew ?_ | refine blk_alloc ?_ _)); refine blk_far ?_ NB170_195.out _; (with_reducible repeat (first | refine blk_drewN ?_ _ | refine blk_drew ?_ | refine blk_alloc ?_ _)); refine blk_far ?_ NB170_195.out _; (with_reducible repeat (first | refine blk_drewN ?_ _ | refine blk_drew ?_ | refine blk_alloc ?_ _)); exact BK170.out) hb); have n10_ := Aside0.mk (blk_below (g := gb171) (o := .cells #[.slice A1_0 l1_0.length c1_0, .slice A1_1 l1_1.length c1_1] 62 (0, 0)) (by (with_reducible repeat (first | refine blk_drewN ?_ _ | refine blk_drew ?_ | refine blk_alloc ?_ _)); refine blk_far ?_ NB171_195.out _; (with_reducible repeat (first | refine blk_drewN ?_ _ | refine blk_drew ?_ | refine blk_alloc ?_ _)); refine blk_far ?_ NB171_195.out _; (with_reducible repeat (first | refine blk_drewN ?_ _ | refine blk_drew ?_ | refine blk_alloc ?_ _)); exact BK171.out) hb); have n11_ := Aside0.mk (blk_below (g := gb195) (o := .cells #[.slice Ao54 t189.length co54, .slice Ao58 t192.length co58] 65 (0, 0)) (by (with_reducible repeat (first | refine blk_drewN ?_ _ | refine blk_drew ?_ | refine blk_alloc ?_ _)); refine blk_put (cs := #[.slice Ao54 t189.length co54, .slice none 0 0]) ?_ 1 _ rfl; (with_reducible repeat (first | refine blk_drewN ?_ _ | refine blk_drew ?_ | refine blk_alloc ?_ _)); refine blk_put (cs := #[.slice none 0 0, .slice none 0 0]) ?_ 0 _ rfl; (with_reducible repeat (first | refine blk_drewN ?_ _ | refine blk_drew ?_ | refine blk_alloc ?_ _)); exact BK195.out) hb); have n12_ := Aside0.mk (below_step (by repeat (first | (with_reducible first | exact HB.out | apply below_alloc | apply pw_below_drewN | apply below_drew1 | refine below_set ?_ GE170.out | refine below_set ?_ GE171.out | refine below_set ?_ GE195.out) | exact HB.out)) hb); clear HO176; clear HO179; clear HO182; clear HO185; clear HO188; clear HO191; clear HO194; clear BK170; clear BK171; clear BK195; clear HB; have HO176 := n0_; have HO179 := n1_; have HO182 := n2_; have HO185 := n3_; have HO188 := n4_; have HO191 := n5_; have HO194 := n6_; have HO198 := n7_; have HO201 := n8_; have BK170 := n9_; have BK171 := n10_; have BK195 := n11_; have HB := n12_; clear n0_ n1_ n2_ n3_ n4_ n5_ n6_ n7_ n8_ n9_ n10_ n11_ n12_; (try clear hb); (try clear hb2); (try clear hk); (try clear hi); (try clear ho0); (try clear ho1)) | ((with_reducible refine gate_dst (N := 8) rfl ?_); refine box_event ?hg (N := 8) ?hd (cs := #[.slice none 0 0, .slice none 0 0]) (t := 65) ?hr ?_; (case hd => rfl); (case hg => rfl); (case hr => first | (go_simp; done) | (go_simp; rfl)); intro gb202 hg w61 hbox hb; have n0_ := Aside0.mk (Kd.R_below (by (with_reducible repeat (first | apply Kd.R_alloc | apply Kd.R_drewN | apply Kd.R_drew)); exact HO176.out) hb); have n1_ := Aside0.mk (Kd.R_below (by (with_reducible repeat (first | apply Kd.R_alloc | apply Kd.R_drewN | apply Kd.R_drew)); exact HO179.out) hb); have n2_ := Aside0.mk (Kd.R_below (by (with_reducible repeat (first | apply Kd.R_alloc | apply Kd.R_drewN | apply Kd.R_drew)); exact HO182.out) hb); have n3_ := Aside0.mk (Kd.R_below (by (with_reducible repeat (first | apply Kd.R_alloc | apply Kd.R_drewN | apply Kd.R_drew)); exact HO185.out) hb); have n4_ := Aside0.mk (Kd.R_below (by (with_reducible repeat (first | apply Kd.R_alloc | apply Kd.R_drewN | apply Kd.R_drew)); exact HO188.out) hb); have n5_ := Aside0.mk (Kd.R_below (by (with_reducible repeat (first | apply Kd.R_alloc | apply Kd.R_drewN | apply Kd.R_drew)); exact HO191.out) hb); have n6_ := Aside0.mk (Kd.R_below (by (with_reducible repeat (first | apply Kd.R_alloc | apply Kd.R_drewN | apply Kd.R_drew)); exact HO194.out) hb); have n7_ := Aside0.mk (Kd.R_below (by (with_reducible repeat (first | apply Kd.R_alloc | apply Kd.R_drewN | apply Kd.R_drew)); exact HO198.out) hb); have n8_ := Aside0.mk (Kd.R_below (by (with_reducible repeat (first | apply Kd.R_alloc | apply Kd.R_drewN | apply Kd.R_drew)); exact HO201.out) hb); have n9_ := Aside0.mk (blk_below (g := gb170) (o := .cells #[.slice A0_0 l0_0.length c0_0, .slice A0_1 l0_1.length c0_1] 62 (0, 0)) (by (with_reducible repeat (first | refine blk_drewN ?_ _ | refine blk_drew ?_ | refine blk_alloc ?_ _)); exact BK170.out) hb); have n10_ := Aside0.mk (blk_below (g := gb171) (o := .cells #[.slice A1_0 l1_0.length c1_0, .slice A1_1 l1_1.length c1_1] 62 (0, 0)) (by (with_reducible repeat (first | refine blk_drewN ?_ _ | refine blk_drew ?_ | refine blk_alloc ?_ _)); exact BK171.out) hb); have n11_ := Aside0.mk (blk_below (g := gb195) (o := .cells #[.slice Ao54 t189.length co54, .slice Ao58 t192.length co58] 65 (0, 0)) (by (with_reducible repeat (first | refine blk_drewN ?_ _ | refine blk_drew ?_ | refine blk_alloc ?_ _)); exact BK195.out) hb); have n12_ := Aside0.mk (below_step (by repeat (first | (with_reducible first | exact HB.out | apply below_alloc | apply pw_below_drewN | apply below_drew1 | refine below_set ?_ GE170.out | refine below_set ?_ GE171.out | refine below_set ?_ GE195.out) | exact HB.out)) hb); have n13_ := Aside0.mk (hbox); have n14_ := Aside0.mk ((by rw [hg]; exact (below_size (by repeat (first | (with_reducible first | exact HB.out | apply below_alloc | apply pw_below_drewN | apply below_drew1 | refine below_set ?_ GE170.out | refine below_set ?_ GE171.out | refine below_set ?_ GE195.out) | exact HB.out))) : w.heap.size ≤ gb202)); have n15_ := Aside0.mk ((by rw [hg]; exact (below_size (by repeat (first | (with_reducible first | exact HB.out | apply below_alloc | apply pw_below_drewN | apply below_drew1 | refine below_set ?_ GE170.out | refine below_set ?_ GE171.out | refine below_set ?_ GE195.out) | exact HB.out))) : w.heap.size ≤ gb202)); have n16_ := Aside0.mk ((by rw [hg]; exact Nat.ne_of_lt (blk_lt (g := gb170) (o := .cells #[.slice A0_0 l0_0.length c0_0, .slice A0_1 l0_1.length c0_1] 62 (0, 0)) (by (with_reducible repeat (first | refine blk_drewN ?_ _ | refine blk_drew ?_ | refine blk_alloc ?_ _)); exact BK170.out)) : gb170 ≠ gb202)); have n17_ := Aside0.mk ((by rw [hg]; exact Nat.ne_of_gt (blk_lt (g := gb170) (o := .cells #[.slice A0_0 l0_0.length c0_0, .slice A0_1 l0_1.length c0_1] 62 (0, 0)) (by (with_reducible repeat (first | refine blk_drewN ?_ _ | refine blk_drew ?_ | refine blk_alloc ?_ _)); exact BK170.out)) : gb202 ≠ gb170)); have n18_ := Aside0.mk ((by rw [hg]; exact Nat.ne_of_lt (blk_lt (g := gb171) (o := .cells #[.slice A1_0 l1_0.length c1_0, .slice A1_1 l1_1.length c1_1] 62 (0, 0)) (by (with_reducible repeat (first | refine blk_drewN ?_ _ | refine blk_drew ?_ | refine blk_alloc ?_ _)); exact BK171.out)) : gb171 ≠ gb202)); have n19_ := Aside0.mk ((by rw [hg]; exact Nat.ne_of_gt (blk_lt (g := gb171) (o := .cells #[.slice A1_0 l1_0.length c1_0, .slice A1_1 l1_1.length c1_1] 62 (0, 0)) (by (with_reducible repeat (first | refine blk_drewN ?_ _ | refine blk_drew ?_ | refine blk_alloc ?_ _)); exact BK171.out)) : gb202 ≠ gb171)); have n20_ := Aside0.mk ((by rw [hg]; exact Nat.ne_of_lt (blk_lt (g := gb195) (o := .cells #[.slice Ao54 t189.length co54, .slice Ao58 t192.length co58] 65 (0, 0)) (by (with_reducible repeat (first | refine blk_drewN ?_ _ | refine blk_drew ?_ | refine blk_alloc ?_ _)); exact BK195.out)) : gb195 ≠ gb202)); have n21_ := Aside0.mk ((by rw [hg]; exact Nat.ne_of_gt (blk_lt (g := gb195) (o := .cells #[.slice Ao54 t189.length co54, .slice Ao58 t192.length co58] 65 (0, 0)) (by (with_reducible repeat (first | refine blk_drewN ?_ _ | refine blk_drew ?_ | refine blk_alloc ?_ _)); exact BK195.out)) : gb202 ≠ gb195)); clear HO176; clear HO179; clear HO182; clear HO185; clear HO188; clear HO191; clear HO194; clear HO198; clear HO201; clear BK170; clear BK171; clear BK195; clear HB; have HO176 := n0_; have HO179 := n1_; have HO182 := n2_; have HO185 := n3_; have HO188 := n4_; have HO191 := n5_; have HO194 := n6_; have HO198 := n7_; have HO201 := n8_; have BK170 := n9_; have BK171 := n10_; have BK195 := n11_; have HB := n12_; have BK202 := n13_; have GW202 := n14_; have GE202 := n15_; have NB170_202 := n16_; have NB202_170 := n17_; have NB171_202 := n18_; have NB202_171 := n19_; have NB195_202 := n20_; have NB202_195 := n21_; clear n0_ n1_ n2_ n3_ n4_ n5_ n6_ n7_ n8_ n9_ n10_ n11_ n12_ n13_ n14_ n15_ n16_ n17_ n18_ n19_ n20_ n21_; clear hb hbox hg; obtain ⟨Ao62, co62, eo62⟩ := Kd.R_slice HO198.out; subst eo62; have hnb63 := NB202_170.out; have hnc63 := NB170_202.out; have hnb64 := NB202_171.out; have hnc64 := NB171_202.out; have hnb65 := NB202_195.out; have hnc65 := NB195_202.out; have hcz66_0 : w61.cell? ⟨gb202, 0, none⟩ = some (.slice none 0 0) := (blk_cell BK202.out 0).trans rfl; have hcz66_1 : w61.cell? ⟨gb202, 1, none⟩ = some (.slice none 0 0) := (blk_cell BK202.out 1).trans rfl; have hfz66_0 := blk_frozen BK202.out 0; have hfz66_1 := blk_frozen BK202.out 1; obtain ⟨Ao67, co67, eo67⟩ := Kd.R_slice HO201.out; subst eo67; have hcz68_0 : w61.cell? ⟨gb195, 0, none⟩ = some (.slice Ao54 t189.length co54) := (blk_cell BK195.out 0).trans rfl; have hcz68_1 : w61.cell? ⟨gb195, 1, none⟩ = some (.slice Ao58 t192.length co58) := (blk_cell BK195.out 1).trans rfl; have hfz68_0 := blk_frozen BK195.out 0; have hfz68_1 := blk_frozen BK195.out 1) | ((with_reducible refine gate_callee (f := 59) rfl ?_); refine goesL_ (some 35) rfl rfl Try.func59 (by kernel_rfl) rfl #[.agg #[.slice Ao54 t189.length co54, .slice Ao58 t192.length co58], .agg #[.slice Ao62 t196.length co62, .slice Ao67 t199.length co67]] rfl (by (try simp only [List.map_toArray, List.map_cons, List.map_nil]); first | done | rfl | (simp only [List.length_drop, List.length_take]; rfl)) ?_; (with_reducible refine (impl_ChangedBits.calls k _ _ t189 _ _ t192 _ _ t196 _ _ t199 t203 _ ?side1 ?side2 ?side3 ?side4 ?side5 ?side6 ?side7 ?side8 A24.out).mono ?_); (case side1 => refine (Kd.R_reads' (e := 4) (base := w.heap.size) (ok := fun k_ => (((True ∧ some k_ ≠ (.slice Ao46 t174.length co46 : Value).ownBlock) ∧ some k_ ≠ (.slice Ao48 t180.length co48 : Value).ownBlock) ∧ some k_ ≠ (.slice Ao62 t196.length co62 : Value).ownBlock)) (n := t189.length) (c := co54) ?_).2.2; exact (by (with_reducible repeat (first | apply Kd.R_alloc | apply Kd.R_drewN | apply Kd.R_drew)); exact (Kd.R_mono (Kd.R_far (p := ⟨gb202, 1, none⟩) (Kd.R_far (p := ⟨gb202, 0, none⟩) (Kd.R_types HO191.out BK202.out (by decide)) (fun _ hk => hk.2) (.slice Ao62 t196.length co62)) (fun _ hk => hk.2) (.slice Ao67 t199.length co67)) (fun _ h_ => h_.1)))); (case side2 => exact (Kd.R_reads' HO191.out).2.1); (case side3 => refine (Kd.R_reads' (e := 3) (base := w.heap.size) (ok := fun k_ => ((((True ∧ some k_ ≠ (.slice Ao47 t177.length co47 : Value).ownBlock) ∧ some k_ ≠ (.slice Ao49 t183.length co49 : Value).ownBlock) ∧ some k_ ≠ (v187 : Value).ownBlock) ∧ some k_ ≠ (.slice Ao67 t199.length co67 : Value).ownBlock)) (n := t192.length) (c := co58) ?_).2.2; exact (by (with_reducible repeat (first | apply Kd.R_alloc | apply Kd.R_drewN | apply Kd.R_drew)); exact (Kd.R_mono (Kd.R_far (p := ⟨gb202, 1, none⟩) (Kd.R_far (p := ⟨gb202, 0, none⟩) (Kd.R_types HO194.out BK202.out (by decide)) (fun _ hk => hk.2) (.slice Ao62 t196.length co62)) (fun _ hk => hk.2) (.slice Ao67 t199.length co67)) (fun _ h_ => h_.1)))); (case side4 => exact (Kd.R_reads' HO194.out).2.1); (case side5 => refine (Kd.R_reads' (e := 4) (base := w.heap.size) (ok := fun k_ => (((True ∧ some k_ ≠ (.slice Ao46 t174.length co46 : Value).ownBlock) ∧ some k_ ≠ (.slice Ao48 t180.length co48 : Value).ownBlock) ∧ some k_ ≠ (.slice Ao54 t189.length co54 : Value).ownBlock)) (n := t196.length) (c := co62) ?_).2.2; exact (by (with_reducible repeat (first | apply Kd.R_alloc | apply Kd.R_drewN | apply Kd.R_drew)); exact (Kd.R_mono (Kd.R_far (p := ⟨gb202, 1, none⟩) (Kd.R_far (p := ⟨gb202, 0, none⟩) (Kd.R_types HO198.out BK202.out (by decide)) (fun _ hk => hk.2) (.slice Ao62 t196.length co62)) (fun _ hk => hk.2) (.slice Ao67 t199.length co67)) (fun _ h_ => h_.1)))); (case side6 => exact (Kd.R_reads' HO198.out).2.1); (case side7 => refine (Kd.R_reads' (e := 3) (base := w.heap.size) (ok := fun k_ => ((((True ∧ some k_ ≠ (.slice Ao47 t177.length co47 : Value).ownBlock) ∧ some k_ ≠ (.slice Ao49 t183.length co49 : Value).ownBlock) ∧ some k_ ≠ (v187 : Value).ownBlock) ∧ some k_ ≠ (.slice Ao58 t192.length co58 : Value).ownBlock)) (n := t199.length) (c := co67) ?_).2.2; exact (by (with_reducible repeat (first | apply Kd.R_alloc | apply Kd.R_drewN | apply Kd.R_drew)); exact (Kd.R_mono (Kd.R_far (p := ⟨gb202, 1, none⟩) (Kd.R_far (p := ⟨gb202, 0, none⟩) (Kd.R_types HO201.out BK202.out (by decide)) (fun _ hk => hk.2) (.slice Ao62 t196.length co62)) (fun _ hk => hk.2) (.slice Ao67 t199.length co67)) (fun _ h_ => h_.1)))); (case side8 => exact (Kd.R_reads' HO201.out).2.1); rintro e w69 ⟨v204, rfl, ho0, hb⟩; refine ⟨_, rfl, ?_⟩; have n0_ := Aside0.mk (Kd.R_below (by (with_reducible repeat (first | apply Kd.R_alloc | apply Kd.R_drewN | apply Kd.R_drew)); exact (Kd.R_mono (Kd.R_far (p := ⟨gb202, 1, none⟩) (Kd.R_far (p := ⟨gb202, 0, none⟩) (Kd.R_types HO176.out BK202.out (by decide)) (fun _ hk => hk.2) (.slice Ao62 t196.length co62)) (fun _ hk => hk.2) (.slice Ao67 t199.length co67)) (fun _ h_ => h_.1))) hb); have n1_ := Aside0.mk (Kd.R_elder' (by (with_reducible repeat (first | apply Kd.R_alloc | apply Kd.R_drewN | apply Kd.R_drew)); exact (Kd.R_mono (Kd.R_far (p := ⟨gb202, 1, none⟩) (Kd.R_far (p := ⟨gb202, 0, none⟩) (Kd.R_types HO179.out BK202.out (by decide)) (fun _ hk => hk.2) (.slice Ao62 t196.length co62)) (fun _ hk => hk.2) (.slice Ao67 t199.length co67)) (fun _ h_ => h_.1))) (Kd.Q_base ho0) hb); have n2_ := Aside0.mk (Kd.R_below (by (with_reducible repeat (first | apply Kd.R_alloc | apply Kd.R_drewN | apply Kd.R_drew)); exact (Kd.R_mono (Kd.R_far (p := ⟨gb202, 1, none⟩) (Kd.R_far (p := ⟨gb202, 0, none⟩) (Kd.R_types HO182.out BK202.out (by decide)) (fun _ hk => hk.2) (.slice Ao62 t196.length co62)) (fun _ hk => hk.2) (.slice Ao67 t199.length co67)) (fun _ h_ => h_.1))) hb); have n3_ := Aside0.mk (Kd.R_elder' (by (with_reducible repeat (first | apply Kd.R_alloc | apply Kd.R_drewN | apply Kd.R_drew)); exact (Kd.R_mono (Kd.R_far (p := ⟨gb202, 1, none⟩) (Kd.R_far (p := ⟨gb202, 0, none⟩) (Kd.R_types HO185.out BK202.out (by decide)) (fun _ hk => hk.2) (.slice Ao62 t196.length co62)) (fun _ hk => hk.2) (.slice Ao67 t199.length co67)) (fun _ h_ => h_.1))) (Kd.Q_base ho0) hb); have n4_ := Aside0.mk (Kd.R_elder' (by (with_reducible repeat (first | apply Kd.R_alloc | apply Kd.R_drewN | apply Kd.R_drew)); exact (Kd.R_mono (Kd.R_far (p := ⟨gb202, 1, none⟩) (Kd.R_far (p := ⟨gb202, 0, none⟩) (Kd.R_types HO188.out BK202.out (by decide)) (fun _ hk => hk.2) (.slice Ao62 t196.length co62)) (fun _ hk => hk.2) (.slice Ao67 t199.length co67)) (fun _ h_ => h_.1))) (Kd.Q_base ho0) hb); have n5_ := Aside0.mk (Kd.R_below (by (with_reducible repeat (first | apply Kd.R_alloc | apply Kd.R_drewN | apply Kd.R_drew)); exact (Kd.R_mono (Kd.R_far (p := ⟨gb202, 1, none⟩) (Kd.R_far (p := ⟨gb202, 0, none⟩) (Kd.R_types HO191.out BK202.out (by decide)) (fun _ hk => hk.2) (.slice Ao62 t196.length co62)) (fun _ hk => hk.2) (.slice Ao67 t199.length co67)) (fun _ h_ => h_.1))) hb); have n6_ := Aside0.mk (Kd.R_elder' (by (with_reducible repeat (first | apply Kd.R_alloc | apply Kd.R_drewN | apply Kd.R_drew)); exact (Kd.R_mono (Kd.R_far (p := ⟨gb202, 1, none⟩) (Kd.R_far (p := ⟨gb202, 0, none⟩) (Kd.R_types HO194.out BK202.out (by decide)) (fun _ hk => hk.2) (.slice Ao62 t196.length co62)) (fun _ hk => hk.2) (.slice Ao67 t199.length co67)) (fun _ h_ => h_.1))) (Kd.Q_base ho0) hb); have n7_ := Aside0.mk (Kd.R_below (by (with_reducible repeat (first | apply Kd.R_alloc | apply Kd.R_drewN | apply Kd.R_drew)); exact (Kd.R_mono (Kd.R_far (p := ⟨gb202, 1, none⟩) (Kd.R_far (p := ⟨gb202, 0, none⟩) (Kd.R_types HO198.out BK202.out (by decide)) (fun _ hk => hk.2) (.slice Ao62 t196.length co62)) (fun _ hk => hk.2) (.slice Ao67 t199.length co67)) (fun _ h_ => h_.1))) hb); have n8_ := Aside0.mk (Kd.R_elder' (by (with_reducible repeat (first | apply Kd.R_alloc | apply Kd.R_drewN | apply Kd.R_drew)); exact (Kd.R_mono (Kd.R_far (p := ⟨gb202, 1, none⟩) (Kd.R_far (p := ⟨gb202, 0, none⟩) (Kd.R_types HO201.out BK202.out (by decide)) (fun _ hk => hk.2) (.slice Ao62 t196.length co62)) (fun _ hk => hk.2) (.slice Ao67 t199.length co67)) (fun _ h_ => h_.1))) (Kd.Q_base ho0) hb); have n9_ := Aside0.mk (Kd.Q_lower (Kd.Q_new' (Kd.Q_new' (Kd.Q_new' (Kd.Q_new' (Kd.Q_new' ho0 (Kd.R_lt (by (with_reducible repeat (first | apply Kd.R_alloc | apply Kd.R_drewN | apply Kd.R_drew)); exact (Kd.R_mono (Kd.R_far (p := ⟨gb202, 1, none⟩) (Kd.R_far (p := ⟨gb202, 0, none⟩) (Kd.R_types HO179.out BK202.out (by decide)) (fun _ hk => hk.2) (.slice Ao62 t196.length co62)) (fun _ hk => hk.2) (.slice Ao67 t199.length co67)) (fun _ h_ => h_.1))))) (Kd.R_lt (by (with_reducible repeat (first | apply Kd.R_alloc | apply Kd.R_drewN | apply Kd.R_drew)); exact (Kd.R_mono (Kd.R_far (p := ⟨gb202, 1, none⟩) (Kd.R_far (p := ⟨gb202, 0, none⟩) (Kd.R_types HO185.out BK202.out (by decide)) (fun _ hk => hk.2) (.slice Ao62 t196.length co62)) (fun _ hk => hk.2) (.slice Ao67 t199.length co67)) (fun _ h_ => h_.1))))) (Kd.R_lt (by (with_reducible repeat (first | apply Kd.R_alloc | apply Kd.R_drewN | apply Kd.R_drew)); exact (Kd.R_mono (Kd.R_far (p := ⟨gb202, 1, none⟩) (Kd.R_far (p := ⟨gb202, 0, none⟩) (Kd.R_types HO188.out BK202.out (by decide)) (fun _ hk => hk.2) (.slice Ao62 t196.length co62)) (fun _ hk => hk.2) (.slice Ao67 t199.length co67)) (fun _ h_ => h_.1))))) (Kd.R_lt (by (with_reducible repeat (first | apply Kd.R_alloc | apply Kd.R_drewN | apply Kd.R_drew)); exact (Kd.R_mono (Kd.R_far (p := ⟨gb202, 1, none⟩) (Kd.R_far (p := ⟨gb202, 0, none⟩) (Kd.R_types HO194.out BK202.out (by decide)) (fun _ hk => hk.2) (.slice Ao62 t196.length co62)) (fun _ hk => hk.2) (.slice Ao67 t199.length co67)) (fun _ h_ => h_.1))))) (Kd.R_lt (by (with_reducible repeat (first | apply Kd.R_alloc | apply Kd.R_drewN | apply Kd.R_drew)); exact (Kd.R_mono (Kd.R_far (p := ⟨gb202, 1, none⟩) (Kd.R_far (p := ⟨gb202, 0, none⟩) (Kd.R_types HO201.out BK202.out (by decide)) (fun _ hk => hk.2) (.slice Ao62 t196.length co62)) (fun _ hk => hk.2) (.slice Ao67 t199.length co67)) (fun _ h_ => h_.1))))) (below_size (by repeat (first | (with_reducible first | exact HB.out | apply below_alloc | apply pw_below_drewN | apply below_drew1 | refine below_set ?_ GE170.out | refine below_set ?_ GE171.out | refine below_set ?_ GE195.out | refine below_set ?_ GE202.out) | exact HB.out)))); have n10_ := Aside0.mk (blk_below (g := gb170) (o := .cells #[.slice A0_0 l0_0.length c0_0, .slice A0_1 l0_1.length c0_1] 62 (0, 0)) (by (with_reducible repeat (first | refine blk_drewN ?_ _ | refine blk_drew ?_ | refine blk_alloc ?_ _)); refine blk_far ?_ NB170_202.out _; (with_reducible repeat (first | refine blk_drewN ?_ _ | refine blk_drew ?_ | refine blk_alloc ?_ _)); refine blk_far ?_ NB170_202.out _; (with_reducible repeat (first | refine blk_drewN ?_ _ | refine blk_drew ?_ | refine blk_alloc ?_ _)); exact BK170.out) hb); have n11_ := Aside0.mk (blk_below (g := gb171) (o := .cells #[.slice A1_0 l1_0.length c1_0, .slice A1_1 l1_1.length c1_1] 62 (0, 0)) (by (with_reducible repeat (first | refine blk_drewN ?_ _ | refine blk_drew ?_ | refine blk_alloc ?_ _)); refine blk_far ?_ NB171_202.out _; (with_reducible repeat (first | refine blk_drewN ?_ _ | refine blk_drew ?_ | refine blk_alloc ?_ _)); refine blk_far ?_ NB171_202.out _; (with_reducible repeat (first | refine blk_drewN ?_ _ | refine blk_drew ?_ | refine blk_alloc ?_ _)); exact BK171.out) hb); have n12_ := Aside0.mk (blk_below (g := gb195) (o := .cells #[.slice Ao54 t189.length co54, .slice Ao58 t192.length co58] 65 (0, 0)) (by (with_reducible repeat (first | refine blk_drewN ?_ _ | refine blk_drew ?_ | refine blk_alloc ?_ _)); refine blk_far ?_ NB195_202.out _; (with_reducible repeat (first | refine blk_drewN ?_ _ | refine blk_drew ?_ | refine blk_alloc ?_ _)); refine blk_far ?_ NB195_202.out _; (with_reducible repeat (first | refine blk_drewN ?_ _ | refine blk_drew ?_ | refine blk_alloc ?_ _)); exact BK195.out) hb); have n13_ := Aside0.mk (blk_below (g := gb202) (o := .cells #[.slice Ao62 t196.length co62, .slice Ao67 t199.length co67] 65 (0, 0)) (by (with_reducible repeat (first | refine blk_drewN ?_ _ | refine blk_drew ?_ | refine blk_alloc ?_ _)); refine blk_put (cs := #[.slice Ao62 t196.length co62, .slice none 0 0]) ?_ 1 _ rfl; (with_reducible repeat (first | refine blk_drewN ?_ _ | refine blk_drew ?_ | refine blk_alloc ?_ _)); refine blk_put (cs := #[.slice none 0 0, .slice none 0 0]) ?_ 0 _ rfl; (with_reducible repeat (first | refine blk_drewN ?_ _ | refine blk_drew ?_ | refine blk_alloc ?_ _)); exact BK202.out) hb); have n14_ := Aside0.mk (below_step (by repeat (first | (with_reducible first | exact HB.out | apply below_alloc | apply pw_below_drewN | apply below_drew1 | refine below_set ?_ GE170.out | refine below_set ?_ GE171.out | refine below_set ?_ GE195.out | refine below_set ?_ GE202.out) | exact HB.out)) hb); clear HO176; clear HO179; clear HO182; clear HO185; clear HO188; clear HO191; clear HO194; clear HO198; clear HO201; clear BK170; clear BK171; clear BK195; clear BK202; clear HB; have HO176 := n0_; have HO179 := n1_; have HO182 := n2_; have HO185 := n3_; have HO188 := n4_; have HO191 := n5_; have HO194 := n6_; have HO198 := n7_; have HO201 := n8_; have HO205 := n9_; have BK170 := n10_; have BK171 := n11_; have BK195 := n12_; have BK202 := n13_; have HB := n14_; clear n0_ n1_ n2_ n3_ n4_ n5_ n6_ n7_ n8_ n9_ n10_ n11_ n12_ n13_ n14_; (try clear hb); (try clear hb2); (try clear hk); (try clear hi); (try clear ho0); obtain ⟨Ao70, co70, eo70, _⟩ := Kd.Q_slice HO205.out; subst eo70; obtain ⟨Ao71, co71, eo71⟩ := Kd.R_slice HO188.out; subst eo71) | ((with_reducible refine gate_callee (f := 19) rfl ?_); refine goesL_ (some 38) rfl rfl Try.func19 (by kernel_rfl) rfl #[.slice Ao70 t203.length co70, .slice Ao71 t186.length co71] rfl (by (try simp only [List.map_toArray, List.map_cons, List.map_nil]); first | done | rfl | (simp only [List.length_drop, List.length_take]; rfl)) ?_; (with_reducible refine (laws_eqIntS.calls k _ _ t203 _ _ t186 true _ ?side1 ?side2 ?side3 ?side4 A25.out).mono ?_); (case side1 => repeat (first | exact (Kd.Q_reads' HO205.out).2.2 | (with_reducible refine Kd.C_alloc ?_ _) | (with_reducible refine Kd.C_drewN ?_ _) | (with_reducible refine Kd.C_drew ?_))); (case side2 => exact (Kd.Q_reads' HO205.out).2.1); (case side3 => repeat (first | exact (Kd.R_reads' HO188.out).2.2 | (with_reducible refine Kd.C_alloc ?_ _) | (with_reducible refine Kd.C_drewN ?_ _) | (with_reducible refine Kd.C_drew ?_))); (case side4 => exact (Kd.R_reads' HO188.out).2.1); rintro e w' ⟨rfl, ⟨nd, rfl⟩⟩; refine ⟨_, rfl, ?_⟩))
            (try (rw [drewN_self w69]; generalize hq_ : World.drewN w69 _ = w69; have n0_ : Aside0 (Kd.R Kd.bool 4 w69 w.heap.size (fun k_ => (((True ∧ some k_ ≠ (.slice Ao48 t180.length co48 : Value).ownBlock) ∧ some k_ ≠ (.slice Ao54 t189.length co54 : Value).ownBlock) ∧ some k_ ≠ (.slice Ao62 t196.length co62 : Value).ownBlock)) (.slice Ao46 t174.length co46) t174) := ⟨by rw [← hq_]; exact (by (with_reducible repeat (first | apply Kd.R_alloc | apply Kd.R_drewN | apply Kd.R_drew)); exact HO176.out)⟩; have n1_ : Aside0 (Kd.R (Kd.int .i64) 3 w69 w.heap.size (fun k_ => (((((True ∧ some k_ ≠ (.slice Ao49 t183.length co49 : Value).ownBlock) ∧ some k_ ≠ (.slice Ao71 t186.length co71 : Value).ownBlock) ∧ some k_ ≠ (.slice Ao58 t192.length co58 : Value).ownBlock) ∧ some k_ ≠ (.slice Ao67 t199.length co67 : Value).ownBlock) ∧ some k_ ≠ (.slice Ao70 t203.length co70 : Value).ownBlock)) (.slice Ao47 t177.length co47) t177) := ⟨by rw [← hq_]; exact (by (with_reducible repeat (first | apply Kd.R_alloc | apply Kd.R_drewN | apply Kd.R_drew)); exact HO179.out)⟩; have n2_ : Aside0 (Kd.R Kd.bool 4 w69 w.heap.size (fun k_ => (((True ∧ some k_ ≠ (.slice Ao46 t174.length co46 : Value).ownBlock) ∧ some k_ ≠ (.slice Ao54 t189.length co54 : Value).ownBlock) ∧ some k_ ≠ (.slice Ao62 t196.length co62 : Value).ownBlock)) (.slice Ao48 t180.length co48) t180) := ⟨by rw [← hq_]; exact (by (with_reducible repeat (first | apply Kd.R_alloc | apply Kd.R_drewN | apply Kd.R_drew)); exact HO182.out)⟩; have n3_ : Aside0 (Kd.R (Kd.int .i64) 3 w69 w.heap.size (fun k_ => (((((True ∧ some k_ ≠ (.slice Ao47 t177.length co47 : Value).ownBlock) ∧ some k_ ≠ (.slice Ao71 t186.length co71 : Value).ownBlock) ∧ some k_ ≠ (.slice Ao58 t192.length co58 : Value).ownBlock) ∧ some k_ ≠ (.slice Ao67 t199.length co67 : Value).ownBlock) ∧ some k_ ≠ (.slice Ao70 t203.length co70 : Value).ownBlock)) (.slice Ao49 t183.length co49) t183) := ⟨by rw [← hq_]; exact (by (with_reducible repeat (first | apply Kd.R_alloc | apply Kd.R_drewN | apply Kd.R_drew)); exact HO185.out)⟩; have n4_ : Aside0 (Kd.R (Kd.int .i64) 3 w69 w.heap.size (fun k_ => (((((True ∧ some k_ ≠ (.slice Ao47 t177.length co47 : Value).ownBlock) ∧ some k_ ≠ (.slice Ao49 t183.length co49 : Value).ownBlock) ∧ some k_ ≠ (.slice Ao58 t192.length co58 : Value).ownBlock) ∧ some k_ ≠ (.slice Ao67 t199.length co67 : Value).ownBlock) ∧ some k_ ≠ (.slice Ao70 t203.length co70 : Value).ownBlock)) (.slice Ao71 t186.length co71) t186) := ⟨by rw [← hq_]; exact (by (with_reducible repeat (first | apply Kd.R_alloc | apply Kd.R_drewN | apply Kd.R_drew)); exact HO188.out)⟩; have n5_ : Aside0 (Kd.R Kd.bool 4 w69 w.heap.size (fun k_ => (((True ∧ some k_ ≠ (.slice Ao46 t174.length co46 : Value).ownBlock) ∧ some k_ ≠ (.slice Ao48 t180.length co48 : Value).ownBlock) ∧ some k_ ≠ (.slice Ao62 t196.length co62 : Value).ownBlock)) (.slice Ao54 t189.length co54) t189) := ⟨by rw [← hq_]; exact (by (with_reducible repeat (first | apply Kd.R_alloc | apply Kd.R_drewN | apply Kd.R_drew)); exact HO191.out)⟩; have n6_ : Aside0 (Kd.R (Kd.int .i64) 3 w69 w.heap.size (fun k_ => (((((True ∧ some k_ ≠ (.slice Ao47 t177.length co47 : Value).ownBlock) ∧ some k_ ≠ (.slice Ao49 t183.length co49 : Value).ownBlock) ∧ some k_ ≠ (.slice Ao71 t186.length co71 : Value).ownBlock) ∧ some k_ ≠ (.slice Ao67 t199.length co67 : Value).ownBlock) ∧ some k_ ≠ (.slice Ao70 t203.length co70 : Value).ownBlock)) (.slice Ao58 t192.length co58) t192) := ⟨by rw [← hq_]; exact (by (with_reducible repeat (first | apply Kd.R_alloc | apply Kd.R_drewN | apply Kd.R_drew)); exact HO194.out)⟩; have n7_ : Aside0 (Kd.R Kd.bool 4 w69 w.heap.size (fun k_ => (((True ∧ some k_ ≠ (.slice Ao46 t174.length co46 : Value).ownBlock) ∧ some k_ ≠ (.slice Ao48 t180.length co48 : Value).ownBlock) ∧ some k_ ≠ (.slice Ao54 t189.length co54 : Value).ownBlock)) (.slice Ao62 t196.length co62) t196) := ⟨by rw [← hq_]; exact (by (with_reducible repeat (first | apply Kd.R_alloc | apply Kd.R_drewN | apply Kd.R_drew)); exact HO198.out)⟩; have n8_ : Aside0 (Kd.R (Kd.int .i64) 3 w69 w.heap.size (fun k_ => (((((True ∧ some k_ ≠ (.slice Ao47 t177.length co47 : Value).ownBlock) ∧ some k_ ≠ (.slice Ao49 t183.length co49 : Value).ownBlock) ∧ some k_ ≠ (.slice Ao71 t186.length co71 : Value).ownBlock) ∧ some k_ ≠ (.slice Ao58 t192.length co58 : Value).ownBlock) ∧ some k_ ≠ (.slice Ao70 t203.length co70 : Value).ownBlock)) (.slice Ao67 t199.length co67) t199) := ⟨by rw [← hq_]; exact (by (with_reducible repeat (first | apply Kd.R_alloc | apply Kd.R_drewN | apply Kd.R_drew)); exact HO201.out)⟩; have n9_ : Aside0 (Kd.Q (Kd.int .i64) 3 w69 w.heap.size (fun k_ => (((((True ∧ some k_ ≠ (.slice Ao47 t177.length co47 : Value).ownBlock) ∧ some k_ ≠ (.slice Ao49 t183.length co49 : Value).ownBlock) ∧ some k_ ≠ (.slice Ao71 t186.length co71 : Value).ownBlock) ∧ some k_ ≠ (.slice Ao58 t192.length co58 : Value).ownBlock) ∧ some k_ ≠ (.slice Ao67 t199.length co67 : Value).ownBlock)) (.slice Ao70 t203.length co70) t203) := ⟨by rw [← hq_]; exact (by (with_reducible repeat (first | apply Kd.Q_alloc | apply Kd.Q_drewN | apply Kd.Q_drew)); exact HO205.out)⟩; have n10_ : Aside0 (w69.heap[gb170]? = some (.cells #[.slice A0_0 l0_0.length c0_0, .slice A0_1 l0_1.length c0_1] 62 (0, 0))) := ⟨by rw [← hq_]; exact (by (with_reducible repeat (first | refine blk_drewN ?_ _ | refine blk_drew ?_ | refine blk_alloc ?_ _)); exact BK170.out)⟩; have n11_ : Aside0 (w69.heap[gb171]? = some (.cells #[.slice A1_0 l1_0.length c1_0, .slice A1_1 l1_1.length c1_1] 62 (0, 0))) := ⟨by rw [← hq_]; exact (by (with_reducible repeat (first | refine blk_drewN ?_ _ | refine blk_drew ?_ | refine blk_alloc ?_ _)); exact BK171.out)⟩; have n12_ : Aside0 (w69.heap[gb195]? = some (.cells #[.slice Ao54 t189.length co54, .slice Ao58 t192.length co58] 65 (0, 0))) := ⟨by rw [← hq_]; exact (by (with_reducible repeat (first | refine blk_drewN ?_ _ | refine blk_drew ?_ | refine blk_alloc ?_ _)); exact BK195.out)⟩; have n13_ : Aside0 (w69.heap[gb202]? = some (.cells #[.slice Ao62 t196.length co62, .slice Ao67 t199.length co67] 65 (0, 0))) := ⟨by rw [← hq_]; exact (by (with_reducible repeat (first | refine blk_drewN ?_ _ | refine blk_drew ?_ | refine blk_alloc ?_ _)); exact BK202.out)⟩; have n14_ : Aside0 (Below w.heap.size w w69) := ⟨by rw [← hq_]; exact (by repeat (first | (with_reducible first | exact HB.out | apply below_alloc | apply pw_below_drewN | apply below_drew1 | refine below_set ?_ GE170.out | refine below_set ?_ GE171.out | refine below_set ?_ GE195.out | refine below_set ?_ GE202.out) | exact HB.out))⟩; clear HO176 HO179 HO182 HO185 HO188 HO191 HO194 HO198 HO201 HO205 BK170 BK171 BK195 BK202 HB hq_; have HO176 := n0_; have HO179 := n1_; have HO182 := n2_; have HO185 := n3_; have HO188 := n4_; have HO191 := n5_; have HO194 := n6_; have HO198 := n7_; have HO201 := n8_; have HO205 := n9_; have BK170 := n10_; have BK171 := n11_; have BK195 := n12_; have BK202 := n13_; have HB := n14_; clear n0_ n1_ n2_ n3_ n4_ n5_ n6_ n7_ n8_ n9_ n10_ n11_ n12_ n13_ n14_))
            have n0_ := Aside0.mk (Kd.R_drew HO176.out)
            have n1_ := Aside0.mk (Kd.R_drew HO179.out)
            have n2_ := Aside0.mk (Kd.R_drew HO182.out)
            have n3_ := Aside0.mk (Kd.R_drew HO185.out)
            have n4_ := Aside0.mk (Kd.R_drew HO188.out)
            have n5_ := Aside0.mk (Kd.R_drew HO191.out)
            have n6_ := Aside0.mk (Kd.R_drew HO194.out)
            have n7_ := Aside0.mk (Kd.R_drew HO198.out)
            have n8_ := Aside0.mk (Kd.R_drew HO201.out)
            have n9_ := Aside0.mk (Kd.Q_drew HO205.out)
            have n10_ := Aside0.mk (blk_drew BK170.out)
            have n11_ := Aside0.mk (blk_drew BK171.out)
            have n12_ := Aside0.mk (blk_drew BK195.out)
            have n13_ := Aside0.mk (blk_drew BK202.out)
            have n14_ := Aside0.mk (below_drew1 HB.out)
            clear HO176
            clear HO179
            clear HO182
            clear HO185
            clear HO188
            clear HO191
            clear HO194
            clear HO198
            clear HO201
            clear HO205
            clear BK170
            clear BK171
            clear BK195
            clear BK202
            clear HB
            have HO176 := n0_
            have HO179 := n1_
            have HO182 := n2_
            have HO185 := n3_
            have HO188 := n4_
            have HO191 := n5_
            have HO194 := n6_
            have HO198 := n7_
            have HO201 := n8_
            have HO205 := n9_
            have BK170 := n10_
            have BK171 := n11_
            have BK195 := n12_
            have BK202 := n13_
            have HB := n14_
            clear n0_ n1_ n2_ n3_ n4_ n5_ n6_ n7_ n8_ n9_ n10_ n11_ n12_ n13_ n14_
            refine start_ (n := 5) (S := fun w' => w'.cell? ⟨gb195, 0, none⟩ = some (.slice Ao54 t189.length co54) ∧ w'.cell? ⟨gb195, 1, none⟩ = some (.slice Ao58 t192.length co58) ∧ w'.cell? ⟨gb170, 0, none⟩ = some (.slice A0_0 l0_0.length c0_0) ∧ w'.cell? ⟨gb170, 1, none⟩ = some (.slice A0_1 l0_1.length c0_1)) (ds := []) #[false, false, false, false, false] (by kernel_rfl) rfl rfl ⟨(blk_cell BK195.out 0).trans rfl, (blk_cell BK195.out 1).trans rfl, (blk_cell BK170.out 0).trans rfl, (blk_cell BK170.out 1).trans rfl⟩ (fun hHeld => ?_)
            generalize w69.drew = w72 at HO176 HO179 HO182 HO185 HO188 HO191 HO194 HO198 HO201 HO205 BK170 BK171 BK195 BK202 HB hHeld ⊢
            refine take_ (i := 0) (N := some 40) (v := ?_) (a' := ?_) #[true, false, false, false, false] rfl rfl (by kernel_rfl) (fun _ _ _ h => h) (Or.inl ⟨by rfl, ?_⟩) hHeld ?_ ?_
            rotate_left
            · rintro w' ⟨s0, s1, s2, s3⟩
              go_simp
              with_reducible rfl
            rotate_left
            · simp only [Act.put, List.setIfInBounds_toArray, List.set_cons_zero, List.set_cons_succ, i64_w, i32_w]
              rfl
            refine take_ (i := 1) (N := some 41) (v := ?_) (a' := ?_) #[true, true, false, false, false] rfl rfl (by kernel_rfl) (fun _ _ _ h => h) (Or.inl ⟨by rfl, ?_⟩) hHeld ?_ ?_
            rotate_left
            · rintro w' ⟨s0, s1, s2, s3⟩
              go_simp
              with_reducible rfl
            rotate_left
            · simp only [Act.put, List.setIfInBounds_toArray, List.set_cons_zero, List.set_cons_succ, i64_w, i32_w]
              rfl
            refine one_ (i := 2) (N := some 42) #[true, true, true, false, false] rfl rfl (by kernel_rfl) (by decide) (fun K hK => ?_)
            refine goes_ Try.func53 (by kernel_rfl) rfl #[.agg #[.slice A0_0 l0_0.length c0_0, .slice A0_1 l0_1.length c0_1]] (by rfl) rfl rfl (by (try simp only [List.map_toArray, List.map_cons, List.map_nil]); first | done | rfl | (simp only [List.length_drop, List.length_take]; rfl)) ?_
            with_reducible refine (laws_toImage.calls k _ _ l0_0 _ _ l0_1 t207 t210 _ ?side1 ?side2 ?side3 ?side4 A27.out).mono ?_
            (case side1 => repeat (first | exact (Kd.C_below HR0_0.out HB.out) | (with_reducible refine Kd.C_alloc ?_ _) | (with_reducible refine Kd.C_drewN ?_ _) | (with_reducible refine Kd.C_drew ?_)))
            (case side2 => exact HC0_0.out)
            (case side3 => repeat (first | exact (Kd.C_below HR0_1.out HB.out) | (with_reducible refine Kd.C_alloc ?_ _) | (with_reducible refine Kd.C_drewN ?_ _) | (with_reducible refine Kd.C_drew ?_)))
            (case side4 => exact HC0_1.out)
            rintro e w73 ⟨v208, v211, rfl, ho0, ho1, hb⟩
            refine ⟨_, rfl, ?_⟩
            have n0_ := Aside0.mk (Kd.R_elder' (by (with_reducible repeat (first | apply Kd.R_alloc | apply Kd.R_drewN | apply Kd.R_drew)); exact HO176.out) (Kd.R_base ho0) hb)
            have n1_ := Aside0.mk (Kd.R_elder' (by (with_reducible repeat (first | apply Kd.R_alloc | apply Kd.R_drewN | apply Kd.R_drew)); exact HO179.out) (Kd.R_base ho1) hb)
            have n2_ := Aside0.mk (Kd.R_elder' (by (with_reducible repeat (first | apply Kd.R_alloc | apply Kd.R_drewN | apply Kd.R_drew)); exact HO182.out) (Kd.R_base ho0) hb)
            have n3_ := Aside0.mk (Kd.R_elder' (by (with_reducible repeat (first | apply Kd.R_alloc | apply Kd.R_drewN | apply Kd.R_drew)); exact HO185.out) (Kd.R_base ho1) hb)
            have n4_ := Aside0.mk (Kd.R_elder' (by (with_reducible repeat (first | apply Kd.R_alloc | apply Kd.R_drewN | apply Kd.R_drew)); exact HO188.out) (Kd.R_base ho1) hb)
            have n5_ := Aside0.mk (Kd.R_elder' (by (with_reducible repeat (first | apply Kd.R_alloc | apply Kd.R_drewN | apply Kd.R_drew)); exact HO191.out) (Kd.R_base ho0) hb)
            have n6_ := Aside0.mk (Kd.R_elder' (by (with_reducible repeat (first | apply Kd.R_alloc | apply Kd.R_drewN | apply Kd.R_drew)); exact HO194.out) (Kd.R_base ho1) hb)
            have n7_ := Aside0.mk (Kd.R_elder' (by (with_reducible repeat (first | apply Kd.R_alloc | apply Kd.R_drewN | apply Kd.R_drew)); exact HO198.out) (Kd.R_base ho0) hb)
            have n8_ := Aside0.mk (Kd.R_elder' (by (with_reducible repeat (first | apply Kd.R_alloc | apply Kd.R_drewN | apply Kd.R_drew)); exact HO201.out) (Kd.R_base ho1) hb)
            have n9_ := Aside0.mk (Kd.Q_elder' (by (with_reducible repeat (first | apply Kd.Q_alloc | apply Kd.Q_drewN | apply Kd.Q_drew)); exact HO205.out) (Kd.R_base ho1) hb)
            have n10_ := Aside0.mk (Kd.R_lower (Kd.R_new' (Kd.R_new' (Kd.R_new' (Kd.R_new' ho0 (Kd.R_lt (by (with_reducible repeat (first | apply Kd.R_alloc | apply Kd.R_drewN | apply Kd.R_drew)); exact HO176.out))) (Kd.R_lt (by (with_reducible repeat (first | apply Kd.R_alloc | apply Kd.R_drewN | apply Kd.R_drew)); exact HO182.out))) (Kd.R_lt (by (with_reducible repeat (first | apply Kd.R_alloc | apply Kd.R_drewN | apply Kd.R_drew)); exact HO191.out))) (Kd.R_lt (by (with_reducible repeat (first | apply Kd.R_alloc | apply Kd.R_drewN | apply Kd.R_drew)); exact HO198.out))) (below_size (by repeat (first | (with_reducible first | exact HB.out | apply below_alloc | apply pw_below_drewN | apply below_drew1 | refine below_set ?_ GE170.out | refine below_set ?_ GE171.out | refine below_set ?_ GE195.out | refine below_set ?_ GE202.out) | exact HB.out))))
            have n11_ := Aside0.mk (Kd.R_lower (Kd.R_new' (Kd.R_new' (Kd.R_new' (Kd.R_new' (Kd.R_new' (Kd.R_new' ho1 (Kd.R_lt (by (with_reducible repeat (first | apply Kd.R_alloc | apply Kd.R_drewN | apply Kd.R_drew)); exact HO179.out))) (Kd.R_lt (by (with_reducible repeat (first | apply Kd.R_alloc | apply Kd.R_drewN | apply Kd.R_drew)); exact HO185.out))) (Kd.R_lt (by (with_reducible repeat (first | apply Kd.R_alloc | apply Kd.R_drewN | apply Kd.R_drew)); exact HO188.out))) (Kd.R_lt (by (with_reducible repeat (first | apply Kd.R_alloc | apply Kd.R_drewN | apply Kd.R_drew)); exact HO194.out))) (Kd.R_lt (by (with_reducible repeat (first | apply Kd.R_alloc | apply Kd.R_drewN | apply Kd.R_drew)); exact HO201.out))) (Kd.Q_lt (by (with_reducible repeat (first | apply Kd.Q_alloc | apply Kd.Q_drewN | apply Kd.Q_drew)); exact HO205.out))) (below_size (by repeat (first | (with_reducible first | exact HB.out | apply below_alloc | apply pw_below_drewN | apply below_drew1 | refine below_set ?_ GE170.out | refine below_set ?_ GE171.out | refine below_set ?_ GE195.out | refine below_set ?_ GE202.out) | exact HB.out))))
            have n12_ := Aside0.mk (blk_below (g := gb170) (o := .cells #[.slice A0_0 l0_0.length c0_0, .slice A0_1 l0_1.length c0_1] 62 (0, 0)) (by (with_reducible repeat (first | refine blk_drewN ?_ _ | refine blk_drew ?_ | refine blk_alloc ?_ _)); exact BK170.out) hb)
            have n13_ := Aside0.mk (blk_below (g := gb171) (o := .cells #[.slice A1_0 l1_0.length c1_0, .slice A1_1 l1_1.length c1_1] 62 (0, 0)) (by (with_reducible repeat (first | refine blk_drewN ?_ _ | refine blk_drew ?_ | refine blk_alloc ?_ _)); exact BK171.out) hb)
            have n14_ := Aside0.mk (blk_below (g := gb195) (o := .cells #[.slice Ao54 t189.length co54, .slice Ao58 t192.length co58] 65 (0, 0)) (by (with_reducible repeat (first | refine blk_drewN ?_ _ | refine blk_drew ?_ | refine blk_alloc ?_ _)); exact BK195.out) hb)
            have n15_ := Aside0.mk (blk_below (g := gb202) (o := .cells #[.slice Ao62 t196.length co62, .slice Ao67 t199.length co67] 65 (0, 0)) (by (with_reducible repeat (first | refine blk_drewN ?_ _ | refine blk_drew ?_ | refine blk_alloc ?_ _)); exact BK202.out) hb)
            have n16_ := Aside0.mk (below_step (by repeat (first | (with_reducible first | exact HB.out | apply below_alloc | apply pw_below_drewN | apply below_drew1 | refine below_set ?_ GE170.out | refine below_set ?_ GE171.out | refine below_set ?_ GE195.out | refine below_set ?_ GE202.out) | exact HB.out)) hb)
            clear HO176
            clear HO179
            clear HO182
            clear HO185
            clear HO188
            clear HO191
            clear HO194
            clear HO198
            clear HO201
            clear HO205
            clear BK170
            clear BK171
            clear BK195
            clear BK202
            clear HB
            have HO176 := n0_
            have HO179 := n1_
            have HO182 := n2_
            have HO185 := n3_
            have HO188 := n4_
            have HO191 := n5_
            have HO194 := n6_
            have HO198 := n7_
            have HO201 := n8_
            have HO205 := n9_
            have HO209 := n10_
            have HO212 := n11_
            have BK170 := n12_
            have BK171 := n13_
            have BK195 := n14_
            have BK202 := n15_
            have HB := n16_
            clear n0_ n1_ n2_ n3_ n4_ n5_ n6_ n7_ n8_ n9_ n10_ n11_ n12_ n13_ n14_ n15_ n16_
            (try clear hb)
            (try clear hb2)
            (try clear hk)
            (try clear hi)
            (try clear ho0)
            (try clear ho1)
            obtain ⟨Ao74, co74, eo74⟩ := Kd.R_slice HO209.out
            (first | subst eo74 | (injection eo74 with f1_ f2_ f3_; have f4_ := f1_.symm; have f5_ := f3_.symm; clear f1_ f2_ f3_; subst f4_; subst f5_))
            obtain ⟨Ao75, co75, eo75⟩ := Kd.R_slice HO212.out
            (first | subst eo75 | (injection eo75 with f1_ f2_ f3_; have f4_ := f1_.symm; have f5_ := f3_.symm; clear f1_ f2_ f3_; subst f4_; subst f5_))
            refine hK.out _ _ ⟨(blk_cell BK195.out 0).trans rfl, (blk_cell BK195.out 1).trans rfl, (blk_cell BK170.out 0).trans rfl, (blk_cell BK170.out 1).trans rfl⟩ (fun hHeld => ?_)
            clear hK K
            refine norm_ (a' := ?_) ?_ ?_
            rotate_left
            · show Act.put _ (some 42) _ = _
              simp only [Act.put, List.setIfInBounds_toArray, List.set_cons_zero, List.set_cons_succ, i64_w, i32_w]
              rfl
            refine one_ (i := 3) (N := some 43) #[true, true, true, true, false] rfl rfl (by kernel_rfl) (by decide) (fun K hK => ?_)
            refine goes_ Try.func55 (by kernel_rfl) rfl #[.agg #[.slice Ao54 t189.length co54, .slice Ao58 t192.length co58], .agg #[.slice Ao74 t207.length co74, .slice Ao75 t210.length co75]] (by rfl) rfl rfl (by (try simp only [List.map_toArray, List.map_cons, List.map_nil]); first | done | rfl | (simp only [List.length_drop, List.length_take]; rfl)) ?_
            with_reducible refine (laws_eqImage.calls k _ _ t189 _ _ t192 _ _ t207 _ _ t210 true _ ?side1 ?side2 ?side3 ?side4 ?side5 ?side6 ?side7 ?side8 A28.out).mono ?_
            (case side1 => repeat (first | exact (Kd.R_reads' HO191.out).2.2 | (with_reducible refine Kd.C_alloc ?_ _) | (with_reducible refine Kd.C_drewN ?_ _) | (with_reducible refine Kd.C_drew ?_)))
            (case side2 => exact (Kd.R_reads' HO191.out).2.1)
            (case side3 => repeat (first | exact (Kd.R_reads' HO194.out).2.2 | (with_reducible refine Kd.C_alloc ?_ _) | (with_reducible refine Kd.C_drewN ?_ _) | (with_reducible refine Kd.C_drew ?_)))
            (case side4 => exact (Kd.R_reads' HO194.out).2.1)
            (case side5 => repeat (first | exact (Kd.R_reads' HO209.out).2.2 | (with_reducible refine Kd.C_alloc ?_ _) | (with_reducible refine Kd.C_drewN ?_ _) | (with_reducible refine Kd.C_drew ?_)))
            (case side6 => exact (Kd.R_reads' HO209.out).2.1)
            (case side7 => repeat (first | exact (Kd.R_reads' HO212.out).2.2 | (with_reducible refine Kd.C_alloc ?_ _) | (with_reducible refine Kd.C_drewN ?_ _) | (with_reducible refine Kd.C_drew ?_)))
            (case side8 => exact (Kd.R_reads' HO212.out).2.1)
            rintro e w76 ⟨rfl, hb⟩
            refine ⟨_, rfl, ?_⟩
            have n0_ := Aside0.mk (Kd.R_below (by (with_reducible repeat (first | apply Kd.R_alloc | apply Kd.R_drewN | apply Kd.R_drew)); exact HO176.out) hb)
            have n1_ := Aside0.mk (Kd.R_below (by (with_reducible repeat (first | apply Kd.R_alloc | apply Kd.R_drewN | apply Kd.R_drew)); exact HO179.out) hb)
            have n2_ := Aside0.mk (Kd.R_below (by (with_reducible repeat (first | apply Kd.R_alloc | apply Kd.R_drewN | apply Kd.R_drew)); exact HO182.out) hb)
            have n3_ := Aside0.mk (Kd.R_below (by (with_reducible repeat (first | apply Kd.R_alloc | apply Kd.R_drewN | apply Kd.R_drew)); exact HO185.out) hb)
            have n4_ := Aside0.mk (Kd.R_below (by (with_reducible repeat (first | apply Kd.R_alloc | apply Kd.R_drewN | apply Kd.R_drew)); exact HO188.out) hb)
            have n5_ := Aside0.mk (Kd.R_below (by (with_reducible repeat (first | apply Kd.R_alloc | apply Kd.R_drewN | apply Kd.R_drew)); exact HO191.out) hb)
            have n6_ := Aside0.mk (Kd.R_below (by (with_reducible repeat (first | apply Kd.R_alloc | apply Kd.R_drewN | apply Kd.R_drew)); exact HO194.out) hb)
            have n7_ := Aside0.mk (Kd.R_below (by (with_reducible repeat (first | apply Kd.R_alloc | apply Kd.R_drewN | apply Kd.R_drew)); exact HO198.out) hb)
            have n8_ := Aside0.mk (Kd.R_below (by (with_reducible repeat (first | apply Kd.R_alloc | apply Kd.R_drewN | apply Kd.R_drew)); exact HO201.out) hb)
            have n9_ := Aside0.mk (Kd.Q_below (by (with_reducible repeat (first | apply Kd.Q_alloc | apply Kd.Q_drewN | apply Kd.Q_drew)); exact HO205.out) hb)
            have n10_ := Aside0.mk (Kd.R_below (by (with_reducible repeat (first | apply Kd.R_alloc | apply Kd.R_drewN | apply Kd.R_drew)); exact HO209.out) hb)
            have n11_ := Aside0.mk (Kd.R_below (by (with_reducible repeat (first | apply Kd.R_alloc | apply Kd.R_drewN | apply Kd.R_drew)); exact HO212.out) hb)
            have n12_ := Aside0.mk (blk_below (g := gb170) (o := .cells #[.slice A0_0 l0_0.length c0_0, .slice A0_1 l0_1.length c0_1] 62 (0, 0)) (by (with_reducible repeat (first | refine blk_drewN ?_ _ | refine blk_drew ?_ | refine blk_alloc ?_ _)); exact BK170.out) hb)
            have n13_ := Aside0.mk (blk_below (g := gb171) (o := .cells #[.slice A1_0 l1_0.length c1_0, .slice A1_1 l1_1.length c1_1] 62 (0, 0)) (by (with_reducible repeat (first | refine blk_drewN ?_ _ | refine blk_drew ?_ | refine blk_alloc ?_ _)); exact BK171.out) hb)
            have n14_ := Aside0.mk (blk_below (g := gb195) (o := .cells #[.slice Ao54 t189.length co54, .slice Ao58 t192.length co58] 65 (0, 0)) (by (with_reducible repeat (first | refine blk_drewN ?_ _ | refine blk_drew ?_ | refine blk_alloc ?_ _)); exact BK195.out) hb)
            have n15_ := Aside0.mk (blk_below (g := gb202) (o := .cells #[.slice Ao62 t196.length co62, .slice Ao67 t199.length co67] 65 (0, 0)) (by (with_reducible repeat (first | refine blk_drewN ?_ _ | refine blk_drew ?_ | refine blk_alloc ?_ _)); exact BK202.out) hb)
            have n16_ := Aside0.mk (below_step (by repeat (first | (with_reducible first | exact HB.out | apply below_alloc | apply pw_below_drewN | apply below_drew1 | refine below_set ?_ GE170.out | refine below_set ?_ GE171.out | refine below_set ?_ GE195.out | refine below_set ?_ GE202.out) | exact HB.out)) hb)
            clear HO176
            clear HO179
            clear HO182
            clear HO185
            clear HO188
            clear HO191
            clear HO194
            clear HO198
            clear HO201
            clear HO205
            clear HO209
            clear HO212
            clear BK170
            clear BK171
            clear BK195
            clear BK202
            clear HB
            have HO176 := n0_
            have HO179 := n1_
            have HO182 := n2_
            have HO185 := n3_
            have HO188 := n4_
            have HO191 := n5_
            have HO194 := n6_
            have HO198 := n7_
            have HO201 := n8_
            have HO205 := n9_
            have HO209 := n10_
            have HO212 := n11_
            have BK170 := n12_
            have BK171 := n13_
            have BK195 := n14_
            have BK202 := n15_
            have HB := n16_
            clear n0_ n1_ n2_ n3_ n4_ n5_ n6_ n7_ n8_ n9_ n10_ n11_ n12_ n13_ n14_ n15_ n16_
            (try clear hb)
            (try clear hb2)
            (try clear hk)
            (try clear hi)
            refine hK.out _ _ ⟨(blk_cell BK195.out 0).trans rfl, (blk_cell BK195.out 1).trans rfl, (blk_cell BK170.out 0).trans rfl, (blk_cell BK170.out 1).trans rfl⟩ (fun hHeld => ?_)
            clear hK K
            refine norm_ (a' := ?_) ?_ ?_
            rotate_left
            · show Act.put _ (some 43) _ = _
              simp only [Act.put, List.setIfInBounds_toArray, List.set_cons_zero, List.set_cons_succ, i64_w, i32_w]
              rfl
            refine pure_ (i := 4) (N := some 44) (v := ?_) (a' := ?_) #[true, true, true, true, true] rfl rfl (by kernel_rfl) (fun _ _ _ h => h) (Or.inl ⟨by rfl, ?_⟩) ?_ ?_
            rotate_left
            · intro w'
              go_simp
              with_reducible rfl
            rotate_left
            · simp only [Act.put, List.setIfInBounds_toArray, List.set_cons_zero, List.set_cons_succ, i64_w, i32_w]
              rfl
            refine done_ (by kernel_rfl) ?_
            try go_wp2
            have n0_ := Aside0.mk (Kd.R_drew HO176.out)
            have n1_ := Aside0.mk (Kd.R_drew HO179.out)
            have n2_ := Aside0.mk (Kd.R_drew HO182.out)
            have n3_ := Aside0.mk (Kd.R_drew HO185.out)
            have n4_ := Aside0.mk (Kd.R_drew HO188.out)
            have n5_ := Aside0.mk (Kd.R_drew HO191.out)
            have n6_ := Aside0.mk (Kd.R_drew HO194.out)
            have n7_ := Aside0.mk (Kd.R_drew HO198.out)
            have n8_ := Aside0.mk (Kd.R_drew HO201.out)
            have n9_ := Aside0.mk (Kd.Q_drew HO205.out)
            have n10_ := Aside0.mk (Kd.R_drew HO209.out)
            have n11_ := Aside0.mk (Kd.R_drew HO212.out)
            have n12_ := Aside0.mk (blk_drew BK170.out)
            have n13_ := Aside0.mk (blk_drew BK171.out)
            have n14_ := Aside0.mk (blk_drew BK195.out)
            have n15_ := Aside0.mk (blk_drew BK202.out)
            have n16_ := Aside0.mk (below_drew1 HB.out)
            clear HO176
            clear HO179
            clear HO182
            clear HO185
            clear HO188
            clear HO191
            clear HO194
            clear HO198
            clear HO201
            clear HO205
            clear HO209
            clear HO212
            clear BK170
            clear BK171
            clear BK195
            clear BK202
            clear HB
            have HO176 := n0_
            have HO179 := n1_
            have HO182 := n2_
            have HO185 := n3_
            have HO188 := n4_
            have HO191 := n5_
            have HO194 := n6_
            have HO198 := n7_
            have HO201 := n8_
            have HO205 := n9_
            have HO209 := n10_
            have HO212 := n11_
            have BK170 := n12_
            have BK171 := n13_
            have BK195 := n14_
            have BK202 := n15_
            have HB := n16_
            clear n0_ n1_ n2_ n3_ n4_ n5_ n6_ n7_ n8_ n9_ n10_ n11_ n12_ n13_ n14_ n15_ n16_
            refine start_ (n := 5) (S := fun w' => w'.cell? ⟨gb202, 0, none⟩ = some (.slice Ao62 t196.length co62) ∧ w'.cell? ⟨gb202, 1, none⟩ = some (.slice Ao67 t199.length co67) ∧ w'.cell? ⟨gb171, 0, none⟩ = some (.slice A1_0 l1_0.length c1_0) ∧ w'.cell? ⟨gb171, 1, none⟩ = some (.slice A1_1 l1_1.length c1_1)) (ds := []) #[false, false, false, false, false] (by kernel_rfl) rfl rfl ⟨(blk_cell BK202.out 0).trans rfl, (blk_cell BK202.out 1).trans rfl, (blk_cell BK171.out 0).trans rfl, (blk_cell BK171.out 1).trans rfl⟩ (fun hHeld => ?_)
            generalize w76.drew = w77 at HO176 HO179 HO182 HO185 HO188 HO191 HO194 HO198 HO201 HO205 HO209 HO212 BK170 BK171 BK195 BK202 HB hHeld ⊢
            refine take_ (i := 0) (N := some 45) (v := ?_) (a' := ?_) #[true, false, false, false, false] rfl rfl (by kernel_rfl) (fun _ _ _ h => h) (Or.inl ⟨by rfl, ?_⟩) hHeld ?_ ?_
            rotate_left
            · rintro w' ⟨s0, s1, s2, s3⟩
              go_simp
              with_reducible rfl
            rotate_left
            · simp only [Act.put, List.setIfInBounds_toArray, List.set_cons_zero, List.set_cons_succ, i64_w, i32_w]
              rfl
            refine take_ (i := 1) (N := some 46) (v := ?_) (a' := ?_) #[true, true, false, false, false] rfl rfl (by kernel_rfl) (fun _ _ _ h => h) (Or.inl ⟨by rfl, ?_⟩) hHeld ?_ ?_
            rotate_left
            · rintro w' ⟨s0, s1, s2, s3⟩
              go_simp
              with_reducible rfl
            rotate_left
            · simp only [Act.put, List.setIfInBounds_toArray, List.set_cons_zero, List.set_cons_succ, i64_w, i32_w]
              rfl
            refine one_ (i := 2) (N := some 47) #[true, true, true, false, false] rfl rfl (by kernel_rfl) (by decide) (fun K hK => ?_)
            refine goes_ Try.func53 (by kernel_rfl) rfl #[.agg #[.slice A1_0 l1_0.length c1_0, .slice A1_1 l1_1.length c1_1]] (by rfl) rfl rfl (by (try simp only [List.map_toArray, List.map_cons, List.map_nil]); first | done | rfl | (simp only [List.length_drop, List.length_take]; rfl)) ?_
            with_reducible refine (laws_toImage.calls k _ _ l1_0 _ _ l1_1 t214 t217 _ ?side1 ?side2 ?side3 ?side4 A30.out).mono ?_
            (case side1 => repeat (first | exact (Kd.C_below HR1_0.out HB.out) | (with_reducible refine Kd.C_alloc ?_ _) | (with_reducible refine Kd.C_drewN ?_ _) | (with_reducible refine Kd.C_drew ?_)))
            (case side2 => exact HC1_0.out)
            (case side3 => repeat (first | exact (Kd.C_below HR1_1.out HB.out) | (with_reducible refine Kd.C_alloc ?_ _) | (with_reducible refine Kd.C_drewN ?_ _) | (with_reducible refine Kd.C_drew ?_)))
            (case side4 => exact HC1_1.out)
            rintro e w78 ⟨v215, v218, rfl, ho0, ho1, hb⟩
            refine ⟨_, rfl, ?_⟩
            have n0_ := Aside0.mk (Kd.R_elder' (by (with_reducible repeat (first | apply Kd.R_alloc | apply Kd.R_drewN | apply Kd.R_drew)); exact HO176.out) (Kd.R_base ho0) hb)
            have n1_ := Aside0.mk (Kd.R_elder' (by (with_reducible repeat (first | apply Kd.R_alloc | apply Kd.R_drewN | apply Kd.R_drew)); exact HO179.out) (Kd.R_base ho1) hb)
            have n2_ := Aside0.mk (Kd.R_elder' (by (with_reducible repeat (first | apply Kd.R_alloc | apply Kd.R_drewN | apply Kd.R_drew)); exact HO182.out) (Kd.R_base ho0) hb)
            have n3_ := Aside0.mk (Kd.R_elder' (by (with_reducible repeat (first | apply Kd.R_alloc | apply Kd.R_drewN | apply Kd.R_drew)); exact HO185.out) (Kd.R_base ho1) hb)
            have n4_ := Aside0.mk (Kd.R_elder' (by (with_reducible repeat (first | apply Kd.R_alloc | apply Kd.R_drewN | apply Kd.R_drew)); exact HO188.out) (Kd.R_base ho1) hb)
            have n5_ := Aside0.mk (Kd.R_elder' (by (with_reducible repeat (first | apply Kd.R_alloc | apply Kd.R_drewN | apply Kd.R_drew)); exact HO191.out) (Kd.R_base ho0) hb)
            have n6_ := Aside0.mk (Kd.R_elder' (by (with_reducible repeat (first | apply Kd.R_alloc | apply Kd.R_drewN | apply Kd.R_drew)); exact HO194.out) (Kd.R_base ho1) hb)
            have n7_ := Aside0.mk (Kd.R_elder' (by (with_reducible repeat (first | apply Kd.R_alloc | apply Kd.R_drewN | apply Kd.R_drew)); exact HO198.out) (Kd.R_base ho0) hb)
            have n8_ := Aside0.mk (Kd.R_elder' (by (with_reducible repeat (first | apply Kd.R_alloc | apply Kd.R_drewN | apply Kd.R_drew)); exact HO201.out) (Kd.R_base ho1) hb)
            have n9_ := Aside0.mk (Kd.Q_elder' (by (with_reducible repeat (first | apply Kd.Q_alloc | apply Kd.Q_drewN | apply Kd.Q_drew)); exact HO205.out) (Kd.R_base ho1) hb)
            have n10_ := Aside0.mk (Kd.R_elder' (by (with_reducible repeat (first | apply Kd.R_alloc | apply Kd.R_drewN | apply Kd.R_drew)); exact HO209.out) (Kd.R_base ho0) hb)
            have n11_ := Aside0.mk (Kd.R_elder' (by (with_reducible repeat (first | apply Kd.R_alloc | apply Kd.R_drewN | apply Kd.R_drew)); exact HO212.out) (Kd.R_base ho1) hb)
            have n12_ := Aside0.mk (Kd.R_lower (Kd.R_new' (Kd.R_new' (Kd.R_new' (Kd.R_new' (Kd.R_new' ho0 (Kd.R_lt (by (with_reducible repeat (first | apply Kd.R_alloc | apply Kd.R_drewN | apply Kd.R_drew)); exact HO176.out))) (Kd.R_lt (by (with_reducible repeat (first | apply Kd.R_alloc | apply Kd.R_drewN | apply Kd.R_drew)); exact HO182.out))) (Kd.R_lt (by (with_reducible repeat (first | apply Kd.R_alloc | apply Kd.R_drewN | apply Kd.R_drew)); exact HO191.out))) (Kd.R_lt (by (with_reducible repeat (first | apply Kd.R_alloc | apply Kd.R_drewN | apply Kd.R_drew)); exact HO198.out))) (Kd.R_lt (by (with_reducible repeat (first | apply Kd.R_alloc | apply Kd.R_drewN | apply Kd.R_drew)); exact HO209.out))) (below_size (by repeat (first | (with_reducible first | exact HB.out | apply below_alloc | apply pw_below_drewN | apply below_drew1 | refine below_set ?_ GE170.out | refine below_set ?_ GE171.out | refine below_set ?_ GE195.out | refine below_set ?_ GE202.out) | exact HB.out))))
            have n13_ := Aside0.mk (Kd.R_lower (Kd.R_new' (Kd.R_new' (Kd.R_new' (Kd.R_new' (Kd.R_new' (Kd.R_new' (Kd.R_new' ho1 (Kd.R_lt (by (with_reducible repeat (first | apply Kd.R_alloc | apply Kd.R_drewN | apply Kd.R_drew)); exact HO179.out))) (Kd.R_lt (by (with_reducible repeat (first | apply Kd.R_alloc | apply Kd.R_drewN | apply Kd.R_drew)); exact HO185.out))) (Kd.R_lt (by (with_reducible repeat (first | apply Kd.R_alloc | apply Kd.R_drewN | apply Kd.R_drew)); exact HO188.out))) (Kd.R_lt (by (with_reducible repeat (first | apply Kd.R_alloc | apply Kd.R_drewN | apply Kd.R_drew)); exact HO194.out))) (Kd.R_lt (by (with_reducible repeat (first | apply Kd.R_alloc | apply Kd.R_drewN | apply Kd.R_drew)); exact HO201.out))) (Kd.Q_lt (by (with_reducible repeat (first | apply Kd.Q_alloc | apply Kd.Q_drewN | apply Kd.Q_drew)); exact HO205.out))) (Kd.R_lt (by (with_reducible repeat (first | apply Kd.R_alloc | apply Kd.R_drewN | apply Kd.R_drew)); exact HO212.out))) (below_size (by repeat (first | (with_reducible first | exact HB.out | apply below_alloc | apply pw_below_drewN | apply below_drew1 | refine below_set ?_ GE170.out | refine below_set ?_ GE171.out | refine below_set ?_ GE195.out | refine below_set ?_ GE202.out) | exact HB.out))))
            have n14_ := Aside0.mk (blk_below (g := gb170) (o := .cells #[.slice A0_0 l0_0.length c0_0, .slice A0_1 l0_1.length c0_1] 62 (0, 0)) (by (with_reducible repeat (first | refine blk_drewN ?_ _ | refine blk_drew ?_ | refine blk_alloc ?_ _)); exact BK170.out) hb)
            have n15_ := Aside0.mk (blk_below (g := gb171) (o := .cells #[.slice A1_0 l1_0.length c1_0, .slice A1_1 l1_1.length c1_1] 62 (0, 0)) (by (with_reducible repeat (first | refine blk_drewN ?_ _ | refine blk_drew ?_ | refine blk_alloc ?_ _)); exact BK171.out) hb)
            have n16_ := Aside0.mk (blk_below (g := gb195) (o := .cells #[.slice Ao54 t189.length co54, .slice Ao58 t192.length co58] 65 (0, 0)) (by (with_reducible repeat (first | refine blk_drewN ?_ _ | refine blk_drew ?_ | refine blk_alloc ?_ _)); exact BK195.out) hb)
            have n17_ := Aside0.mk (blk_below (g := gb202) (o := .cells #[.slice Ao62 t196.length co62, .slice Ao67 t199.length co67] 65 (0, 0)) (by (with_reducible repeat (first | refine blk_drewN ?_ _ | refine blk_drew ?_ | refine blk_alloc ?_ _)); exact BK202.out) hb)
            have n18_ := Aside0.mk (below_step (by repeat (first | (with_reducible first | exact HB.out | apply below_alloc | apply pw_below_drewN | apply below_drew1 | refine below_set ?_ GE170.out | refine below_set ?_ GE171.out | refine below_set ?_ GE195.out | refine below_set ?_ GE202.out) | exact HB.out)) hb)
            clear HO176
            clear HO179
            clear HO182
            clear HO185
            clear HO188
            clear HO191
            clear HO194
            clear HO198
            clear HO201
            clear HO205
            clear HO209
            clear HO212
            clear BK170
            clear BK171
            clear BK195
            clear BK202
            clear HB
            have HO176 := n0_
            have HO179 := n1_
            have HO182 := n2_
            have HO185 := n3_
            have HO188 := n4_
            have HO191 := n5_
            have HO194 := n6_
            have HO198 := n7_
            have HO201 := n8_
            have HO205 := n9_
            have HO209 := n10_
            have HO212 := n11_
            have HO216 := n12_
            have HO219 := n13_
            have BK170 := n14_
            have BK171 := n15_
            have BK195 := n16_
            have BK202 := n17_
            have HB := n18_
            clear n0_ n1_ n2_ n3_ n4_ n5_ n6_ n7_ n8_ n9_ n10_ n11_ n12_ n13_ n14_ n15_ n16_ n17_ n18_
            (try clear hb)
            (try clear hb2)
            (try clear hk)
            (try clear hi)
            (try clear ho0)
            (try clear ho1)
            obtain ⟨Ao79, co79, eo79⟩ := Kd.R_slice HO216.out
            (first | subst eo79 | (injection eo79 with f1_ f2_ f3_; have f4_ := f1_.symm; have f5_ := f3_.symm; clear f1_ f2_ f3_; subst f4_; subst f5_))
            obtain ⟨Ao80, co80, eo80⟩ := Kd.R_slice HO219.out
            (first | subst eo80 | (injection eo80 with f1_ f2_ f3_; have f4_ := f1_.symm; have f5_ := f3_.symm; clear f1_ f2_ f3_; subst f4_; subst f5_))
            refine hK.out _ _ ⟨(blk_cell BK202.out 0).trans rfl, (blk_cell BK202.out 1).trans rfl, (blk_cell BK171.out 0).trans rfl, (blk_cell BK171.out 1).trans rfl⟩ (fun hHeld => ?_)
            clear hK K
            refine norm_ (a' := ?_) ?_ ?_
            rotate_left
            · show Act.put _ (some 47) _ = _
              simp only [Act.put, List.setIfInBounds_toArray, List.set_cons_zero, List.set_cons_succ, i64_w, i32_w]
              rfl
            refine one_ (i := 3) (N := some 48) #[true, true, true, true, false] rfl rfl (by kernel_rfl) (by decide) (fun K hK => ?_)
            refine goes_ Try.func55 (by kernel_rfl) rfl #[.agg #[.slice Ao62 t196.length co62, .slice Ao67 t199.length co67], .agg #[.slice Ao79 t214.length co79, .slice Ao80 t217.length co80]] (by rfl) rfl rfl (by (try simp only [List.map_toArray, List.map_cons, List.map_nil]); first | done | rfl | (simp only [List.length_drop, List.length_take]; rfl)) ?_
            with_reducible refine (laws_eqImage.calls k _ _ t196 _ _ t199 _ _ t214 _ _ t217 true _ ?side1 ?side2 ?side3 ?side4 ?side5 ?side6 ?side7 ?side8 A31.out).mono ?_
            (case side1 => repeat (first | exact (Kd.R_reads' HO198.out).2.2 | (with_reducible refine Kd.C_alloc ?_ _) | (with_reducible refine Kd.C_drewN ?_ _) | (with_reducible refine Kd.C_drew ?_)))
            (case side2 => exact (Kd.R_reads' HO198.out).2.1)
            (case side3 => repeat (first | exact (Kd.R_reads' HO201.out).2.2 | (with_reducible refine Kd.C_alloc ?_ _) | (with_reducible refine Kd.C_drewN ?_ _) | (with_reducible refine Kd.C_drew ?_)))
            (case side4 => exact (Kd.R_reads' HO201.out).2.1)
            (case side5 => repeat (first | exact (Kd.R_reads' HO216.out).2.2 | (with_reducible refine Kd.C_alloc ?_ _) | (with_reducible refine Kd.C_drewN ?_ _) | (with_reducible refine Kd.C_drew ?_)))
            (case side6 => exact (Kd.R_reads' HO216.out).2.1)
            (case side7 => repeat (first | exact (Kd.R_reads' HO219.out).2.2 | (with_reducible refine Kd.C_alloc ?_ _) | (with_reducible refine Kd.C_drewN ?_ _) | (with_reducible refine Kd.C_drew ?_)))
            (case side8 => exact (Kd.R_reads' HO219.out).2.1)
            rintro e w81 ⟨rfl, hb⟩
            refine ⟨_, rfl, ?_⟩
            have n0_ := Aside0.mk (Kd.R_below (by (with_reducible repeat (first | apply Kd.R_alloc | apply Kd.R_drewN | apply Kd.R_drew)); exact HO176.out) hb)
            have n1_ := Aside0.mk (Kd.R_below (by (with_reducible repeat (first | apply Kd.R_alloc | apply Kd.R_drewN | apply Kd.R_drew)); exact HO179.out) hb)
            have n2_ := Aside0.mk (Kd.R_below (by (with_reducible repeat (first | apply Kd.R_alloc | apply Kd.R_drewN | apply Kd.R_drew)); exact HO182.out) hb)
            have n3_ := Aside0.mk (Kd.R_below (by (with_reducible repeat (first | apply Kd.R_alloc | apply Kd.R_drewN | apply Kd.R_drew)); exact HO185.out) hb)
            have n4_ := Aside0.mk (Kd.R_below (by (with_reducible repeat (first | apply Kd.R_alloc | apply Kd.R_drewN | apply Kd.R_drew)); exact HO188.out) hb)
            have n5_ := Aside0.mk (Kd.R_below (by (with_reducible repeat (first | apply Kd.R_alloc | apply Kd.R_drewN | apply Kd.R_drew)); exact HO191.out) hb)
            have n6_ := Aside0.mk (Kd.R_below (by (with_reducible repeat (first | apply Kd.R_alloc | apply Kd.R_drewN | apply Kd.R_drew)); exact HO194.out) hb)
            have n7_ := Aside0.mk (Kd.R_below (by (with_reducible repeat (first | apply Kd.R_alloc | apply Kd.R_drewN | apply Kd.R_drew)); exact HO198.out) hb)
            have n8_ := Aside0.mk (Kd.R_below (by (with_reducible repeat (first | apply Kd.R_alloc | apply Kd.R_drewN | apply Kd.R_drew)); exact HO201.out) hb)
            have n9_ := Aside0.mk (Kd.Q_below (by (with_reducible repeat (first | apply Kd.Q_alloc | apply Kd.Q_drewN | apply Kd.Q_drew)); exact HO205.out) hb)
            have n10_ := Aside0.mk (Kd.R_below (by (with_reducible repeat (first | apply Kd.R_alloc | apply Kd.R_drewN | apply Kd.R_drew)); exact HO209.out) hb)
            have n11_ := Aside0.mk (Kd.R_below (by (with_reducible repeat (first | apply Kd.R_alloc | apply Kd.R_drewN | apply Kd.R_drew)); exact HO212.out) hb)
            have n12_ := Aside0.mk (Kd.R_below (by (with_reducible repeat (first | apply Kd.R_alloc | apply Kd.R_drewN | apply Kd.R_drew)); exact HO216.out) hb)
            have n13_ := Aside0.mk (Kd.R_below (by (with_reducible repeat (first | apply Kd.R_alloc | apply Kd.R_drewN | apply Kd.R_drew)); exact HO219.out) hb)
            have n14_ := Aside0.mk (blk_below (g := gb170) (o := .cells #[.slice A0_0 l0_0.length c0_0, .slice A0_1 l0_1.length c0_1] 62 (0, 0)) (by (with_reducible repeat (first | refine blk_drewN ?_ _ | refine blk_drew ?_ | refine blk_alloc ?_ _)); exact BK170.out) hb)
            have n15_ := Aside0.mk (blk_below (g := gb171) (o := .cells #[.slice A1_0 l1_0.length c1_0, .slice A1_1 l1_1.length c1_1] 62 (0, 0)) (by (with_reducible repeat (first | refine blk_drewN ?_ _ | refine blk_drew ?_ | refine blk_alloc ?_ _)); exact BK171.out) hb)
            have n16_ := Aside0.mk (blk_below (g := gb195) (o := .cells #[.slice Ao54 t189.length co54, .slice Ao58 t192.length co58] 65 (0, 0)) (by (with_reducible repeat (first | refine blk_drewN ?_ _ | refine blk_drew ?_ | refine blk_alloc ?_ _)); exact BK195.out) hb)
            have n17_ := Aside0.mk (blk_below (g := gb202) (o := .cells #[.slice Ao62 t196.length co62, .slice Ao67 t199.length co67] 65 (0, 0)) (by (with_reducible repeat (first | refine blk_drewN ?_ _ | refine blk_drew ?_ | refine blk_alloc ?_ _)); exact BK202.out) hb)
            have n18_ := Aside0.mk (below_step (by repeat (first | (with_reducible first | exact HB.out | apply below_alloc | apply pw_below_drewN | apply below_drew1 | refine below_set ?_ GE170.out | refine below_set ?_ GE171.out | refine below_set ?_ GE195.out | refine below_set ?_ GE202.out) | exact HB.out)) hb)
            clear HO176
            clear HO179
            clear HO182
            clear HO185
            clear HO188
            clear HO191
            clear HO194
            clear HO198
            clear HO201
            clear HO205
            clear HO209
            clear HO212
            clear HO216
            clear HO219
            clear BK170
            clear BK171
            clear BK195
            clear BK202
            clear HB
            have HO176 := n0_
            have HO179 := n1_
            have HO182 := n2_
            have HO185 := n3_
            have HO188 := n4_
            have HO191 := n5_
            have HO194 := n6_
            have HO198 := n7_
            have HO201 := n8_
            have HO205 := n9_
            have HO209 := n10_
            have HO212 := n11_
            have HO216 := n12_
            have HO219 := n13_
            have BK170 := n14_
            have BK171 := n15_
            have BK195 := n16_
            have BK202 := n17_
            have HB := n18_
            clear n0_ n1_ n2_ n3_ n4_ n5_ n6_ n7_ n8_ n9_ n10_ n11_ n12_ n13_ n14_ n15_ n16_ n17_ n18_
            (try clear hb)
            (try clear hb2)
            (try clear hk)
            (try clear hi)
            refine hK.out _ _ ⟨(blk_cell BK202.out 0).trans rfl, (blk_cell BK202.out 1).trans rfl, (blk_cell BK171.out 0).trans rfl, (blk_cell BK171.out 1).trans rfl⟩ (fun hHeld => ?_)
            clear hK K
            refine norm_ (a' := ?_) ?_ ?_
            rotate_left
            · show Act.put _ (some 48) _ = _
              simp only [Act.put, List.setIfInBounds_toArray, List.set_cons_zero, List.set_cons_succ, i64_w, i32_w]
              rfl
            refine pure_ (i := 4) (N := some 49) (v := ?_) (a' := ?_) #[true, true, true, true, true] rfl rfl (by kernel_rfl) (fun _ _ _ h => h) (Or.inl ⟨by rfl, ?_⟩) ?_ ?_
            rotate_left
            · intro w'
              go_simp
              with_reducible rfl
            rotate_left
            · simp only [Act.put, List.setIfInBounds_toArray, List.set_cons_zero, List.set_cons_succ, i64_w, i32_w]
              rfl
            refine done_ (by kernel_rfl) ?_
            have hcz82_0 : w81.cell? ⟨gb195, 0, none⟩ = some (.slice Ao54 t189.length co54) := (blk_cell BK195.out 0).trans rfl
            have hcz82_1 : w81.cell? ⟨gb195, 1, none⟩ = some (.slice Ao58 t192.length co58) := (blk_cell BK195.out 1).trans rfl
            have hfz82_0 := blk_frozen BK195.out 0
            have hfz82_1 := blk_frozen BK195.out 1
            go_upto_region 21 with (first | ((with_reducible refine gate_callee (f := 60) rfl ?_); refine goesL_ (some 52) rfl rfl Try.func60 (by kernel_rfl) rfl #[.agg #[.slice Ao54 t189.length co54, .slice Ao58 t192.length co58], .int .i64 1] rfl (by (try simp only [List.map_toArray, List.map_cons, List.map_nil]); first | done | rfl | (simp only [List.length_drop, List.length_take]; rfl)) ?_; (with_reducible refine (laws_markImage.calls k (fun k_ => some k_ = (.slice Ao54 t189.length co54 : Value).ownBlock) (.slice Ao54 t189.length co54) t189 (fun k_ => some k_ = (.slice Ao58 t192.length co58 : Value).ownBlock) (.slice Ao58 t192.length co58) t192 1 t221 t222 t223 w _ ?side1 ?side2 ?side3 A33.out).mono ?_); (case side1 => repeat (first | (with_reducible first | exact HB.out | apply below_alloc | apply pw_below_drewN | apply below_drew1 | refine below_set ?_ GE170.out | refine below_set ?_ GE171.out | refine below_set ?_ GE195.out | refine below_set ?_ GE202.out) | exact HB.out)); (case side2 => exact Kd.Q_tight rfl (Kd.Q_of_R (HO191.out))); (case side3 => exact Kd.Q_tight rfl (Kd.Q_of_R (HO194.out))); rintro e w83 ⟨rfl, hy0, hy1, hb, hkp⟩; refine ⟨_, rfl, ?_⟩; have n0_ := Aside0.mk (blk_kept (by (with_reducible repeat (first | refine blk_drewN ?_ _ | refine blk_drew ?_ | refine blk_alloc ?_ _)); exact BK170.out) hkp (fun hs_ => Or.elim hs_ (fun e_ => (fun e_ => (Kd.R_ne HO191.out BK170.out (by decide)) e_) e_) (fun e_ => (fun e_ => (Kd.R_ne HO194.out BK170.out (by decide)) e_) e_))); have n1_ := Aside0.mk (blk_kept (by (with_reducible repeat (first | refine blk_drewN ?_ _ | refine blk_drew ?_ | refine blk_alloc ?_ _)); exact BK171.out) hkp (fun hs_ => Or.elim hs_ (fun e_ => (fun e_ => (Kd.R_ne HO191.out BK171.out (by decide)) e_) e_) (fun e_ => (fun e_ => (Kd.R_ne HO194.out BK171.out (by decide)) e_) e_))); have n2_ := Aside0.mk (Kd.R_mono (ok' := fun k_ => some k_ ≠ (.slice Ao48 t180.length co48 : Value).ownBlock ∧ some k_ ≠ (.slice Ao54 t189.length co54 : Value).ownBlock ∧ some k_ ≠ (.slice Ao62 t196.length co62 : Value).ownBlock ∧ some k_ ≠ (.slice Ao74 t207.length co74 : Value).ownBlock ∧ some k_ ≠ (.slice Ao79 t214.length co79 : Value).ownBlock) (Kd.R_keptB ((Kd.R_apart' HO176.out (Kd.R_typed HO194.out) (by decide))) hkp (fun k_ hk_ hs_ => Or.elim hs_ (fun e_ => (hk_.1.1.1.1.2) e_) (fun e_ => (hk_.2) e_))) (fun k_ hk_ => ⟨hk_.1.1.1.1.1.1.2, hk_.1.1.1.1.1.2, hk_.1.1.1.1.2, hk_.1.1.1.2, hk_.1.1.2⟩)); have n3_ := Aside0.mk (Kd.R_mono (ok' := fun k_ => some k_ ≠ (.slice Ao49 t183.length co49 : Value).ownBlock ∧ some k_ ≠ (.slice Ao71 t186.length co71 : Value).ownBlock ∧ some k_ ≠ (.slice Ao58 t192.length co58 : Value).ownBlock ∧ some k_ ≠ (.slice Ao67 t199.length co67 : Value).ownBlock ∧ some k_ ≠ (.slice Ao70 t203.length co70 : Value).ownBlock ∧ some k_ ≠ (.slice Ao75 t210.length co75 : Value).ownBlock ∧ some k_ ≠ (.slice Ao80 t217.length co80 : Value).ownBlock) (Kd.R_keptB ((Kd.R_apart' HO179.out (Kd.R_typed HO191.out) (by decide))) hkp (fun k_ hk_ hs_ => Or.elim hs_ (fun e_ => (hk_.2) e_) (fun e_ => (hk_.1.1.1.1.1.2) e_))) (fun k_ hk_ => ⟨hk_.1.1.1.1.1.1.1.1.2, hk_.1.1.1.1.1.1.1.2, hk_.1.1.1.1.1.1.2, hk_.1.1.1.1.1.2, hk_.1.1.1.1.2, hk_.1.1.1.2, hk_.1.1.2⟩)); have n4_ := Aside0.mk (Kd.R_mono (ok' := fun k_ => some k_ ≠ (.slice Ao46 t174.length co46 : Value).ownBlock ∧ some k_ ≠ (.slice Ao54 t189.length co54 : Value).ownBlock ∧ some k_ ≠ (.slice Ao62 t196.length co62 : Value).ownBlock ∧ some k_ ≠ (.slice Ao74 t207.length co74 : Value).ownBlock ∧ some k_ ≠ (.slice Ao79 t214.length co79 : Value).ownBlock) (Kd.R_keptB ((Kd.R_apart' HO182.out (Kd.R_typed HO194.out) (by decide))) hkp (fun k_ hk_ hs_ => Or.elim hs_ (fun e_ => (hk_.1.1.1.1.2) e_) (fun e_ => (hk_.2) e_))) (fun k_ hk_ => ⟨hk_.1.1.1.1.1.1.2, hk_.1.1.1.1.1.2, hk_.1.1.1.1.2, hk_.1.1.1.2, hk_.1.1.2⟩)); have n5_ := Aside0.mk (Kd.R_mono (ok' := fun k_ => some k_ ≠ (.slice Ao47 t177.length co47 : Value).ownBlock ∧ some k_ ≠ (.slice Ao71 t186.length co71 : Value).ownBlock ∧ some k_ ≠ (.slice Ao58 t192.length co58 : Value).ownBlock ∧ some k_ ≠ (.slice Ao67 t199.length co67 : Value).ownBlock ∧ some k_ ≠ (.slice Ao70 t203.length co70 : Value).ownBlock ∧ some k_ ≠ (.slice Ao75 t210.length co75 : Value).ownBlock ∧ some k_ ≠ (.slice Ao80 t217.length co80 : Value).ownBlock) (Kd.R_keptB ((Kd.R_apart' HO185.out (Kd.R_typed HO191.out) (by decide))) hkp (fun k_ hk_ hs_ => Or.elim hs_ (fun e_ => (hk_.2) e_) (fun e_ => (hk_.1.1.1.1.1.2) e_))) (fun k_ hk_ => ⟨hk_.1.1.1.1.1.1.1.1.2, hk_.1.1.1.1.1.1.1.2, hk_.1.1.1.1.1.1.2, hk_.1.1.1.1.1.2, hk_.1.1.1.1.2, hk_.1.1.1.2, hk_.1.1.2⟩)); have n6_ := Aside0.mk (Kd.R_mono (ok' := fun k_ => some k_ ≠ (.slice Ao47 t177.length co47 : Value).ownBlock ∧ some k_ ≠ (.slice Ao49 t183.length co49 : Value).ownBlock ∧ some k_ ≠ (.slice Ao58 t192.length co58 : Value).ownBlock ∧ some k_ ≠ (.slice Ao67 t199.length co67 : Value).ownBlock ∧ some k_ ≠ (.slice Ao70 t203.length co70 : Value).ownBlock ∧ some k_ ≠ (.slice Ao75 t210.length co75 : Value).ownBlock ∧ some k_ ≠ (.slice Ao80 t217.length co80 : Value).ownBlock) (Kd.R_keptB ((Kd.R_apart' HO188.out (Kd.R_typed HO191.out) (by decide))) hkp (fun k_ hk_ hs_ => Or.elim hs_ (fun e_ => (hk_.2) e_) (fun e_ => (hk_.1.1.1.1.1.2) e_))) (fun k_ hk_ => ⟨hk_.1.1.1.1.1.1.1.1.2, hk_.1.1.1.1.1.1.1.2, hk_.1.1.1.1.1.1.2, hk_.1.1.1.1.1.2, hk_.1.1.1.1.2, hk_.1.1.1.2, hk_.1.1.2⟩)); have n7_ := Aside0.mk (Kd.Q_reok rfl hy0 (fun k_ e_ => HO191.out.1 k_ e_)); have n8_ := Aside0.mk (Kd.Q_reok rfl hy1 (fun k_ e_ => HO194.out.1 k_ e_)); have n9_ := Aside0.mk (blk_kept (by (with_reducible repeat (first | refine blk_drewN ?_ _ | refine blk_drew ?_ | refine blk_alloc ?_ _)); exact BK195.out) hkp (fun hs_ => Or.elim hs_ (fun e_ => (fun e_ => (Kd.R_ne HO191.out BK195.out (by decide)) e_) e_) (fun e_ => (fun e_ => (Kd.R_ne HO194.out BK195.out (by decide)) e_) e_))); have n10_ := Aside0.mk (Kd.R_mono (ok' := fun k_ => some k_ ≠ (.slice Ao46 t174.length co46 : Value).ownBlock ∧ some k_ ≠ (.slice Ao48 t180.length co48 : Value).ownBlock ∧ some k_ ≠ (.slice Ao54 t189.length co54 : Value).ownBlock ∧ some k_ ≠ (.slice Ao74 t207.length co74 : Value).ownBlock ∧ some k_ ≠ (.slice Ao79 t214.length co79 : Value).ownBlock) (Kd.R_keptB ((Kd.R_apart' HO198.out (Kd.R_typed HO194.out) (by decide))) hkp (fun k_ hk_ hs_ => Or.elim hs_ (fun e_ => (hk_.1.1.1.2) e_) (fun e_ => (hk_.2) e_))) (fun k_ hk_ => ⟨hk_.1.1.1.1.1.1.2, hk_.1.1.1.1.1.2, hk_.1.1.1.1.2, hk_.1.1.1.2, hk_.1.1.2⟩)); have n11_ := Aside0.mk (Kd.R_mono (ok' := fun k_ => some k_ ≠ (.slice Ao47 t177.length co47 : Value).ownBlock ∧ some k_ ≠ (.slice Ao49 t183.length co49 : Value).ownBlock ∧ some k_ ≠ (.slice Ao71 t186.length co71 : Value).ownBlock ∧ some k_ ≠ (.slice Ao58 t192.length co58 : Value).ownBlock ∧ some k_ ≠ (.slice Ao70 t203.length co70 : Value).ownBlock ∧ some k_ ≠ (.slice Ao75 t210.length co75 : Value).ownBlock ∧ some k_ ≠ (.slice Ao80 t217.length co80 : Value).ownBlock) (Kd.R_keptB ((Kd.R_apart' HO201.out (Kd.R_typed HO191.out) (by decide))) hkp (fun k_ hk_ hs_ => Or.elim hs_ (fun e_ => (hk_.2) e_) (fun e_ => (hk_.1.1.1.1.2) e_))) (fun k_ hk_ => ⟨hk_.1.1.1.1.1.1.1.1.2, hk_.1.1.1.1.1.1.1.2, hk_.1.1.1.1.1.1.2, hk_.1.1.1.1.1.2, hk_.1.1.1.1.2, hk_.1.1.1.2, hk_.1.1.2⟩)); have n12_ := Aside0.mk (blk_kept (by (with_reducible repeat (first | refine blk_drewN ?_ _ | refine blk_drew ?_ | refine blk_alloc ?_ _)); exact BK202.out) hkp (fun hs_ => Or.elim hs_ (fun e_ => (fun e_ => (Kd.R_ne HO191.out BK202.out (by decide)) e_) e_) (fun e_ => (fun e_ => (Kd.R_ne HO194.out BK202.out (by decide)) e_) e_))); have n13_ := Aside0.mk (Kd.Q_mono (ok' := fun k_ => some k_ ≠ (.slice Ao47 t177.length co47 : Value).ownBlock ∧ some k_ ≠ (.slice Ao49 t183.length co49 : Value).ownBlock ∧ some k_ ≠ (.slice Ao71 t186.length co71 : Value).ownBlock ∧ some k_ ≠ (.slice Ao58 t192.length co58 : Value).ownBlock ∧ some k_ ≠ (.slice Ao67 t199.length co67 : Value).ownBlock ∧ some k_ ≠ (.slice Ao75 t210.length co75 : Value).ownBlock ∧ some k_ ≠ (.slice Ao80 t217.length co80 : Value).ownBlock) (Kd.Q_keptB ((Kd.Q_apart' HO205.out (Kd.R_typed HO191.out) (by decide))) hkp (fun k_ hk_ hs_ => Or.elim hs_ (fun e_ => (hk_.2) e_) (fun e_ => (hk_.1.1.1.1.2) e_))) (fun k_ hk_ => ⟨hk_.1.1.1.1.1.1.1.1.2, hk_.1.1.1.1.1.1.1.2, hk_.1.1.1.1.1.1.2, hk_.1.1.1.1.1.2, hk_.1.1.1.1.2, hk_.1.1.1.2, hk_.1.1.2⟩)); have n14_ := Aside0.mk (Kd.R_mono (ok' := fun k_ => some k_ ≠ (.slice Ao46 t174.length co46 : Value).ownBlock ∧ some k_ ≠ (.slice Ao48 t180.length co48 : Value).ownBlock ∧ some k_ ≠ (.slice Ao54 t189.length co54 : Value).ownBlock ∧ some k_ ≠ (.slice Ao62 t196.length co62 : Value).ownBlock ∧ some k_ ≠ (.slice Ao79 t214.length co79 : Value).ownBlock) (Kd.R_keptB ((Kd.R_apart' HO209.out (Kd.R_typed HO194.out) (by decide))) hkp (fun k_ hk_ hs_ => Or.elim hs_ (fun e_ => (hk_.1.1.1.2) e_) (fun e_ => (hk_.2) e_))) (fun k_ hk_ => ⟨hk_.1.1.1.1.1.1.2, hk_.1.1.1.1.1.2, hk_.1.1.1.1.2, hk_.1.1.1.2, hk_.1.1.2⟩)); have n15_ := Aside0.mk (Kd.R_mono (ok' := fun k_ => some k_ ≠ (.slice Ao47 t177.length co47 : Value).ownBlock ∧ some k_ ≠ (.slice Ao49 t183.length co49 : Value).ownBlock ∧ some k_ ≠ (.slice Ao71 t186.length co71 : Value).ownBlock ∧ some k_ ≠ (.slice Ao58 t192.length co58 : Value).ownBlock ∧ some k_ ≠ (.slice Ao67 t199.length co67 : Value).ownBlock ∧ some k_ ≠ (.slice Ao70 t203.length co70 : Value).ownBlock ∧ some k_ ≠ (.slice Ao80 t217.length co80 : Value).ownBlock) (Kd.R_keptB ((Kd.R_apart' HO212.out (Kd.R_typed HO191.out) (by decide))) hkp (fun k_ hk_ hs_ => Or.elim hs_ (fun e_ => (hk_.2) e_) (fun e_ => (hk_.1.1.1.1.2) e_))) (fun k_ hk_ => ⟨hk_.1.1.1.1.1.1.1.1.2, hk_.1.1.1.1.1.1.1.2, hk_.1.1.1.1.1.1.2, hk_.1.1.1.1.1.2, hk_.1.1.1.1.2, hk_.1.1.1.2, hk_.1.1.2⟩)); have n16_ := Aside0.mk (Kd.R_mono (ok' := fun k_ => some k_ ≠ (.slice Ao46 t174.length co46 : Value).ownBlock ∧ some k_ ≠ (.slice Ao48 t180.length co48 : Value).ownBlock ∧ some k_ ≠ (.slice Ao54 t189.length co54 : Value).ownBlock ∧ some k_ ≠ (.slice Ao62 t196.length co62 : Value).ownBlock ∧ some k_ ≠ (.slice Ao74 t207.length co74 : Value).ownBlock) (Kd.R_keptB ((Kd.R_apart' HO216.out (Kd.R_typed HO194.out) (by decide))) hkp (fun k_ hk_ hs_ => Or.elim hs_ (fun e_ => (hk_.1.1.1.2) e_) (fun e_ => (hk_.2) e_))) (fun k_ hk_ => ⟨hk_.1.1.1.1.1.1.2, hk_.1.1.1.1.1.2, hk_.1.1.1.1.2, hk_.1.1.1.2, hk_.1.1.2⟩)); have n17_ := Aside0.mk (Kd.R_mono (ok' := fun k_ => some k_ ≠ (.slice Ao47 t177.length co47 : Value).ownBlock ∧ some k_ ≠ (.slice Ao49 t183.length co49 : Value).ownBlock ∧ some k_ ≠ (.slice Ao71 t186.length co71 : Value).ownBlock ∧ some k_ ≠ (.slice Ao58 t192.length co58 : Value).ownBlock ∧ some k_ ≠ (.slice Ao67 t199.length co67 : Value).ownBlock ∧ some k_ ≠ (.slice Ao70 t203.length co70 : Value).ownBlock ∧ some k_ ≠ (.slice Ao75 t210.length co75 : Value).ownBlock) (Kd.R_keptB ((Kd.R_apart' HO219.out (Kd.R_typed HO191.out) (by decide))) hkp (fun k_ hk_ hs_ => Or.elim hs_ (fun e_ => (hk_.2) e_) (fun e_ => (hk_.1.1.1.1.2) e_))) (fun k_ hk_ => ⟨hk_.1.1.1.1.1.1.1.1.2, hk_.1.1.1.1.1.1.1.2, hk_.1.1.1.1.1.1.2, hk_.1.1.1.1.1.2, hk_.1.1.1.1.2, hk_.1.1.1.2, hk_.1.1.2⟩)); have n18_ := Aside0.mk (hb); clear BK170; clear BK171; clear HO176; clear HO179; clear HO182; clear HO185; clear HO188; clear HO191; clear HO194; clear BK195; clear HO198; clear HO201; clear BK202; clear HO205; clear HO209; clear HO212; clear HO216; clear HO219; clear HB; have BK170 := n0_; have BK171 := n1_; have HO176 := n2_; have HO179 := n3_; have HO182 := n4_; have HO185 := n5_; have HO188 := n6_; have HO191 := n7_; have HO194 := n8_; have BK195 := n9_; have HO198 := n10_; have HO201 := n11_; have BK202 := n12_; have HO205 := n13_; have HO209 := n14_; have HO212 := n15_; have HO216 := n16_; have HO219 := n17_; have HB := n18_; clear n0_ n1_ n2_ n3_ n4_ n5_ n6_ n7_ n8_ n9_ n10_ n11_ n12_ n13_ n14_ n15_ n16_ n17_ n18_; (try clear hb); (try clear hkp); (try clear hy0); (try clear hy1); have hcz84_0 : w83.cell? ⟨gb202, 0, none⟩ = some (.slice Ao62 t196.length co62) := (blk_cell BK202.out 0).trans rfl; have hcz84_1 : w83.cell? ⟨gb202, 1, none⟩ = some (.slice Ao67 t199.length co67) := (blk_cell BK202.out 1).trans rfl; have hfz84_0 := blk_frozen BK202.out 0; have hfz84_1 := blk_frozen BK202.out 1) | ((with_reducible refine gate_callee (f := 60) rfl ?_); refine goesL_ (some 55) rfl rfl Try.func60 (by kernel_rfl) rfl #[.agg #[.slice Ao62 t196.length co62, .slice Ao67 t199.length co67], .int .i64 t221] rfl (by (try simp only [List.map_toArray, List.map_cons, List.map_nil]); first | done | rfl | (simp only [List.length_drop, List.length_take]; rfl)) ?_; (with_reducible refine (laws_markImage.calls k (fun k_ => some k_ = (.slice Ao62 t196.length co62 : Value).ownBlock) (.slice Ao62 t196.length co62) t196 (fun k_ => some k_ = (.slice Ao67 t199.length co67 : Value).ownBlock) (.slice Ao67 t199.length co67) t199 t221 t224 t225 t226 w _ ?side1 ?side2 ?side3 A34.out).mono ?_); (case side1 => repeat (first | (with_reducible first | exact HB.out | apply below_alloc | apply pw_below_drewN | apply below_drew1 | refine below_set ?_ GE170.out | refine below_set ?_ GE171.out | refine below_set ?_ GE195.out | refine below_set ?_ GE202.out) | exact HB.out)); (case side2 => exact Kd.Q_tight rfl (Kd.Q_of_R (HO198.out))); (case side3 => exact Kd.Q_tight rfl (Kd.Q_of_R (HO201.out))); rintro e w85 ⟨rfl, hy0, hy1, hb, hkp⟩; refine ⟨_, rfl, ?_⟩; have n0_ := Aside0.mk (blk_kept (by (with_reducible repeat (first | refine blk_drewN ?_ _ | refine blk_drew ?_ | refine blk_alloc ?_ _)); exact BK170.out) hkp (fun hs_ => Or.elim hs_ (fun e_ => (fun e_ => (Kd.R_ne HO198.out BK170.out (by decide)) e_) e_) (fun e_ => (fun e_ => (Kd.R_ne HO201.out BK170.out (by decide)) e_) e_))); have n1_ := Aside0.mk (blk_kept (by (with_reducible repeat (first | refine blk_drewN ?_ _ | refine blk_drew ?_ | refine blk_alloc ?_ _)); exact BK171.out) hkp (fun hs_ => Or.elim hs_ (fun e_ => (fun e_ => (Kd.R_ne HO198.out BK171.out (by decide)) e_) e_) (fun e_ => (fun e_ => (Kd.R_ne HO201.out BK171.out (by decide)) e_) e_))); have n2_ := Aside0.mk (Kd.R_mono (ok' := fun k_ => some k_ ≠ (.slice Ao48 t180.length co48 : Value).ownBlock ∧ some k_ ≠ (.slice Ao54 t189.length co54 : Value).ownBlock ∧ some k_ ≠ (.slice Ao62 t196.length co62 : Value).ownBlock ∧ some k_ ≠ (.slice Ao74 t207.length co74 : Value).ownBlock ∧ some k_ ≠ (.slice Ao79 t214.length co79 : Value).ownBlock) (Kd.R_keptB ((Kd.R_apart' HO176.out (Kd.R_typed HO201.out) (by decide))) hkp (fun k_ hk_ hs_ => Or.elim hs_ (fun e_ => (hk_.1.2.2.1) e_) (fun e_ => (hk_.2) e_))) (fun k_ hk_ => ⟨hk_.1.1.1, hk_.1.1.2.1, hk_.1.1.2.2.1, hk_.1.1.2.2.2.1, hk_.1.1.2.2.2.2⟩)); have n3_ := Aside0.mk (Kd.R_mono (ok' := fun k_ => some k_ ≠ (.slice Ao49 t183.length co49 : Value).ownBlock ∧ some k_ ≠ (.slice Ao71 t186.length co71 : Value).ownBlock ∧ some k_ ≠ (.slice Ao58 t192.length co58 : Value).ownBlock ∧ some k_ ≠ (.slice Ao67 t199.length co67 : Value).ownBlock ∧ some k_ ≠ (.slice Ao70 t203.length co70 : Value).ownBlock ∧ some k_ ≠ (.slice Ao75 t210.length co75 : Value).ownBlock ∧ some k_ ≠ (.slice Ao80 t217.length co80 : Value).ownBlock) (Kd.R_keptB ((Kd.R_apart' HO179.out (Kd.R_typed HO198.out) (by decide))) hkp (fun k_ hk_ hs_ => Or.elim hs_ (fun e_ => (hk_.2) e_) (fun e_ => (hk_.1.2.2.2.1) e_))) (fun k_ hk_ => ⟨hk_.1.1.1, hk_.1.1.2.1, hk_.1.1.2.2.1, hk_.1.1.2.2.2.1, hk_.1.1.2.2.2.2.1, hk_.1.1.2.2.2.2.2.1, hk_.1.1.2.2.2.2.2.2⟩)); have n4_ := Aside0.mk (Kd.R_mono (ok' := fun k_ => some k_ ≠ (.slice Ao46 t174.length co46 : Value).ownBlock ∧ some k_ ≠ (.slice Ao54 t189.length co54 : Value).ownBlock ∧ some k_ ≠ (.slice Ao62 t196.length co62 : Value).ownBlock ∧ some k_ ≠ (.slice Ao74 t207.length co74 : Value).ownBlock ∧ some k_ ≠ (.slice Ao79 t214.length co79 : Value).ownBlock) (Kd.R_keptB ((Kd.R_apart' HO182.out (Kd.R_typed HO201.out) (by decide))) hkp (fun k_ hk_ hs_ => Or.elim hs_ (fun e_ => (hk_.1.2.2.1) e_) (fun e_ => (hk_.2) e_))) (fun k_ hk_ => ⟨hk_.1.1.1, hk_.1.1.2.1, hk_.1.1.2.2.1, hk_.1.1.2.2.2.1, hk_.1.1.2.2.2.2⟩)); have n5_ := Aside0.mk (Kd.R_mono (ok' := fun k_ => some k_ ≠ (.slice Ao47 t177.length co47 : Value).ownBlock ∧ some k_ ≠ (.slice Ao71 t186.length co71 : Value).ownBlock ∧ some k_ ≠ (.slice Ao58 t192.length co58 : Value).ownBlock ∧ some k_ ≠ (.slice Ao67 t199.length co67 : Value).ownBlock ∧ some k_ ≠ (.slice Ao70 t203.length co70 : Value).ownBlock ∧ some k_ ≠ (.slice Ao75 t210.length co75 : Value).ownBlock ∧ some k_ ≠ (.slice Ao80 t217.length co80 : Value).ownBlock) (Kd.R_keptB ((Kd.R_apart' HO185.out (Kd.R_typed HO198.out) (by decide))) hkp (fun k_ hk_ hs_ => Or.elim hs_ (fun e_ => (hk_.2) e_) (fun e_ => (hk_.1.2.2.2.1) e_))) (fun k_ hk_ => ⟨hk_.1.1.1, hk_.1.1.2.1, hk_.1.1.2.2.1, hk_.1.1.2.2.2.1, hk_.1.1.2.2.2.2.1, hk_.1.1.2.2.2.2.2.1, hk_.1.1.2.2.2.2.2.2⟩)); have n6_ := Aside0.mk (Kd.R_mono (ok' := fun k_ => some k_ ≠ (.slice Ao47 t177.length co47 : Value).ownBlock ∧ some k_ ≠ (.slice Ao49 t183.length co49 : Value).ownBlock ∧ some k_ ≠ (.slice Ao58 t192.length co58 : Value).ownBlock ∧ some k_ ≠ (.slice Ao67 t199.length co67 : Value).ownBlock ∧ some k_ ≠ (.slice Ao70 t203.length co70 : Value).ownBlock ∧ some k_ ≠ (.slice Ao75 t210.length co75 : Value).ownBlock ∧ some k_ ≠ (.slice Ao80 t217.length co80 : Value).ownBlock) (Kd.R_keptB ((Kd.R_apart' HO188.out (Kd.R_typed HO198.out) (by decide))) hkp (fun k_ hk_ hs_ => Or.elim hs_ (fun e_ => (hk_.2) e_) (fun e_ => (hk_.1.2.2.2.1) e_))) (fun k_ hk_ => ⟨hk_.1.1.1, hk_.1.1.2.1, hk_.1.1.2.2.1, hk_.1.1.2.2.2.1, hk_.1.1.2.2.2.2.1, hk_.1.1.2.2.2.2.2.1, hk_.1.1.2.2.2.2.2.2⟩)); have n7_ := Aside0.mk (Kd.Q_mono (ok' := fun k_ => some k_ ≠ (.slice Ao46 t174.length co46 : Value).ownBlock ∧ some k_ ≠ (.slice Ao48 t180.length co48 : Value).ownBlock ∧ some k_ ≠ (.slice Ao62 t196.length co62 : Value).ownBlock ∧ some k_ ≠ (.slice Ao74 t207.length co74 : Value).ownBlock ∧ some k_ ≠ (.slice Ao79 t214.length co79 : Value).ownBlock) (Kd.Q_keptB ((Kd.Q_apart' HO191.out (Kd.R_typed HO201.out) (by decide))) hkp (fun k_ hk_ hs_ => Or.elim hs_ (fun e_ => (hk_.1.1.1.2) e_) (fun e_ => (hk_.2) e_))) (fun k_ hk_ => ⟨hk_.1.1.1.1.1.1.2, hk_.1.1.1.1.1.2, hk_.1.1.1.1.2, hk_.1.1.1.2, hk_.1.1.2⟩)); have n8_ := Aside0.mk (Kd.Q_mono (ok' := fun k_ => some k_ ≠ (.slice Ao47 t177.length co47 : Value).ownBlock ∧ some k_ ≠ (.slice Ao49 t183.length co49 : Value).ownBlock ∧ some k_ ≠ (.slice Ao71 t186.length co71 : Value).ownBlock ∧ some k_ ≠ (.slice Ao67 t199.length co67 : Value).ownBlock ∧ some k_ ≠ (.slice Ao70 t203.length co70 : Value).ownBlock ∧ some k_ ≠ (.slice Ao75 t210.length co75 : Value).ownBlock ∧ some k_ ≠ (.slice Ao80 t217.length co80 : Value).ownBlock) (Kd.Q_keptB ((Kd.Q_apart' HO194.out (Kd.R_typed HO198.out) (by decide))) hkp (fun k_ hk_ hs_ => Or.elim hs_ (fun e_ => (hk_.2) e_) (fun e_ => (hk_.1.1.1.1.2) e_))) (fun k_ hk_ => ⟨hk_.1.1.1.1.1.1.1.1.2, hk_.1.1.1.1.1.1.1.2, hk_.1.1.1.1.1.1.2, hk_.1.1.1.1.1.2, hk_.1.1.1.1.2, hk_.1.1.1.2, hk_.1.1.2⟩)); have n9_ := Aside0.mk (blk_kept (by (with_reducible repeat (first | refine blk_drewN ?_ _ | refine blk_drew ?_ | refine blk_alloc ?_ _)); exact BK195.out) hkp (fun hs_ => Or.elim hs_ (fun e_ => (fun e_ => (Kd.R_ne HO198.out BK195.out (by decide)) e_) e_) (fun e_ => (fun e_ => (Kd.R_ne HO201.out BK195.out (by decide)) e_) e_))); have n10_ := Aside0.mk (Kd.Q_reok rfl hy0 (fun k_ e_ => HO198.out.1 k_ e_)); have n11_ := Aside0.mk (Kd.Q_reok rfl hy1 (fun k_ e_ => HO201.out.1 k_ e_)); have n12_ := Aside0.mk (blk_kept (by (with_reducible repeat (first | refine blk_drewN ?_ _ | refine blk_drew ?_ | refine blk_alloc ?_ _)); exact BK202.out) hkp (fun hs_ => Or.elim hs_ (fun e_ => (fun e_ => (Kd.R_ne HO198.out BK202.out (by decide)) e_) e_) (fun e_ => (fun e_ => (Kd.R_ne HO201.out BK202.out (by decide)) e_) e_))); have n13_ := Aside0.mk (Kd.Q_mono (ok' := fun k_ => some k_ ≠ (.slice Ao47 t177.length co47 : Value).ownBlock ∧ some k_ ≠ (.slice Ao49 t183.length co49 : Value).ownBlock ∧ some k_ ≠ (.slice Ao71 t186.length co71 : Value).ownBlock ∧ some k_ ≠ (.slice Ao58 t192.length co58 : Value).ownBlock ∧ some k_ ≠ (.slice Ao67 t199.length co67 : Value).ownBlock ∧ some k_ ≠ (.slice Ao75 t210.length co75 : Value).ownBlock ∧ some k_ ≠ (.slice Ao80 t217.length co80 : Value).ownBlock) (Kd.Q_keptB ((Kd.Q_apart' HO205.out (Kd.R_typed HO198.out) (by decide))) hkp (fun k_ hk_ hs_ => Or.elim hs_ (fun e_ => (hk_.2) e_) (fun e_ => (hk_.1.2.2.2.2.1) e_))) (fun k_ hk_ => ⟨hk_.1.1.1, hk_.1.1.2.1, hk_.1.1.2.2.1, hk_.1.1.2.2.2.1, hk_.1.1.2.2.2.2.1, hk_.1.1.2.2.2.2.2.1, hk_.1.1.2.2.2.2.2.2⟩)); have n14_ := Aside0.mk (Kd.R_mono (ok' := fun k_ => some k_ ≠ (.slice Ao46 t174.length co46 : Value).ownBlock ∧ some k_ ≠ (.slice Ao48 t180.length co48 : Value).ownBlock ∧ some k_ ≠ (.slice Ao54 t189.length co54 : Value).ownBlock ∧ some k_ ≠ (.slice Ao62 t196.length co62 : Value).ownBlock ∧ some k_ ≠ (.slice Ao79 t214.length co79 : Value).ownBlock) (Kd.R_keptB ((Kd.R_apart' HO209.out (Kd.R_typed HO201.out) (by decide))) hkp (fun k_ hk_ hs_ => Or.elim hs_ (fun e_ => (hk_.1.2.2.2.1) e_) (fun e_ => (hk_.2) e_))) (fun k_ hk_ => ⟨hk_.1.1.1, hk_.1.1.2.1, hk_.1.1.2.2.1, hk_.1.1.2.2.2.1, hk_.1.1.2.2.2.2⟩)); have n15_ := Aside0.mk (Kd.R_mono (ok' := fun k_ => some k_ ≠ (.slice Ao47 t177.length co47 : Value).ownBlock ∧ some k_ ≠ (.slice Ao49 t183.length co49 : Value).ownBlock ∧ some k_ ≠ (.slice Ao71 t186.length co71 : Value).ownBlock ∧ some k_ ≠ (.slice Ao58 t192.length co58 : Value).ownBlock ∧ some k_ ≠ (.slice Ao67 t199.length co67 : Value).ownBlock ∧ some k_ ≠ (.slice Ao70 t203.length co70 : Value).ownBlock ∧ some k_ ≠ (.slice Ao80 t217.length co80 : Value).ownBlock) (Kd.R_keptB ((Kd.R_apart' HO212.out (Kd.R_typed HO198.out) (by decide))) hkp (fun k_ hk_ hs_ => Or.elim hs_ (fun e_ => (hk_.2) e_) (fun e_ => (hk_.1.2.2.2.2.1) e_))) (fun k_ hk_ => ⟨hk_.1.1.1, hk_.1.1.2.1, hk_.1.1.2.2.1, hk_.1.1.2.2.2.1, hk_.1.1.2.2.2.2.1, hk_.1.1.2.2.2.2.2.1, hk_.1.1.2.2.2.2.2.2⟩)); have n16_ := Aside0.mk (Kd.R_mono (ok' := fun k_ => some k_ ≠ (.slice Ao46 t174.length co46 : Value).ownBlock ∧ some k_ ≠ (.slice Ao48 t180.length co48 : Value).ownBlock ∧ some k_ ≠ (.slice Ao54 t189.length co54 : Value).ownBlock ∧ some k_ ≠ (.slice Ao62 t196.length co62 : Value).ownBlock ∧ some k_ ≠ (.slice Ao74 t207.length co74 : Value).ownBlock) (Kd.R_keptB ((Kd.R_apart' HO216.out (Kd.R_typed HO201.out) (by decide))) hkp (fun k_ hk_ hs_ => Or.elim hs_ (fun e_ => (hk_.1.2.2.2.1) e_) (fun e_ => (hk_.2) e_))) (fun k_ hk_ => ⟨hk_.1.1.1, hk_.1.1.2.1, hk_.1.1.2.2.1, hk_.1.1.2.2.2.1, hk_.1.1.2.2.2.2⟩)); have n17_ := Aside0.mk (Kd.R_mono (ok' := fun k_ => some k_ ≠ (.slice Ao47 t177.length co47 : Value).ownBlock ∧ some k_ ≠ (.slice Ao49 t183.length co49 : Value).ownBlock ∧ some k_ ≠ (.slice Ao71 t186.length co71 : Value).ownBlock ∧ some k_ ≠ (.slice Ao58 t192.length co58 : Value).ownBlock ∧ some k_ ≠ (.slice Ao67 t199.length co67 : Value).ownBlock ∧ some k_ ≠ (.slice Ao70 t203.length co70 : Value).ownBlock ∧ some k_ ≠ (.slice Ao75 t210.length co75 : Value).ownBlock) (Kd.R_keptB ((Kd.R_apart' HO219.out (Kd.R_typed HO198.out) (by decide))) hkp (fun k_ hk_ hs_ => Or.elim hs_ (fun e_ => (hk_.2) e_) (fun e_ => (hk_.1.2.2.2.2.1) e_))) (fun k_ hk_ => ⟨hk_.1.1.1, hk_.1.1.2.1, hk_.1.1.2.2.1, hk_.1.1.2.2.2.1, hk_.1.1.2.2.2.2.1, hk_.1.1.2.2.2.2.2.1, hk_.1.1.2.2.2.2.2.2⟩)); have n18_ := Aside0.mk (hb); clear BK170; clear BK171; clear HO176; clear HO179; clear HO182; clear HO185; clear HO188; clear HO191; clear HO194; clear BK195; clear HO198; clear HO201; clear BK202; clear HO205; clear HO209; clear HO212; clear HO216; clear HO219; clear HB; have BK170 := n0_; have BK171 := n1_; have HO176 := n2_; have HO179 := n3_; have HO182 := n4_; have HO185 := n5_; have HO188 := n6_; have HO191 := n7_; have HO194 := n8_; have BK195 := n9_; have HO198 := n10_; have HO201 := n11_; have BK202 := n12_; have HO205 := n13_; have HO209 := n14_; have HO212 := n15_; have HO216 := n16_; have HO219 := n17_; have HB := n18_; clear n0_ n1_ n2_ n3_ n4_ n5_ n6_ n7_ n8_ n9_ n10_ n11_ n12_ n13_ n14_ n15_ n16_ n17_ n18_; (try clear hb); (try clear hkp); (try clear hy0); (try clear hy1)))
            (try simp only [Act.put, List.setIfInBounds_toArray, List.set_cons_zero, List.set_cons_succ])
            go_cut [63] (fun v63 wc => ∃ (kq : Nat) (x63_34 : Bool), v63 = .bool x63_34 ∧ Aside0 (laws_FnExactChangedBits.j0 kq t186 t203 x63_34 l0_0 l0_1 l1_0 l1_1 = some r) ∧ Aside0 (kq ≤ k) ∧ Aside0 (Kd.R (Kd.int .i64) 3 wc w.heap.size (fun k_ => some k_ ≠ ((.slice Ao70 t203.length co70) : Value).ownBlock ∧ some k_ ≠ ((.slice Ao58 t192.length co58) : Value).ownBlock ∧ some k_ ≠ ((.slice Ao67 t199.length co67) : Value).ownBlock) (.slice Ao71 t186.length co71) t186) ∧ Aside0 (Kd.Q (Kd.int .i64) 3 wc w.heap.size (fun k_ => some k_ ≠ ((.slice Ao71 t186.length co71) : Value).ownBlock ∧ some k_ ≠ ((.slice Ao58 t192.length co58) : Value).ownBlock ∧ some k_ ≠ ((.slice Ao67 t199.length co67) : Value).ownBlock) (.slice Ao70 t203.length co70) t203) ∧ Aside0 (Kd.Q Kd.bool 4 wc w.heap.size (fun k_ => some k_ ≠ ((.slice Ao62 t196.length co62) : Value).ownBlock) (.slice Ao54 t189.length co54) t222) ∧ Aside0 (Kd.Q (Kd.int .i64) 3 wc w.heap.size (fun k_ => some k_ ≠ ((.slice Ao71 t186.length co71) : Value).ownBlock ∧ some k_ ≠ ((.slice Ao70 t203.length co70) : Value).ownBlock ∧ some k_ ≠ ((.slice Ao67 t199.length co67) : Value).ownBlock) (.slice Ao58 t192.length co58) t223) ∧ Aside0 (Kd.Q Kd.bool 4 wc w.heap.size (fun k_ => some k_ ≠ ((.slice Ao54 t189.length co54) : Value).ownBlock) (.slice Ao62 t196.length co62) t225) ∧ Aside0 (Kd.Q (Kd.int .i64) 3 wc w.heap.size (fun k_ => some k_ ≠ ((.slice Ao71 t186.length co71) : Value).ownBlock ∧ some k_ ≠ ((.slice Ao70 t203.length co70) : Value).ownBlock ∧ some k_ ≠ ((.slice Ao58 t192.length co58) : Value).ownBlock) (.slice Ao67 t199.length co67) t226) ∧ Aside0 (wc.heap[gb170]? = some (.cells #[(.slice A0_0 l0_0.length c0_0), (.slice A0_1 l0_1.length c0_1)] 62 (0, 0))) ∧ Aside0 (wc.heap[gb171]? = some (.cells #[(.slice A1_0 l1_0.length c1_0), (.slice A1_1 l1_1.length c1_1)] 62 (0, 0))) ∧ Aside0 (wc.heap[gb195]? = some (.cells #[(.slice Ao54 t189.length co54), (.slice Ao58 t192.length co58)] 65 (0, 0))) ∧ Aside0 (wc.heap[gb202]? = some (.cells #[(.slice Ao62 t196.length co62), (.slice Ao67 t199.length co67)] 65 (0, 0))) ∧ Aside0 (Below w.heap.size w wc))
            case first =>
              have H := HC35.out
              clear HC35
              by_cases c86 : t224 < 0
              · rw [if_pos c86] at H
                have c86b0 : decide (t224 < 0) = true := decide_eq_true c86
                clear c86
                (first | rw [c86b0] | (simp only [i64_w, i32_w]; rw [c86b0]) | skip)
                have H' := Aside0.mk H
                clear H
                go_wp2
                go_meet
                case rel => exact ⟨_, (true), (by first | rfl | (simp; done) | (simp [*]; done)), H', ⟨by first | omega | exact Nat.le_refl _⟩, ⟨by (with_reducible repeat (first | apply Kd.R_alloc | apply Kd.R_drewN | apply Kd.R_drew)); exact Kd.R_mono HO188.out (fun _ hk => ⟨hk.2.2.2.2.1, ⟨hk.2.2.1, hk.2.2.2.1⟩⟩)⟩, ⟨by (with_reducible repeat (first | apply Kd.Q_alloc | apply Kd.Q_drewN | apply Kd.Q_drew)); exact Kd.Q_mono HO205.out (fun _ hk => ⟨hk.2.2.1, ⟨hk.2.2.2.1, hk.2.2.2.2.1⟩⟩)⟩, ⟨by (with_reducible repeat (first | apply Kd.Q_alloc | apply Kd.Q_drewN | apply Kd.Q_drew)); exact Kd.Q_mono HO191.out (fun _ hk => hk.2.2.1)⟩, ⟨by (with_reducible repeat (first | apply Kd.Q_alloc | apply Kd.Q_drewN | apply Kd.Q_drew)); exact Kd.Q_mono HO194.out (fun _ hk => ⟨hk.2.2.1, ⟨hk.2.2.2.2.1, hk.2.2.2.1⟩⟩)⟩, ⟨by (with_reducible repeat (first | apply Kd.Q_alloc | apply Kd.Q_drewN | apply Kd.Q_drew)); exact Kd.Q_mono HO198.out (fun _ hk => hk.2.2.1)⟩, ⟨by (with_reducible repeat (first | apply Kd.Q_alloc | apply Kd.Q_drewN | apply Kd.Q_drew)); exact Kd.Q_mono HO201.out (fun _ hk => ⟨hk.2.2.1, ⟨hk.2.2.2.2.1, hk.2.2.2.1⟩⟩)⟩, ⟨by (with_reducible repeat (first | refine blk_drewN ?_ _ | refine blk_drew ?_ | refine blk_alloc ?_ _)); exact BK170.out⟩, ⟨by (with_reducible repeat (first | refine blk_drewN ?_ _ | refine blk_drew ?_ | refine blk_alloc ?_ _)); exact BK171.out⟩, ⟨by (with_reducible repeat (first | refine blk_drewN ?_ _ | refine blk_drew ?_ | refine blk_alloc ?_ _)); exact BK195.out⟩, ⟨by (with_reducible repeat (first | refine blk_drewN ?_ _ | refine blk_drew ?_ | refine blk_alloc ?_ _)); exact BK202.out⟩, ⟨by repeat (first | (with_reducible first | exact HB.out | apply below_alloc | apply pw_below_drewN | apply below_drew1 | refine below_set ?_ GE170.out | refine below_set ?_ GE171.out | refine below_set ?_ GE195.out | refine below_set ?_ GE202.out) | exact HB.out)⟩⟩
              · rw [if_neg c86] at H
                have c86b0 : decide (t224 < 0) = false := decide_eq_false c86
                clear c86
                (first | rw [c86b0] | (simp only [i64_w, i32_w]; rw [c86b0]) | skip)
                replace H := Option.bind_eq_some_iff.mp H
                obtain ⟨t227, A870, H⟩ := H
                replace H : (laws_FnExactChangedBits.j0 k t186 t203 (!t227) l0_0 l0_1 l1_0 l1_1) = some r := H
                have A87 := Aside0.mk A870
                clear A870
                have H' := Aside0.mk H
                clear H
                go_wp2_with (first | (go_at_call 19; (with_reducible refine (laws_eqIntS.calls k _ _ t203 _ _ t186 t227 _ ?side1 ?side2 ?side3 ?side4 A87.out).mono ?_); (case side1 => repeat (first | exact (Kd.Q_reads' HO205.out).2.2 | (with_reducible refine Kd.C_alloc ?_ _) | (with_reducible refine Kd.C_drewN ?_ _) | (with_reducible refine Kd.C_drew ?_))); (case side2 => exact (Kd.Q_reads' HO205.out).2.1); (case side3 => repeat (first | exact (Kd.R_reads' HO188.out).2.2 | (with_reducible refine Kd.C_alloc ?_ _) | (with_reducible refine Kd.C_drewN ?_ _) | (with_reducible refine Kd.C_drew ?_))); (case side4 => exact (Kd.R_reads' HO188.out).2.1); rintro e w' ⟨rfl, ⟨nd, rfl⟩⟩))
                go_meet
                case rel => exact ⟨_, (!t227), (by first | rfl | (simp; done) | (simp [*]; done)), H', ⟨by first | omega | exact Nat.le_refl _⟩, ⟨by (with_reducible repeat (first | apply Kd.R_alloc | apply Kd.R_drewN | apply Kd.R_drew)); exact Kd.R_mono HO188.out (fun _ hk => ⟨hk.2.2.2.2.1, ⟨hk.2.2.1, hk.2.2.2.1⟩⟩)⟩, ⟨by (with_reducible repeat (first | apply Kd.Q_alloc | apply Kd.Q_drewN | apply Kd.Q_drew)); exact Kd.Q_mono HO205.out (fun _ hk => ⟨hk.2.2.1, ⟨hk.2.2.2.1, hk.2.2.2.2.1⟩⟩)⟩, ⟨by (with_reducible repeat (first | apply Kd.Q_alloc | apply Kd.Q_drewN | apply Kd.Q_drew)); exact Kd.Q_mono HO191.out (fun _ hk => hk.2.2.1)⟩, ⟨by (with_reducible repeat (first | apply Kd.Q_alloc | apply Kd.Q_drewN | apply Kd.Q_drew)); exact Kd.Q_mono HO194.out (fun _ hk => ⟨hk.2.2.1, ⟨hk.2.2.2.2.1, hk.2.2.2.1⟩⟩)⟩, ⟨by (with_reducible repeat (first | apply Kd.Q_alloc | apply Kd.Q_drewN | apply Kd.Q_drew)); exact Kd.Q_mono HO198.out (fun _ hk => hk.2.2.1)⟩, ⟨by (with_reducible repeat (first | apply Kd.Q_alloc | apply Kd.Q_drewN | apply Kd.Q_drew)); exact Kd.Q_mono HO201.out (fun _ hk => ⟨hk.2.2.1, ⟨hk.2.2.2.2.1, hk.2.2.2.1⟩⟩)⟩, ⟨by (with_reducible repeat (first | refine blk_drewN ?_ _ | refine blk_drew ?_ | refine blk_alloc ?_ _)); exact BK170.out⟩, ⟨by (with_reducible repeat (first | refine blk_drewN ?_ _ | refine blk_drew ?_ | refine blk_alloc ?_ _)); exact BK171.out⟩, ⟨by (with_reducible repeat (first | refine blk_drewN ?_ _ | refine blk_drew ?_ | refine blk_alloc ?_ _)); exact BK195.out⟩, ⟨by (with_reducible repeat (first | refine blk_drewN ?_ _ | refine blk_drew ?_ | refine blk_alloc ?_ _)); exact BK202.out⟩, ⟨by repeat (first | (with_reducible first | exact HB.out | apply below_alloc | apply pw_below_drewN | apply below_drew1 | refine below_set ?_ GE170.out | refine below_set ?_ GE171.out | refine below_set ?_ GE195.out | refine below_set ?_ GE202.out) | exact HB.out)⟩⟩
            case rest =>
              clear HC35
              try clear c1
              try clear p2
              try clear c5
              try clear c6
              try clear c8
              try clear c19
              try clear c53
              try clear c55
              try clear c56
              try clear c58
              try clear c59
              try clear c60
              try clear c63
              try clear c64
              try clear c65
              try clear c86
              try clear c86b0
              try clear hcz51_0
              try clear hcz51_1
              try clear hcz57_0
              try clear hcz57_1
              try clear hcz59_0
              try clear hcz59_1
              try clear hcz66_0
              try clear hcz66_1
              try clear hcz68_0
              try clear hcz68_1
              try clear hcz82_0
              try clear hcz82_1
              try clear hcz84_0
              try clear hcz84_1
              try clear hfz51_0
              try clear hfz51_1
              try clear hfz57_0
              try clear hfz57_1
              try clear hfz59_0
              try clear hfz59_1
              try clear hfz66_0
              try clear hfz66_1
              try clear hfz68_0
              try clear hfz68_1
              try clear hfz82_0
              try clear hfz82_1
              try clear hfz84_0
              try clear hfz84_1
              obtain ⟨kq, x63_34, rfl, HA, HJ34, HO_6, HO_9, HO_196000, HO_196001, HO_203000, HO_203001, BK170, BK171, BK195, BK202, HB⟩ := hcut
              have hl196000_34 := (Kd.Q_reads' HO_196000.out).1
              rw [hl196000_34] at HO_196000
              (try simp only [hl196000_34])
              (try simp only [hl196000_34] at BK170)
              (try simp only [hl196000_34] at BK171)
              (try simp only [hl196000_34] at BK195)
              (try simp only [hl196000_34] at BK202)
              (try simp only [hl196000_34] at HO_6)
              (try simp only [hl196000_34] at HO_9)
              (try simp only [hl196000_34] at HO_196001)
              (try simp only [hl196000_34] at HO_203000)
              (try simp only [hl196000_34] at HO_203001)
              have hl196001_34 := (Kd.Q_reads' HO_196001.out).1
              rw [hl196001_34] at HO_196001
              (try simp only [hl196001_34])
              (try simp only [hl196001_34] at BK170)
              (try simp only [hl196001_34] at BK171)
              (try simp only [hl196001_34] at BK195)
              (try simp only [hl196001_34] at BK202)
              (try simp only [hl196001_34] at HO_6)
              (try simp only [hl196001_34] at HO_9)
              (try simp only [hl196001_34] at HO_196000)
              (try simp only [hl196001_34] at HO_203000)
              (try simp only [hl196001_34] at HO_203001)
              have hl203000_34 := (Kd.Q_reads' HO_203000.out).1
              rw [hl203000_34] at HO_203000
              (try simp only [hl203000_34])
              (try simp only [hl203000_34] at BK170)
              (try simp only [hl203000_34] at BK171)
              (try simp only [hl203000_34] at BK195)
              (try simp only [hl203000_34] at BK202)
              (try simp only [hl203000_34] at HO_6)
              (try simp only [hl203000_34] at HO_9)
              (try simp only [hl203000_34] at HO_196000)
              (try simp only [hl203000_34] at HO_196001)
              (try simp only [hl203000_34] at HO_203001)
              have hl203001_34 := (Kd.Q_reads' HO_203001.out).1
              rw [hl203001_34] at HO_203001
              (try simp only [hl203001_34])
              (try simp only [hl203001_34] at BK170)
              (try simp only [hl203001_34] at BK171)
              (try simp only [hl203001_34] at BK195)
              (try simp only [hl203001_34] at BK202)
              (try simp only [hl203001_34] at HO_6)
              (try simp only [hl203001_34] at HO_9)
              (try simp only [hl203001_34] at HO_196000)
              (try simp only [hl203001_34] at HO_196001)
              (try simp only [hl203001_34] at HO_203000)
              cases kq with
              | zero => exact absurd HA.out (by simp [laws_FnExactChangedBits.j0])
              | succ kj34 =>
                have H := HA.out
                clear HA
                simp only [laws_FnExactChangedBits.j0] at H
                by_cases c88 : x63_34 = true
                · subst c88
                  have H1 : (none) = some r := by rw [if_pos rfl] at H; exact H
                  clear H
                  have H := H1
                  clear H1
                  exact absurd H (by simp)
                · replace c88 := Bool.eq_false_iff.mpr c88
                  subst c88
                  have H1 : ((laws_markIntS.f kj34 t203 1).bind fun bt228 => ((laws_heldIntS.f kj34 bt228.2 1).bind fun t230 => (if t230 < 0 then (none) else (if t230 = bt228.1 then ((laws_toImage.f kj34 l0_0 l0_1).bind fun bt231 => ((laws_toImage.f kj34 l1_0 l1_1).bind fun bt237 => ((impl_ChangedBits.f kj34 bt231.1 bt231.2 bt237.1 bt237.2).bind fun t243 => ((laws_eqIntS.f kj34 t243 t186).bind fun t246 => (if t246 = true then ((laws_heldIntS.f kj34 bt228.2 1).bind fun t247 => (if t247 < 0 then (none) else (if t247 = bt228.1 then (some true) else (none)))) else (none)))))) else (none))))) = some r := by rw [if_neg (show ¬ (false = true) by decide)] at H; exact H
                  clear H
                  have H := H1
                  clear H1
                  replace H := Option.bind_eq_some_iff.mp H
                  obtain ⟨⟨t228, t229⟩, A890, H⟩ := H
                  replace H : ((laws_heldIntS.f kj34 t229 1).bind fun t230 => (if t230 < 0 then (none) else (if t230 = t228 then ((laws_toImage.f kj34 l0_0 l0_1).bind fun bt231 => ((laws_toImage.f kj34 l1_0 l1_1).bind fun bt237 => ((impl_ChangedBits.f kj34 bt231.1 bt231.2 bt237.1 bt237.2).bind fun t243 => ((laws_eqIntS.f kj34 t243 t186).bind fun t246 => (if t246 = true then ((laws_heldIntS.f kj34 t229 1).bind fun t247 => (if t247 < 0 then (none) else (if t247 = t228 then (some true) else (none)))) else (none)))))) else (none)))) = some r := H
                  have A89 := Aside0.mk A890
                  clear A890
                  replace H := Option.bind_eq_some_iff.mp H
                  obtain ⟨t230, A900, H⟩ := H
                  replace H : (if t230 < 0 then (none) else (if t230 = t228 then ((laws_toImage.f kj34 l0_0 l0_1).bind fun bt231 => ((laws_toImage.f kj34 l1_0 l1_1).bind fun bt237 => ((impl_ChangedBits.f kj34 bt231.1 bt231.2 bt237.1 bt237.2).bind fun t243 => ((laws_eqIntS.f kj34 t243 t186).bind fun t246 => (if t246 = true then ((laws_heldIntS.f kj34 t229 1).bind fun t247 => (if t247 < 0 then (none) else (if t247 = t228 then (some true) else (none)))) else (none)))))) else (none))) = some r := H
                  have A90 := Aside0.mk A900
                  clear A900
                  by_cases c91 : t230 < 0
                  · rw [if_pos c91] at H
                    exact absurd H (by simp)
                  · rw [if_neg c91] at H
                    have c91b0 : decide (t230 < 0) = false := decide_eq_false c91
                    clear c91
                    by_cases c92 : t230 = t228
                    · rw [if_pos c92] at H
                      have c92b0 : (t230 == t228) = true := beq_iff_eq.mpr c92
                      have c92b1 : (t230 != t228) = false := bne_eq_false_iff_eq.mpr c92
                      clear c92
                      replace H := Option.bind_eq_some_iff.mp H
                      obtain ⟨⟨t231, t234⟩, A930, H⟩ := H
                      replace H : ((laws_toImage.f kj34 l1_0 l1_1).bind fun bt237 => ((impl_ChangedBits.f kj34 t231 t234 bt237.1 bt237.2).bind fun t243 => ((laws_eqIntS.f kj34 t243 t186).bind fun t246 => (if t246 = true then ((laws_heldIntS.f kj34 t229 1).bind fun t247 => (if t247 < 0 then (none) else (if t247 = t228 then (some true) else (none)))) else (none))))) = some r := H
                      have A93 := Aside0.mk A930
                      clear A930
                      replace H := Option.bind_eq_some_iff.mp H
                      obtain ⟨⟨t237, t240⟩, A940, H⟩ := H
                      replace H : ((impl_ChangedBits.f kj34 t231 t234 t237 t240).bind fun t243 => ((laws_eqIntS.f kj34 t243 t186).bind fun t246 => (if t246 = true then ((laws_heldIntS.f kj34 t229 1).bind fun t247 => (if t247 < 0 then (none) else (if t247 = t228 then (some true) else (none)))) else (none)))) = some r := H
                      have A94 := Aside0.mk A940
                      clear A940
                      replace H := Option.bind_eq_some_iff.mp H
                      obtain ⟨t243, A950, H⟩ := H
                      replace H : ((laws_eqIntS.f kj34 t243 t186).bind fun t246 => (if t246 = true then ((laws_heldIntS.f kj34 t229 1).bind fun t247 => (if t247 < 0 then (none) else (if t247 = t228 then (some true) else (none)))) else (none))) = some r := H
                      have A95 := Aside0.mk A950
                      clear A950
                      replace H := Option.bind_eq_some_iff.mp H
                      obtain ⟨t246, A960, H⟩ := H
                      replace H : (if t246 = true then ((laws_heldIntS.f kj34 t229 1).bind fun t247 => (if t247 < 0 then (none) else (if t247 = t228 then (some true) else (none)))) else (none)) = some r := H
                      have A96 := Aside0.mk A960
                      clear A960
                      by_cases c97 : t246 = true
                      · subst c97
                        have H1 : ((laws_heldIntS.f kj34 t229 1).bind fun t247 => (if t247 < 0 then (none) else (if t247 = t228 then (some true) else (none)))) = some r := by rw [if_pos rfl] at H; exact H
                        clear H
                        have H := H1
                        clear H1
                        replace H := Option.bind_eq_some_iff.mp H
                        obtain ⟨t247, A980, H⟩ := H
                        replace H : (if t247 < 0 then (none) else (if t247 = t228 then (some true) else (none))) = some r := H
                        have A98 := Aside0.mk A980
                        clear A980
                        by_cases c99 : t247 < 0
                        · rw [if_pos c99] at H
                          exact absurd H (by simp)
                        · rw [if_neg c99] at H
                          have c99b0 : decide (t247 < 0) = false := decide_eq_false c99
                          clear c99
                          by_cases c100 : t247 = t228
                          · rw [if_pos c100] at H
                            have c100b0 : (t247 == t228) = true := beq_iff_eq.mpr c100
                            have c100b1 : (t247 != t228) = false := bne_eq_false_iff_eq.mpr c100
                            clear c100
                            obtain rfl := Option.some.inj H
                            try go_wp2_with (first | ((with_reducible refine gate_callee (f := 22) rfl ?_); refine goesL_ (some 66) rfl rfl Try.func22 (by kernel_rfl) rfl #[.slice Ao70 t203.length co70, .int .i64 1] rfl (by (try simp only [List.map_toArray, List.map_cons, List.map_nil]); first | done | rfl | (simp only [List.length_drop, List.length_take]; rfl)) ?_; (with_reducible refine (laws_markIntS.calls kj34 (fun k_ => some k_ = (.slice Ao70 t203.length co70 : Value).ownBlock) (.slice Ao70 t203.length co70) t203 1 t228 t229 w _ ?side1 ?side2 A89.out).mono ?_); (case side1 => repeat (first | (with_reducible first | exact HB.out | apply below_alloc | apply pw_below_drewN | apply below_drew1 | refine below_set ?_ GE170.out | refine below_set ?_ GE171.out | refine below_set ?_ GE195.out | refine below_set ?_ GE202.out) | exact HB.out)); (case side2 => exact Kd.Q_tight rfl HO_9.out); rintro e w101 ⟨rfl, hy0, hb, hkp⟩; refine ⟨_, rfl, ?_⟩; have n0_ := Aside0.mk (Kd.R_mono (ok' := fun k_ => some k_ ≠ (.slice Ao70 t203.length co70 : Value).ownBlock ∧ some k_ ≠ (.slice Ao58 t223.length co58 : Value).ownBlock ∧ some k_ ≠ (.slice Ao67 t226.length co67 : Value).ownBlock) (Kd.R_keptB (HO_6.out) hkp (fun k_ hk_ hs_ => (hk_.1) hs_)) (fun k_ hk_ => ⟨hk_.1.1, hk_.1.2.1, hk_.1.2.2⟩)); have n1_ := Aside0.mk (Kd.Q_reok rfl hy0 (fun k_ e_ => HO_9.out.1 k_ e_)); have n2_ := Aside0.mk (Kd.Q_mono (ok' := fun k_ => some k_ ≠ (.slice Ao62 t225.length co62 : Value).ownBlock) (Kd.Q_keptB ((Kd.Q_apart' HO_196000.out (Kd.Q_typed HO_9.out) (by decide))) hkp (fun k_ hk_ hs_ => (hk_.2) hs_)) (fun k_ hk_ => hk_.1.1)); have n3_ := Aside0.mk (Kd.Q_mono (ok' := fun k_ => some k_ ≠ (.slice Ao71 t186.length co71 : Value).ownBlock ∧ some k_ ≠ (.slice Ao70 t203.length co70 : Value).ownBlock ∧ some k_ ≠ (.slice Ao67 t226.length co67 : Value).ownBlock) (Kd.Q_keptB (HO_196001.out) hkp (fun k_ hk_ hs_ => (hk_.2.1) hs_)) (fun k_ hk_ => ⟨hk_.1.1, hk_.1.2.1, hk_.1.2.2⟩)); have n4_ := Aside0.mk (Kd.Q_mono (ok' := fun k_ => some k_ ≠ (.slice Ao54 t222.length co54 : Value).ownBlock) (Kd.Q_keptB ((Kd.Q_apart' HO_203000.out (Kd.Q_typed HO_9.out) (by decide))) hkp (fun k_ hk_ hs_ => (hk_.2) hs_)) (fun k_ hk_ => hk_.1.1)); have n5_ := Aside0.mk (Kd.Q_mono (ok' := fun k_ => some k_ ≠ (.slice Ao71 t186.length co71 : Value).ownBlock ∧ some k_ ≠ (.slice Ao70 t203.length co70 : Value).ownBlock ∧ some k_ ≠ (.slice Ao58 t223.length co58 : Value).ownBlock) (Kd.Q_keptB (HO_203001.out) hkp (fun k_ hk_ hs_ => (hk_.2.1) hs_)) (fun k_ hk_ => ⟨hk_.1.1, hk_.1.2.1, hk_.1.2.2⟩)); have n6_ := Aside0.mk (blk_kept (by (with_reducible repeat (first | refine blk_drewN ?_ _ | refine blk_drew ?_ | refine blk_alloc ?_ _)); exact BK170.out) hkp (fun hs_ => (fun e_ => (Kd.Q_ne HO_9.out BK170.out (by decide)) e_) hs_)); have n7_ := Aside0.mk (blk_kept (by (with_reducible repeat (first | refine blk_drewN ?_ _ | refine blk_drew ?_ | refine blk_alloc ?_ _)); exact BK171.out) hkp (fun hs_ => (fun e_ => (Kd.Q_ne HO_9.out BK171.out (by decide)) e_) hs_)); have n8_ := Aside0.mk (blk_kept (by (with_reducible repeat (first | refine blk_drewN ?_ _ | refine blk_drew ?_ | refine blk_alloc ?_ _)); exact BK195.out) hkp (fun hs_ => (fun e_ => (Kd.Q_ne HO_9.out BK195.out (by decide)) e_) hs_)); have n9_ := Aside0.mk (blk_kept (by (with_reducible repeat (first | refine blk_drewN ?_ _ | refine blk_drew ?_ | refine blk_alloc ?_ _)); exact BK202.out) hkp (fun hs_ => (fun e_ => (Kd.Q_ne HO_9.out BK202.out (by decide)) e_) hs_)); have n10_ := Aside0.mk (hb); clear HO_6; clear HO_9; clear HO_196000; clear HO_196001; clear HO_203000; clear HO_203001; clear BK170; clear BK171; clear BK195; clear BK202; clear HB; have HO_6 := n0_; have HO_9 := n1_; have HO_196000 := n2_; have HO_196001 := n3_; have HO_203000 := n4_; have HO_203001 := n5_; have BK170 := n6_; have BK171 := n7_; have BK195 := n8_; have BK202 := n9_; have HB := n10_; clear n0_ n1_ n2_ n3_ n4_ n5_ n6_ n7_ n8_ n9_ n10_; (try clear hb); (try clear hkp); (try clear hy0)) | ((with_reducible refine gate_callee (f := 23) rfl ?_); refine goesL_ (some 69) rfl rfl Try.func23 (by kernel_rfl) rfl #[.slice Ao70 t229.length co70, .int .i64 1] rfl (by (try simp only [List.map_toArray, List.map_cons, List.map_nil]); first | done | (rw [show t229.length = t203.length from (Kd.Q_reads' HO_9.out).1.symm] <;> rfl) | rfl | (simp only [List.length_drop, List.length_take]; rfl)) ?_; (with_reducible refine (laws_heldIntS.calls kj34 _ _ t229 1 t230 _ ?side1 ?side2 A90.out).mono ?_); (case side1 => repeat (first | exact (Kd.Q_reads' HO_9.out).2.2 | (with_reducible refine Kd.C_alloc ?_ _) | (with_reducible refine Kd.C_drewN ?_ _) | (with_reducible refine Kd.C_drew ?_))); (case side2 => rw [show t229.length = t203.length from (Kd.Q_reads' HO_9.out).1.symm]; exact (Kd.Q_reads' HO_9.out).2.1); rintro e w' ⟨rfl, ⟨nd, rfl⟩⟩; refine ⟨_, rfl, ?_⟩))
                            (try (rw [drewN_self w101]; generalize hq_ : World.drewN w101 _ = w101; have n0_ : Aside0 (Kd.Q Kd.bool 4 w101 w.heap.size (fun k_ => some k_ ≠ (.slice Ao62 t225.length co62 : Value).ownBlock) (.slice Ao54 t222.length co54) t222) := ⟨by rw [← hq_]; exact (by (with_reducible repeat (first | apply Kd.Q_alloc | apply Kd.Q_drewN | apply Kd.Q_drew)); exact HO_196000.out)⟩; have n1_ : Aside0 (Kd.Q (Kd.int .i64) 3 w101 w.heap.size (fun k_ => (some k_ ≠ (.slice Ao71 t186.length co71 : Value).ownBlock ∧ (some k_ ≠ (.slice Ao70 t203.length co70 : Value).ownBlock ∧ some k_ ≠ (.slice Ao67 t226.length co67 : Value).ownBlock))) (.slice Ao58 t223.length co58) t223) := ⟨by rw [← hq_]; exact (by (with_reducible repeat (first | apply Kd.Q_alloc | apply Kd.Q_drewN | apply Kd.Q_drew)); exact HO_196001.out)⟩; have n2_ : Aside0 (Kd.Q Kd.bool 4 w101 w.heap.size (fun k_ => some k_ ≠ (.slice Ao54 t222.length co54 : Value).ownBlock) (.slice Ao62 t225.length co62) t225) := ⟨by rw [← hq_]; exact (by (with_reducible repeat (first | apply Kd.Q_alloc | apply Kd.Q_drewN | apply Kd.Q_drew)); exact HO_203000.out)⟩; have n3_ : Aside0 (Kd.Q (Kd.int .i64) 3 w101 w.heap.size (fun k_ => (some k_ ≠ (.slice Ao71 t186.length co71 : Value).ownBlock ∧ (some k_ ≠ (.slice Ao70 t203.length co70 : Value).ownBlock ∧ some k_ ≠ (.slice Ao58 t223.length co58 : Value).ownBlock))) (.slice Ao67 t226.length co67) t226) := ⟨by rw [← hq_]; exact (by (with_reducible repeat (first | apply Kd.Q_alloc | apply Kd.Q_drewN | apply Kd.Q_drew)); exact HO_203001.out)⟩; have n4_ : Aside0 (Kd.R (Kd.int .i64) 3 w101 w.heap.size (fun k_ => (some k_ ≠ (.slice Ao70 t203.length co70 : Value).ownBlock ∧ (some k_ ≠ (.slice Ao58 t223.length co58 : Value).ownBlock ∧ some k_ ≠ (.slice Ao67 t226.length co67 : Value).ownBlock))) (.slice Ao71 t186.length co71) t186) := ⟨by rw [← hq_]; exact (by (with_reducible repeat (first | apply Kd.R_alloc | apply Kd.R_drewN | apply Kd.R_drew)); exact HO_6.out)⟩; have n5_ : Aside0 (Kd.Q (Kd.int .i64) 3 w101 w.heap.size (fun k_ => (some k_ ≠ (.slice Ao71 t186.length co71 : Value).ownBlock ∧ (some k_ ≠ (.slice Ao58 t223.length co58 : Value).ownBlock ∧ some k_ ≠ (.slice Ao67 t226.length co67 : Value).ownBlock))) (.slice Ao70 t203.length co70) t229) := ⟨by rw [← hq_]; exact (by (with_reducible repeat (first | apply Kd.Q_alloc | apply Kd.Q_drewN | apply Kd.Q_drew)); exact HO_9.out)⟩; have n6_ : Aside0 (w101.heap[gb170]? = some (.cells #[.slice A0_0 l0_0.length c0_0, .slice A0_1 l0_1.length c0_1] 62 (0, 0))) := ⟨by rw [← hq_]; exact (by (with_reducible repeat (first | refine blk_drewN ?_ _ | refine blk_drew ?_ | refine blk_alloc ?_ _)); exact BK170.out)⟩; have n7_ : Aside0 (w101.heap[gb171]? = some (.cells #[.slice A1_0 l1_0.length c1_0, .slice A1_1 l1_1.length c1_1] 62 (0, 0))) := ⟨by rw [← hq_]; exact (by (with_reducible repeat (first | refine blk_drewN ?_ _ | refine blk_drew ?_ | refine blk_alloc ?_ _)); exact BK171.out)⟩; have n8_ : Aside0 (w101.heap[gb195]? = some (.cells #[.slice Ao54 t222.length co54, .slice Ao58 t223.length co58] 65 (0, 0))) := ⟨by rw [← hq_]; exact (by (with_reducible repeat (first | refine blk_drewN ?_ _ | refine blk_drew ?_ | refine blk_alloc ?_ _)); exact BK195.out)⟩; have n9_ : Aside0 (w101.heap[gb202]? = some (.cells #[.slice Ao62 t225.length co62, .slice Ao67 t226.length co67] 65 (0, 0))) := ⟨by rw [← hq_]; exact (by (with_reducible repeat (first | refine blk_drewN ?_ _ | refine blk_drew ?_ | refine blk_alloc ?_ _)); exact BK202.out)⟩; have n10_ : Aside0 (Below w.heap.size w w101) := ⟨by rw [← hq_]; exact (by repeat (first | (with_reducible first | exact HB.out | apply below_alloc | apply pw_below_drewN | apply below_drew1 | refine below_set ?_ GE170.out | refine below_set ?_ GE171.out | refine below_set ?_ GE195.out | refine below_set ?_ GE202.out) | exact HB.out))⟩; clear HO_196000 HO_196001 HO_203000 HO_203001 HO_6 HO_9 BK170 BK171 BK195 BK202 HB hq_; have HO_196000 := n0_; have HO_196001 := n1_; have HO_203000 := n2_; have HO_203001 := n3_; have HO_6 := n4_; have HO_9 := n5_; have BK170 := n6_; have BK171 := n7_; have BK195 := n8_; have BK202 := n9_; have HB := n10_; clear n0_ n1_ n2_ n3_ n4_ n5_ n6_ n7_ n8_ n9_ n10_))
                            have n0_ := Aside0.mk (Kd.R_drew HO_6.out)
                            have n1_ := Aside0.mk (Kd.Q_drew HO_9.out)
                            have n2_ := Aside0.mk (Kd.Q_drew HO_196000.out)
                            have n3_ := Aside0.mk (Kd.Q_drew HO_196001.out)
                            have n4_ := Aside0.mk (Kd.Q_drew HO_203000.out)
                            have n5_ := Aside0.mk (Kd.Q_drew HO_203001.out)
                            have n6_ := Aside0.mk (blk_drew BK170.out)
                            have n7_ := Aside0.mk (blk_drew BK171.out)
                            have n8_ := Aside0.mk (blk_drew BK195.out)
                            have n9_ := Aside0.mk (blk_drew BK202.out)
                            have n10_ := Aside0.mk (below_drew1 HB.out)
                            clear HO_6
                            clear HO_9
                            clear HO_196000
                            clear HO_196001
                            clear HO_203000
                            clear HO_203001
                            clear BK170
                            clear BK171
                            clear BK195
                            clear BK202
                            clear HB
                            have HO_6 := n0_
                            have HO_9 := n1_
                            have HO_196000 := n2_
                            have HO_196001 := n3_
                            have HO_203000 := n4_
                            have HO_203001 := n5_
                            have BK170 := n6_
                            have BK171 := n7_
                            have BK195 := n8_
                            have BK202 := n9_
                            have HB := n10_
                            clear n0_ n1_ n2_ n3_ n4_ n5_ n6_ n7_ n8_ n9_ n10_
                            refine start_ (n := 6) (S := fun w' => w'.cell? ⟨gb170, 0, none⟩ = some (.slice A0_0 l0_0.length c0_0) ∧ w'.cell? ⟨gb170, 1, none⟩ = some (.slice A0_1 l0_1.length c0_1) ∧ w'.cell? ⟨gb171, 0, none⟩ = some (.slice A1_0 l1_0.length c1_0) ∧ w'.cell? ⟨gb171, 1, none⟩ = some (.slice A1_1 l1_1.length c1_1)) (ds := []) #[false, false, false, false, false, false] (by kernel_rfl) rfl rfl ⟨(blk_cell BK170.out 0).trans rfl, (blk_cell BK170.out 1).trans rfl, (blk_cell BK171.out 0).trans rfl, (blk_cell BK171.out 1).trans rfl⟩ (fun hHeld => ?_)
                            generalize w101.drew = w102 at HO_6 HO_9 HO_196000 HO_196001 HO_203000 HO_203001 BK170 BK171 BK195 BK202 HB hHeld ⊢
                            refine take_ (i := 0) (N := some 75) (v := ?_) (a' := ?_) #[true, false, false, false, false, false] rfl rfl (by kernel_rfl) (fun _ _ _ h => h) (Or.inl ⟨by rfl, ?_⟩) hHeld ?_ ?_
                            rotate_left
                            · rintro w' ⟨s0, s1, s2, s3⟩
                              go_simp
                              with_reducible rfl
                            rotate_left
                            · simp only [Act.put, List.setIfInBounds_toArray, List.set_cons_zero, List.set_cons_succ, i64_w, i32_w]
                              rfl
                            refine take_ (i := 2) (N := some 77) (v := ?_) (a' := ?_) #[true, false, true, false, false, false] rfl rfl (by kernel_rfl) (fun _ _ _ h => h) (Or.inl ⟨by rfl, ?_⟩) hHeld ?_ ?_
                            rotate_left
                            · rintro w' ⟨s0, s1, s2, s3⟩
                              go_simp
                              with_reducible rfl
                            rotate_left
                            · simp only [Act.put, List.setIfInBounds_toArray, List.set_cons_zero, List.set_cons_succ, i64_w, i32_w]
                              rfl
                            refine one_ (i := 1) (N := some 76) #[true, true, true, false, false, false] rfl rfl (by kernel_rfl) (by decide) (fun K hK => ?_)
                            refine goes_ Try.func53 (by kernel_rfl) rfl #[.agg #[.slice A0_0 l0_0.length c0_0, .slice A0_1 l0_1.length c0_1]] (by rfl) rfl rfl (by (try simp only [List.map_toArray, List.map_cons, List.map_nil]); first | done | rfl | (simp only [List.length_drop, List.length_take]; rfl)) ?_
                            with_reducible refine (laws_toImage.calls kj34 _ _ l0_0 _ _ l0_1 t231 t234 _ ?side1 ?side2 ?side3 ?side4 A93.out).mono ?_
                            (case side1 => repeat (first | exact (Kd.C_below HR0_0.out HB.out) | (with_reducible refine Kd.C_alloc ?_ _) | (with_reducible refine Kd.C_drewN ?_ _) | (with_reducible refine Kd.C_drew ?_)))
                            (case side2 => exact HC0_0.out)
                            (case side3 => repeat (first | exact (Kd.C_below HR0_1.out HB.out) | (with_reducible refine Kd.C_alloc ?_ _) | (with_reducible refine Kd.C_drewN ?_ _) | (with_reducible refine Kd.C_drew ?_)))
                            (case side4 => exact HC0_1.out)
                            rintro e w103 ⟨v232, v235, rfl, ho0, ho1, hb⟩
                            refine ⟨_, rfl, ?_⟩
                            have n0_ := Aside0.mk (Kd.R_elder' (by (with_reducible repeat (first | apply Kd.R_alloc | apply Kd.R_drewN | apply Kd.R_drew)); exact HO_6.out) (Kd.R_base ho1) hb)
                            have n1_ := Aside0.mk (Kd.Q_elder' (by (with_reducible repeat (first | apply Kd.Q_alloc | apply Kd.Q_drewN | apply Kd.Q_drew)); exact HO_9.out) (Kd.R_base ho1) hb)
                            have n2_ := Aside0.mk (Kd.Q_elder' (by (with_reducible repeat (first | apply Kd.Q_alloc | apply Kd.Q_drewN | apply Kd.Q_drew)); exact HO_196000.out) (Kd.R_base ho0) hb)
                            have n3_ := Aside0.mk (Kd.Q_elder' (by (with_reducible repeat (first | apply Kd.Q_alloc | apply Kd.Q_drewN | apply Kd.Q_drew)); exact HO_196001.out) (Kd.R_base ho1) hb)
                            have n4_ := Aside0.mk (Kd.Q_elder' (by (with_reducible repeat (first | apply Kd.Q_alloc | apply Kd.Q_drewN | apply Kd.Q_drew)); exact HO_203000.out) (Kd.R_base ho0) hb)
                            have n5_ := Aside0.mk (Kd.Q_elder' (by (with_reducible repeat (first | apply Kd.Q_alloc | apply Kd.Q_drewN | apply Kd.Q_drew)); exact HO_203001.out) (Kd.R_base ho1) hb)
                            have n6_ := Aside0.mk (Kd.R_lower (Kd.R_new' (Kd.R_new' ho0 (Kd.Q_lt (by (with_reducible repeat (first | apply Kd.Q_alloc | apply Kd.Q_drewN | apply Kd.Q_drew)); exact HO_196000.out))) (Kd.Q_lt (by (with_reducible repeat (first | apply Kd.Q_alloc | apply Kd.Q_drewN | apply Kd.Q_drew)); exact HO_203000.out))) (below_size (by repeat (first | (with_reducible first | exact HB.out | apply below_alloc | apply pw_below_drewN | apply below_drew1 | refine below_set ?_ GE170.out | refine below_set ?_ GE171.out | refine below_set ?_ GE195.out | refine below_set ?_ GE202.out) | exact HB.out))))
                            have n7_ := Aside0.mk (Kd.R_lower (Kd.R_new' (Kd.R_new' (Kd.R_new' (Kd.R_new' ho1 (Kd.R_lt (by (with_reducible repeat (first | apply Kd.R_alloc | apply Kd.R_drewN | apply Kd.R_drew)); exact HO_6.out))) (Kd.Q_lt (by (with_reducible repeat (first | apply Kd.Q_alloc | apply Kd.Q_drewN | apply Kd.Q_drew)); exact HO_9.out))) (Kd.Q_lt (by (with_reducible repeat (first | apply Kd.Q_alloc | apply Kd.Q_drewN | apply Kd.Q_drew)); exact HO_196001.out))) (Kd.Q_lt (by (with_reducible repeat (first | apply Kd.Q_alloc | apply Kd.Q_drewN | apply Kd.Q_drew)); exact HO_203001.out))) (below_size (by repeat (first | (with_reducible first | exact HB.out | apply below_alloc | apply pw_below_drewN | apply below_drew1 | refine below_set ?_ GE170.out | refine below_set ?_ GE171.out | refine below_set ?_ GE195.out | refine below_set ?_ GE202.out) | exact HB.out))))
                            have n8_ := Aside0.mk (blk_below (g := gb170) (o := .cells #[.slice A0_0 l0_0.length c0_0, .slice A0_1 l0_1.length c0_1] 62 (0, 0)) (by (with_reducible repeat (first | refine blk_drewN ?_ _ | refine blk_drew ?_ | refine blk_alloc ?_ _)); exact BK170.out) hb)
                            have n9_ := Aside0.mk (blk_below (g := gb171) (o := .cells #[.slice A1_0 l1_0.length c1_0, .slice A1_1 l1_1.length c1_1] 62 (0, 0)) (by (with_reducible repeat (first | refine blk_drewN ?_ _ | refine blk_drew ?_ | refine blk_alloc ?_ _)); exact BK171.out) hb)
                            have n10_ := Aside0.mk (blk_below (g := gb195) (o := .cells #[.slice Ao54 t222.length co54, .slice Ao58 t223.length co58] 65 (0, 0)) (by (with_reducible repeat (first | refine blk_drewN ?_ _ | refine blk_drew ?_ | refine blk_alloc ?_ _)); exact BK195.out) hb)
                            have n11_ := Aside0.mk (blk_below (g := gb202) (o := .cells #[.slice Ao62 t225.length co62, .slice Ao67 t226.length co67] 65 (0, 0)) (by (with_reducible repeat (first | refine blk_drewN ?_ _ | refine blk_drew ?_ | refine blk_alloc ?_ _)); exact BK202.out) hb)
                            have n12_ := Aside0.mk (below_step (by repeat (first | (with_reducible first | exact HB.out | apply below_alloc | apply pw_below_drewN | apply below_drew1 | refine below_set ?_ GE170.out | refine below_set ?_ GE171.out | refine below_set ?_ GE195.out | refine below_set ?_ GE202.out) | exact HB.out)) hb)
                            clear HO_6
                            clear HO_9
                            clear HO_196000
                            clear HO_196001
                            clear HO_203000
                            clear HO_203001
                            clear BK170
                            clear BK171
                            clear BK195
                            clear BK202
                            clear HB
                            have HO_6 := n0_
                            have HO_9 := n1_
                            have HO_196000 := n2_
                            have HO_196001 := n3_
                            have HO_203000 := n4_
                            have HO_203001 := n5_
                            have HO233 := n6_
                            have HO236 := n7_
                            have BK170 := n8_
                            have BK171 := n9_
                            have BK195 := n10_
                            have BK202 := n11_
                            have HB := n12_
                            clear n0_ n1_ n2_ n3_ n4_ n5_ n6_ n7_ n8_ n9_ n10_ n11_ n12_
                            (try clear hb)
                            (try clear hb2)
                            (try clear hk)
                            (try clear hi)
                            (try clear ho0)
                            (try clear ho1)
                            refine hK.out _ _ ⟨(blk_cell BK170.out 0).trans rfl, (blk_cell BK170.out 1).trans rfl, (blk_cell BK171.out 0).trans rfl, (blk_cell BK171.out 1).trans rfl⟩ (fun hHeld => ?_)
                            clear hK K
                            refine norm_ (a' := ?_) ?_ ?_
                            rotate_left
                            · show Act.put _ (some 76) _ = _
                              simp only [Act.put, List.setIfInBounds_toArray, List.set_cons_zero, List.set_cons_succ, i64_w, i32_w]
                              rfl
                            refine one_ (i := 3) (N := some 78) #[true, true, true, true, false, false] rfl rfl (by kernel_rfl) (by decide) (fun K hK => ?_)
                            refine goes_ Try.func53 (by kernel_rfl) rfl #[.agg #[.slice A1_0 l1_0.length c1_0, .slice A1_1 l1_1.length c1_1]] (by rfl) rfl rfl (by (try simp only [List.map_toArray, List.map_cons, List.map_nil]); first | done | rfl | (simp only [List.length_drop, List.length_take]; rfl)) ?_
                            with_reducible refine (laws_toImage.calls kj34 _ _ l1_0 _ _ l1_1 t237 t240 _ ?side1 ?side2 ?side3 ?side4 A94.out).mono ?_
                            (case side1 => repeat (first | exact (Kd.C_below HR1_0.out HB.out) | (with_reducible refine Kd.C_alloc ?_ _) | (with_reducible refine Kd.C_drewN ?_ _) | (with_reducible refine Kd.C_drew ?_)))
                            (case side2 => exact HC1_0.out)
                            (case side3 => repeat (first | exact (Kd.C_below HR1_1.out HB.out) | (with_reducible refine Kd.C_alloc ?_ _) | (with_reducible refine Kd.C_drewN ?_ _) | (with_reducible refine Kd.C_drew ?_)))
                            (case side4 => exact HC1_1.out)
                            rintro e w104 ⟨v238, v241, rfl, ho0, ho1, hb⟩
                            refine ⟨_, rfl, ?_⟩
                            have n0_ := Aside0.mk (Kd.R_elder' (by (with_reducible repeat (first | apply Kd.R_alloc | apply Kd.R_drewN | apply Kd.R_drew)); exact HO_6.out) (Kd.R_base ho1) hb)
                            have n1_ := Aside0.mk (Kd.Q_elder' (by (with_reducible repeat (first | apply Kd.Q_alloc | apply Kd.Q_drewN | apply Kd.Q_drew)); exact HO_9.out) (Kd.R_base ho1) hb)
                            have n2_ := Aside0.mk (Kd.Q_elder' (by (with_reducible repeat (first | apply Kd.Q_alloc | apply Kd.Q_drewN | apply Kd.Q_drew)); exact HO_196000.out) (Kd.R_base ho0) hb)
                            have n3_ := Aside0.mk (Kd.Q_elder' (by (with_reducible repeat (first | apply Kd.Q_alloc | apply Kd.Q_drewN | apply Kd.Q_drew)); exact HO_196001.out) (Kd.R_base ho1) hb)
                            have n4_ := Aside0.mk (Kd.Q_elder' (by (with_reducible repeat (first | apply Kd.Q_alloc | apply Kd.Q_drewN | apply Kd.Q_drew)); exact HO_203000.out) (Kd.R_base ho0) hb)
                            have n5_ := Aside0.mk (Kd.Q_elder' (by (with_reducible repeat (first | apply Kd.Q_alloc | apply Kd.Q_drewN | apply Kd.Q_drew)); exact HO_203001.out) (Kd.R_base ho1) hb)
                            have n6_ := Aside0.mk (Kd.R_elder' (by (with_reducible repeat (first | apply Kd.R_alloc | apply Kd.R_drewN | apply Kd.R_drew)); exact HO233.out) (Kd.R_base ho0) hb)
                            have n7_ := Aside0.mk (Kd.R_elder' (by (with_reducible repeat (first | apply Kd.R_alloc | apply Kd.R_drewN | apply Kd.R_drew)); exact HO236.out) (Kd.R_base ho1) hb)
                            have n8_ := Aside0.mk (Kd.R_lower (Kd.R_new' (Kd.R_new' (Kd.R_new' ho0 (Kd.Q_lt (by (with_reducible repeat (first | apply Kd.Q_alloc | apply Kd.Q_drewN | apply Kd.Q_drew)); exact HO_196000.out))) (Kd.Q_lt (by (with_reducible repeat (first | apply Kd.Q_alloc | apply Kd.Q_drewN | apply Kd.Q_drew)); exact HO_203000.out))) (Kd.R_lt (by (with_reducible repeat (first | apply Kd.R_alloc | apply Kd.R_drewN | apply Kd.R_drew)); exact HO233.out))) (below_size (by repeat (first | (with_reducible first | exact HB.out | apply below_alloc | apply pw_below_drewN | apply below_drew1 | refine below_set ?_ GE170.out | refine below_set ?_ GE171.out | refine below_set ?_ GE195.out | refine below_set ?_ GE202.out) | exact HB.out))))
                            have n9_ := Aside0.mk (Kd.R_lower (Kd.R_new' (Kd.R_new' (Kd.R_new' (Kd.R_new' (Kd.R_new' ho1 (Kd.R_lt (by (with_reducible repeat (first | apply Kd.R_alloc | apply Kd.R_drewN | apply Kd.R_drew)); exact HO_6.out))) (Kd.Q_lt (by (with_reducible repeat (first | apply Kd.Q_alloc | apply Kd.Q_drewN | apply Kd.Q_drew)); exact HO_9.out))) (Kd.Q_lt (by (with_reducible repeat (first | apply Kd.Q_alloc | apply Kd.Q_drewN | apply Kd.Q_drew)); exact HO_196001.out))) (Kd.Q_lt (by (with_reducible repeat (first | apply Kd.Q_alloc | apply Kd.Q_drewN | apply Kd.Q_drew)); exact HO_203001.out))) (Kd.R_lt (by (with_reducible repeat (first | apply Kd.R_alloc | apply Kd.R_drewN | apply Kd.R_drew)); exact HO236.out))) (below_size (by repeat (first | (with_reducible first | exact HB.out | apply below_alloc | apply pw_below_drewN | apply below_drew1 | refine below_set ?_ GE170.out | refine below_set ?_ GE171.out | refine below_set ?_ GE195.out | refine below_set ?_ GE202.out) | exact HB.out))))
                            have n10_ := Aside0.mk (blk_below (g := gb170) (o := .cells #[.slice A0_0 l0_0.length c0_0, .slice A0_1 l0_1.length c0_1] 62 (0, 0)) (by (with_reducible repeat (first | refine blk_drewN ?_ _ | refine blk_drew ?_ | refine blk_alloc ?_ _)); exact BK170.out) hb)
                            have n11_ := Aside0.mk (blk_below (g := gb171) (o := .cells #[.slice A1_0 l1_0.length c1_0, .slice A1_1 l1_1.length c1_1] 62 (0, 0)) (by (with_reducible repeat (first | refine blk_drewN ?_ _ | refine blk_drew ?_ | refine blk_alloc ?_ _)); exact BK171.out) hb)
                            have n12_ := Aside0.mk (blk_below (g := gb195) (o := .cells #[.slice Ao54 t222.length co54, .slice Ao58 t223.length co58] 65 (0, 0)) (by (with_reducible repeat (first | refine blk_drewN ?_ _ | refine blk_drew ?_ | refine blk_alloc ?_ _)); exact BK195.out) hb)
                            have n13_ := Aside0.mk (blk_below (g := gb202) (o := .cells #[.slice Ao62 t225.length co62, .slice Ao67 t226.length co67] 65 (0, 0)) (by (with_reducible repeat (first | refine blk_drewN ?_ _ | refine blk_drew ?_ | refine blk_alloc ?_ _)); exact BK202.out) hb)
                            have n14_ := Aside0.mk (below_step (by repeat (first | (with_reducible first | exact HB.out | apply below_alloc | apply pw_below_drewN | apply below_drew1 | refine below_set ?_ GE170.out | refine below_set ?_ GE171.out | refine below_set ?_ GE195.out | refine below_set ?_ GE202.out) | exact HB.out)) hb)
                            clear HO_6
                            clear HO_9
                            clear HO_196000
                            clear HO_196001
                            clear HO_203000
                            clear HO_203001
                            clear HO233
                            clear HO236
                            clear BK170
                            clear BK171
                            clear BK195
                            clear BK202
                            clear HB
                            have HO_6 := n0_
                            have HO_9 := n1_
                            have HO_196000 := n2_
                            have HO_196001 := n3_
                            have HO_203000 := n4_
                            have HO_203001 := n5_
                            have HO233 := n6_
                            have HO236 := n7_
                            have HO239 := n8_
                            have HO242 := n9_
                            have BK170 := n10_
                            have BK171 := n11_
                            have BK195 := n12_
                            have BK202 := n13_
                            have HB := n14_
                            clear n0_ n1_ n2_ n3_ n4_ n5_ n6_ n7_ n8_ n9_ n10_ n11_ n12_ n13_ n14_
                            (try clear hb)
                            (try clear hb2)
                            (try clear hk)
                            (try clear hi)
                            (try clear ho0)
                            (try clear ho1)
                            obtain ⟨Ao105, co105, eo105⟩ := Kd.R_slice HO233.out
                            (first | subst eo105 | (injection eo105 with f1_ f2_ f3_; have f4_ := f1_.symm; have f5_ := f3_.symm; clear f1_ f2_ f3_; subst f4_; subst f5_))
                            obtain ⟨Ao106, co106, eo106⟩ := Kd.R_slice HO236.out
                            (first | subst eo106 | (injection eo106 with f1_ f2_ f3_; have f4_ := f1_.symm; have f5_ := f3_.symm; clear f1_ f2_ f3_; subst f4_; subst f5_))
                            obtain ⟨Ao107, co107, eo107⟩ := Kd.R_slice HO239.out
                            (first | subst eo107 | (injection eo107 with f1_ f2_ f3_; have f4_ := f1_.symm; have f5_ := f3_.symm; clear f1_ f2_ f3_; subst f4_; subst f5_))
                            obtain ⟨Ao108, co108, eo108⟩ := Kd.R_slice HO242.out
                            (first | subst eo108 | (injection eo108 with f1_ f2_ f3_; have f4_ := f1_.symm; have f5_ := f3_.symm; clear f1_ f2_ f3_; subst f4_; subst f5_))
                            refine hK.out _ _ ⟨(blk_cell BK170.out 0).trans rfl, (blk_cell BK170.out 1).trans rfl, (blk_cell BK171.out 0).trans rfl, (blk_cell BK171.out 1).trans rfl⟩ (fun hHeld => ?_)
                            clear hK K
                            refine norm_ (a' := ?_) ?_ ?_
                            rotate_left
                            · show Act.put _ (some 78) _ = _
                              simp only [Act.put, List.setIfInBounds_toArray, List.set_cons_zero, List.set_cons_succ, i64_w, i32_w]
                              rfl
                            refine one_ (i := 4) (N := some 79) #[true, true, true, true, true, false] rfl rfl (by kernel_rfl) (by decide) (fun K hK => ?_)
                            refine goes_ Try.func59 (by kernel_rfl) rfl #[.agg #[.slice Ao105 t231.length co105, .slice Ao106 t234.length co106], .agg #[.slice Ao107 t237.length co107, .slice Ao108 t240.length co108]] (by rfl) rfl rfl (by (try simp only [List.map_toArray, List.map_cons, List.map_nil]); first | done | rfl | (simp only [List.length_drop, List.length_take]; rfl)) ?_
                            with_reducible refine (impl_ChangedBits.calls kj34 _ _ t231 _ _ t234 _ _ t237 _ _ t240 t243 _ ?side1 ?side2 ?side3 ?side4 ?side5 ?side6 ?side7 ?side8 A95.out).mono ?_
                            (case side1 => repeat (first | exact (Kd.R_reads' HO233.out).2.2 | (with_reducible refine Kd.C_alloc ?_ _) | (with_reducible refine Kd.C_drewN ?_ _) | (with_reducible refine Kd.C_drew ?_)))
                            (case side2 => exact (Kd.R_reads' HO233.out).2.1)
                            (case side3 => repeat (first | exact (Kd.R_reads' HO236.out).2.2 | (with_reducible refine Kd.C_alloc ?_ _) | (with_reducible refine Kd.C_drewN ?_ _) | (with_reducible refine Kd.C_drew ?_)))
                            (case side4 => exact (Kd.R_reads' HO236.out).2.1)
                            (case side5 => repeat (first | exact (Kd.R_reads' HO239.out).2.2 | (with_reducible refine Kd.C_alloc ?_ _) | (with_reducible refine Kd.C_drewN ?_ _) | (with_reducible refine Kd.C_drew ?_)))
                            (case side6 => exact (Kd.R_reads' HO239.out).2.1)
                            (case side7 => repeat (first | exact (Kd.R_reads' HO242.out).2.2 | (with_reducible refine Kd.C_alloc ?_ _) | (with_reducible refine Kd.C_drewN ?_ _) | (with_reducible refine Kd.C_drew ?_)))
                            (case side8 => exact (Kd.R_reads' HO242.out).2.1)
                            rintro e w109 ⟨v244, rfl, ho0, hb⟩
                            refine ⟨_, rfl, ?_⟩
                            have n0_ := Aside0.mk (Kd.R_elder' (by (with_reducible repeat (first | apply Kd.R_alloc | apply Kd.R_drewN | apply Kd.R_drew)); exact HO_6.out) (Kd.Q_base ho0) hb)
                            have n1_ := Aside0.mk (Kd.Q_elder' (by (with_reducible repeat (first | apply Kd.Q_alloc | apply Kd.Q_drewN | apply Kd.Q_drew)); exact HO_9.out) (Kd.Q_base ho0) hb)
                            have n2_ := Aside0.mk (Kd.Q_below (by (with_reducible repeat (first | apply Kd.Q_alloc | apply Kd.Q_drewN | apply Kd.Q_drew)); exact HO_196000.out) hb)
                            have n3_ := Aside0.mk (Kd.Q_elder' (by (with_reducible repeat (first | apply Kd.Q_alloc | apply Kd.Q_drewN | apply Kd.Q_drew)); exact HO_196001.out) (Kd.Q_base ho0) hb)
                            have n4_ := Aside0.mk (Kd.Q_below (by (with_reducible repeat (first | apply Kd.Q_alloc | apply Kd.Q_drewN | apply Kd.Q_drew)); exact HO_203000.out) hb)
                            have n5_ := Aside0.mk (Kd.Q_elder' (by (with_reducible repeat (first | apply Kd.Q_alloc | apply Kd.Q_drewN | apply Kd.Q_drew)); exact HO_203001.out) (Kd.Q_base ho0) hb)
                            have n6_ := Aside0.mk (Kd.R_below (by (with_reducible repeat (first | apply Kd.R_alloc | apply Kd.R_drewN | apply Kd.R_drew)); exact HO233.out) hb)
                            have n7_ := Aside0.mk (Kd.R_elder' (by (with_reducible repeat (first | apply Kd.R_alloc | apply Kd.R_drewN | apply Kd.R_drew)); exact HO236.out) (Kd.Q_base ho0) hb)
                            have n8_ := Aside0.mk (Kd.R_below (by (with_reducible repeat (first | apply Kd.R_alloc | apply Kd.R_drewN | apply Kd.R_drew)); exact HO239.out) hb)
                            have n9_ := Aside0.mk (Kd.R_elder' (by (with_reducible repeat (first | apply Kd.R_alloc | apply Kd.R_drewN | apply Kd.R_drew)); exact HO242.out) (Kd.Q_base ho0) hb)
                            have n10_ := Aside0.mk (Kd.Q_lower (Kd.Q_new' (Kd.Q_new' (Kd.Q_new' (Kd.Q_new' (Kd.Q_new' (Kd.Q_new' ho0 (Kd.R_lt (by (with_reducible repeat (first | apply Kd.R_alloc | apply Kd.R_drewN | apply Kd.R_drew)); exact HO_6.out))) (Kd.Q_lt (by (with_reducible repeat (first | apply Kd.Q_alloc | apply Kd.Q_drewN | apply Kd.Q_drew)); exact HO_9.out))) (Kd.Q_lt (by (with_reducible repeat (first | apply Kd.Q_alloc | apply Kd.Q_drewN | apply Kd.Q_drew)); exact HO_196001.out))) (Kd.Q_lt (by (with_reducible repeat (first | apply Kd.Q_alloc | apply Kd.Q_drewN | apply Kd.Q_drew)); exact HO_203001.out))) (Kd.R_lt (by (with_reducible repeat (first | apply Kd.R_alloc | apply Kd.R_drewN | apply Kd.R_drew)); exact HO236.out))) (Kd.R_lt (by (with_reducible repeat (first | apply Kd.R_alloc | apply Kd.R_drewN | apply Kd.R_drew)); exact HO242.out))) (below_size (by repeat (first | (with_reducible first | exact HB.out | apply below_alloc | apply pw_below_drewN | apply below_drew1 | refine below_set ?_ GE170.out | refine below_set ?_ GE171.out | refine below_set ?_ GE195.out | refine below_set ?_ GE202.out) | exact HB.out))))
                            have n11_ := Aside0.mk (blk_below (g := gb170) (o := .cells #[.slice A0_0 l0_0.length c0_0, .slice A0_1 l0_1.length c0_1] 62 (0, 0)) (by (with_reducible repeat (first | refine blk_drewN ?_ _ | refine blk_drew ?_ | refine blk_alloc ?_ _)); exact BK170.out) hb)
                            have n12_ := Aside0.mk (blk_below (g := gb171) (o := .cells #[.slice A1_0 l1_0.length c1_0, .slice A1_1 l1_1.length c1_1] 62 (0, 0)) (by (with_reducible repeat (first | refine blk_drewN ?_ _ | refine blk_drew ?_ | refine blk_alloc ?_ _)); exact BK171.out) hb)
                            have n13_ := Aside0.mk (blk_below (g := gb195) (o := .cells #[.slice Ao54 t222.length co54, .slice Ao58 t223.length co58] 65 (0, 0)) (by (with_reducible repeat (first | refine blk_drewN ?_ _ | refine blk_drew ?_ | refine blk_alloc ?_ _)); exact BK195.out) hb)
                            have n14_ := Aside0.mk (blk_below (g := gb202) (o := .cells #[.slice Ao62 t225.length co62, .slice Ao67 t226.length co67] 65 (0, 0)) (by (with_reducible repeat (first | refine blk_drewN ?_ _ | refine blk_drew ?_ | refine blk_alloc ?_ _)); exact BK202.out) hb)
                            have n15_ := Aside0.mk (below_step (by repeat (first | (with_reducible first | exact HB.out | apply below_alloc | apply pw_below_drewN | apply below_drew1 | refine below_set ?_ GE170.out | refine below_set ?_ GE171.out | refine below_set ?_ GE195.out | refine below_set ?_ GE202.out) | exact HB.out)) hb)
                            clear HO_6
                            clear HO_9
                            clear HO_196000
                            clear HO_196001
                            clear HO_203000
                            clear HO_203001
                            clear HO233
                            clear HO236
                            clear HO239
                            clear HO242
                            clear BK170
                            clear BK171
                            clear BK195
                            clear BK202
                            clear HB
                            have HO_6 := n0_
                            have HO_9 := n1_
                            have HO_196000 := n2_
                            have HO_196001 := n3_
                            have HO_203000 := n4_
                            have HO_203001 := n5_
                            have HO233 := n6_
                            have HO236 := n7_
                            have HO239 := n8_
                            have HO242 := n9_
                            have HO245 := n10_
                            have BK170 := n11_
                            have BK171 := n12_
                            have BK195 := n13_
                            have BK202 := n14_
                            have HB := n15_
                            clear n0_ n1_ n2_ n3_ n4_ n5_ n6_ n7_ n8_ n9_ n10_ n11_ n12_ n13_ n14_ n15_
                            (try clear hb)
                            (try clear hb2)
                            (try clear hk)
                            (try clear hi)
                            (try clear ho0)
                            refine hK.out _ _ ⟨(blk_cell BK170.out 0).trans rfl, (blk_cell BK170.out 1).trans rfl, (blk_cell BK171.out 0).trans rfl, (blk_cell BK171.out 1).trans rfl⟩ (fun hHeld => ?_)
                            clear hK K
                            refine norm_ (a' := ?_) ?_ ?_
                            rotate_left
                            · show Act.put _ (some 79) _ = _
                              simp only [Act.put, List.setIfInBounds_toArray, List.set_cons_zero, List.set_cons_succ, i64_w, i32_w]
                              rfl
                            refine pure_ (i := 5) (N := some 13) (v := ?_) (a' := ?_) #[true, true, true, true, true, true] rfl rfl (by kernel_rfl) (fun _ _ _ h => h) (Or.inl ⟨by rfl, ?_⟩) ?_ ?_
                            rotate_left
                            · intro w'
                              go_simp
                              with_reducible rfl
                            rotate_left
                            · simp only [Act.put, List.setIfInBounds_toArray, List.set_cons_zero, List.set_cons_succ, i64_w, i32_w]
                              rfl
                            refine done_ (by kernel_rfl) ?_
                            obtain ⟨Ao110, co110, eo110, _⟩ := Kd.Q_slice HO245.out
                            subst eo110
                            try go_wp2_with (first | ((with_reducible refine gate_callee (f := 19) rfl ?_); refine goesL_ (some 82) rfl rfl Try.func19 (by kernel_rfl) rfl #[.slice Ao110 t243.length co110, .slice Ao71 t186.length co71] rfl (by (try simp only [List.map_toArray, List.map_cons, List.map_nil]); first | done | rfl | (simp only [List.length_drop, List.length_take]; rfl)) ?_; (with_reducible refine (laws_eqIntS.calls kj34 _ _ t243 _ _ t186 true _ ?side1 ?side2 ?side3 ?side4 A96.out).mono ?_); (case side1 => repeat (first | exact (Kd.Q_reads' HO245.out).2.2 | (with_reducible refine Kd.C_alloc ?_ _) | (with_reducible refine Kd.C_drewN ?_ _) | (with_reducible refine Kd.C_drew ?_))); (case side2 => exact (Kd.Q_reads' HO245.out).2.1); (case side3 => repeat (first | exact (Kd.R_reads' HO_6.out).2.2 | (with_reducible refine Kd.C_alloc ?_ _) | (with_reducible refine Kd.C_drewN ?_ _) | (with_reducible refine Kd.C_drew ?_))); (case side4 => exact (Kd.R_reads' HO_6.out).2.1); rintro e w' ⟨rfl, ⟨nd, rfl⟩⟩; refine ⟨_, rfl, ?_⟩) | ((with_reducible refine gate_callee (f := 23) rfl ?_); refine goesL_ (some 86) rfl rfl Try.func23 (by kernel_rfl) rfl #[.slice Ao70 t229.length co70, .int .i64 1] rfl (by (try simp only [List.map_toArray, List.map_cons, List.map_nil]); first | done | (rw [show t229.length = t203.length from (Kd.Q_reads' HO_9.out).1.symm] <;> rfl) | rfl | (simp only [List.length_drop, List.length_take]; rfl)) ?_; (with_reducible refine (laws_heldIntS.calls kj34 _ _ t229 1 t247 _ ?side1 ?side2 A98.out).mono ?_); (case side1 => repeat (first | exact (Kd.Q_reads' HO_9.out).2.2 | (with_reducible refine Kd.C_alloc ?_ _) | (with_reducible refine Kd.C_drewN ?_ _) | (with_reducible refine Kd.C_drew ?_))); (case side2 => rw [show t229.length = t203.length from (Kd.Q_reads' HO_9.out).1.symm]; exact (Kd.Q_reads' HO_9.out).2.1); rintro e w' ⟨rfl, ⟨nd, rfl⟩⟩; refine ⟨_, rfl, ?_⟩))
                            go_ret
                            exact ⟨by first | rfl | (simp [errW_none, errW_some] <;> rfl) | (simp [*, errW_none, errW_some] <;> rfl), by repeat (first | (with_reducible first | exact HB.out | apply below_alloc | apply pw_below_drewN | apply below_drew1 | refine below_set ?_ GE170.out | refine below_set ?_ GE171.out | refine below_set ?_ GE195.out | refine below_set ?_ GE202.out) | exact HB.out)⟩
                          · rw [if_neg c100] at H
                            exact absurd H (by simp)
                      · replace c97 := Bool.eq_false_iff.mpr c97
                        subst c97
                        have H1 : (none) = some r := by rw [if_neg (show ¬ (false = true) by decide)] at H; exact H
                        clear H
                        have H := H1
                        clear H1
                        exact absurd H (by simp)
                    · rw [if_neg c92] at H
                      exact absurd H (by simp)
          · replace c32 := Bool.eq_false_iff.mpr c32
            subst c32
            have H1 : (none) = some r := by rw [if_neg (show ¬ (false = true) by decide)] at H; exact H
            clear H
            have H := H1
            clear H1
            exact absurd H (by simp)
        · replace c29 := Bool.eq_false_iff.mpr c29
          subst c29
          have H1 : (none) = some r := by rw [if_neg (show ¬ (false = true) by decide)] at H; exact H
          clear H
          have H := H1
          clear H1
          exact absurd H (by simp)
      · replace c26 := Bool.eq_false_iff.mpr c26
        subst c26
        have H1 : (none) = some r := by rw [if_neg (show ¬ (false = true) by decide)] at H; exact H
        clear H
        have H := H1
        clear H1
        exact absurd H (by simp)

end Go.Proofs.Ytmlhkalgaeemaaa.GFnExactChangedBits

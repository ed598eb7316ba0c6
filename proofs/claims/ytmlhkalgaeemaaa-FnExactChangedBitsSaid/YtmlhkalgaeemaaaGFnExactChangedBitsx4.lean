/- Functions of the program as Lean functions, with proofs that the machine comes to their answers; written by this session's program mkprint.py; no condition beyond each theorem's own. -/
import Derived.Test.YtmlhkalgaeemaaaGFnExactChangedBitsx0
import Derived.Test.YtmlhkalgaeemaaaGFnExactChangedBitsx1
import Derived.Test.YtmlhkalgaeemaaaGFnExactChangedBitsx2
import Derived.Test.YtmlhkalgaeemaaaGFnExactChangedBitsx3
namespace Go.Proofs.Ytmlhkalgaeemaaa.GFnExactChangedBits
open Go.RowKit Go.Proofs.YtmlhkalgaeemaaaV.PrintWords Go.Proofs.YtmlhkalgaeemaaaV.PrintLast Go.Proofs.YtmlhkalgaeemaaaV.PrintMore
attribute [local go_sem] max2_int min2_int max_two min_two max_three min_three max_four min_four   -- for this text's walks alone
set_option linter.unusedVariables false
set_option linter.unusedSimpArgs false
set_option hygiene false in
local macro "sq9_" : term => `((by (try simp only [List.map_toArray, List.map_cons, List.map_nil]); first | done | rfl | (simp only [List.length_drop, List.length_take]; rfl)))
set_option hygiene false in
local macro "st11_" : tactic => `(tactic| (case side1 => repeat (first | exact (Kd.C_below HR0_0.out HB.out) | (with_reducible refine Kd.C_alloc ?_ _) | (with_reducible refine Kd.C_drewN ?_ _) | (with_reducible refine Kd.C_drew ?_))))
set_option hygiene false in
local macro "st12_" : tactic => `(tactic| (case side3 => repeat (first | exact (Kd.C_below HR0_1.out HB.out) | (with_reducible refine Kd.C_alloc ?_ _) | (with_reducible refine Kd.C_drewN ?_ _) | (with_reducible refine Kd.C_drew ?_))))
set_option hygiene false in
local macro "st3_" : tactic => `(tactic| (with_reducible repeat (first | apply Kd.R_alloc | apply Kd.R_drewN | apply Kd.R_drew)))
set_option hygiene false in
local macro "sq8_" : term => `((by repeat (first | (with_reducible first | exact HB.out | apply below_alloc | apply pw_below_drewN | apply below_drew1 | refine below_set ?_ GE170.out | refine below_set ?_ GE171.out) | exact HB.out)))
set_option hygiene false in
local macro "st4_" : tactic => `(tactic| (with_reducible repeat (first | refine blk_drewN ?_ _ | refine blk_drew ?_ | refine blk_alloc ?_ _)))
set_option hygiene false in
local macro "sq16_" : term => `((by repeat (first | (with_reducible first | exact HB.out | apply below_alloc | apply pw_below_drewN | apply below_drew1 | refine below_set ?_ GE170.out | refine below_set ?_ GE171.out | refine below_set ?_ GE195.out) | exact HB.out)))
set_option hygiene false in
local macro "sq28_" : term => `((by st3_; exact (Kd.R_mono (Kd.R_far (p := ⟨gb202, 1, none⟩) (Kd.R_far (p := ⟨gb202, 0, none⟩) (Kd.R_types HO194.out BK202.out (by decide)) (fun _ hk => hk.2) (.slice AoZ56 t196.length coZ57)) (fun _ hk => hk.2) (.slice AoZ69 t199.length coZ70)) (fun _ h_ => h_.1))))
set_option hygiene false in
local macro "sq29_" : term => `((by st3_; exact (Kd.R_mono (Kd.R_far (p := ⟨gb202, 1, none⟩) (Kd.R_far (p := ⟨gb202, 0, none⟩) (Kd.R_types HO201.out BK202.out (by decide)) (fun _ hk => hk.2) (.slice AoZ56 t196.length coZ57)) (fun _ hk => hk.2) (.slice AoZ69 t199.length coZ70)) (fun _ h_ => h_.1))))
set_option hygiene false in
local macro "st5_" : tactic => `(tactic| (first | (with_reducible first | exact HB.out | apply below_alloc | apply pw_below_drewN | apply below_drew1 | refine below_set ?_ GE170.out | refine below_set ?_ GE171.out | refine below_set ?_ GE195.out | refine below_set ?_ GE202.out) | exact HB.out))
set_option hygiene false in
local macro "st1_" : tactic => `(tactic| (first | ((with_reducible refine gate_callee (f := 53) rfl ?_); refine goesL_ (some 30) rfl rfl Try.func53 (by kernel_rfl) rfl #[.agg #[.slice A0_0 l0_0.length c0_0, .slice A0_1 l0_1.length c0_1]] rfl sq9_ ?_; (with_reducible refine (laws_toImage.calls k _ _ l0_0 _ _ l0_1 t189 t192 _ ?side1 ?side2 ?side3 ?side4 A22.out).mono ?_); st11_; (case side2 => exact HC0_0.out); st12_; (case side4 => exact HC0_1.out); rintro e wZ34 ⟨v190, v193, rfl, ho0, ho1, hb⟩; refine ⟨_, rfl, ?_⟩; have n0_ := Aside0.mk (Kd.R_elder' (by st3_; exact HO176.out) (Kd.R_base ho0) hb); have n1_ := Aside0.mk (Kd.R_elder' (by st3_; exact HO179.out) (Kd.R_base ho1) hb); have n2_ := Aside0.mk (Kd.R_elder' (by st3_; exact HO182.out) (Kd.R_base ho0) hb); have n3_ := Aside0.mk (Kd.R_elder' (by st3_; exact HO185.out) (Kd.R_base ho1) hb); have n4_ := Aside0.mk (Kd.R_elder' (by st3_; exact HO188.out) (Kd.R_base ho1) hb); have n5_ := Aside0.mk (Kd.R_lower (Kd.R_new' (Kd.R_new' ho0 (Kd.R_lt (by st3_; exact HO176.out))) (Kd.R_lt (by st3_; exact HO182.out))) (below_size sq8_)); have n6_ := Aside0.mk (Kd.R_lower (Kd.R_new' (Kd.R_new' (Kd.R_new' ho1 (Kd.R_lt (by st3_; exact HO179.out))) (Kd.R_lt (by st3_; exact HO185.out))) (Kd.R_lt (by st3_; exact HO188.out))) (below_size sq8_)); have n7_ := Aside0.mk (blk_below (g := gb170) (o := .cells #[.slice A0_0 l0_0.length c0_0, .slice A0_1 l0_1.length c0_1] 62 (0, 0)) (by st4_; exact BK170.out) hb); have n8_ := Aside0.mk (blk_below (g := gb171) (o := .cells #[.slice A1_0 l1_0.length c1_0, .slice A1_1 l1_1.length c1_1] 62 (0, 0)) (by st4_; exact BK171.out) hb); have n9_ := Aside0.mk (below_step sq8_ hb); clear HO176; clear HO179; clear HO182; clear HO185; clear HO188; clear BK170; clear BK171; clear HB; have HO176 := n0_; have HO179 := n1_; have HO182 := n2_; have HO185 := n3_; have HO188 := n4_; have HO191 := n5_; have HO194 := n6_; have BK170 := n7_; have BK171 := n8_; have HB := n9_; clear n0_ n1_ n2_ n3_ n4_ n5_ n6_ n7_ n8_ n9_; (try clear hb); (try clear hb2); (try clear hk); (try clear hi); (try clear ho0); (try clear ho1)) | ((with_reducible refine gate_dst (N := 7) rfl ?_); refine box_event ?hg (N := 7) ?hd (cs := #[.slice none 0 0, .slice none 0 0]) (t := 65) ?hr ?_; (case hd => rfl); (case hg => rfl); (case hr => first | (go_simp; done) | (go_simp; rfl)); intro gb195 hg wZ35 hbox hb; have n0_ := Aside0.mk (Kd.R_below (by st3_; exact HO176.out) hb); have n1_ := Aside0.mk (Kd.R_below (by st3_; exact HO179.out) hb); have n2_ := Aside0.mk (Kd.R_below (by st3_; exact HO182.out) hb); have n3_ := Aside0.mk (Kd.R_below (by st3_; exact HO185.out) hb); have n4_ := Aside0.mk (Kd.R_below (by st3_; exact HO188.out) hb); have n5_ := Aside0.mk (Kd.R_below (by st3_; exact HO191.out) hb); have n6_ := Aside0.mk (Kd.R_below (by st3_; exact HO194.out) hb); have n7_ := Aside0.mk (blk_below (g := gb170) (o := .cells #[.slice A0_0 l0_0.length c0_0, .slice A0_1 l0_1.length c0_1] 62 (0, 0)) (by st4_; exact BK170.out) hb); have n8_ := Aside0.mk (blk_below (g := gb171) (o := .cells #[.slice A1_0 l1_0.length c1_0, .slice A1_1 l1_1.length c1_1] 62 (0, 0)) (by st4_; exact BK171.out) hb); have n9_ := Aside0.mk (below_step sq8_ hb); have n10_ := Aside0.mk (hbox); have n11_ := Aside0.mk ((by rw [hg]; exact (below_size sq8_) : w.heap.size ≤ gb195)); have n12_ := Aside0.mk ((by rw [hg]; exact (below_size sq8_) : w.heap.size ≤ gb195)); have n13_ := Aside0.mk ((by rw [hg]; exact Nat.ne_of_lt (blk_lt (g := gb170) (o := .cells #[.slice A0_0 l0_0.length c0_0, .slice A0_1 l0_1.length c0_1] 62 (0, 0)) (by st4_; exact BK170.out)) : gb170 ≠ gb195)); have n14_ := Aside0.mk ((by rw [hg]; exact Nat.ne_of_gt (blk_lt (g := gb170) (o := .cells #[.slice A0_0 l0_0.length c0_0, .slice A0_1 l0_1.length c0_1] 62 (0, 0)) (by st4_; exact BK170.out)) : gb195 ≠ gb170)); have n15_ := Aside0.mk ((by rw [hg]; exact Nat.ne_of_lt (blk_lt (g := gb171) (o := .cells #[.slice A1_0 l1_0.length c1_0, .slice A1_1 l1_1.length c1_1] 62 (0, 0)) (by st4_; exact BK171.out)) : gb171 ≠ gb195)); have n16_ := Aside0.mk ((by rw [hg]; exact Nat.ne_of_gt (blk_lt (g := gb171) (o := .cells #[.slice A1_0 l1_0.length c1_0, .slice A1_1 l1_1.length c1_1] 62 (0, 0)) (by st4_; exact BK171.out)) : gb195 ≠ gb171)); clear HO176; clear HO179; clear HO182; clear HO185; clear HO188; clear HO191; clear HO194; clear BK170; clear BK171; clear HB; have HO176 := n0_; have HO179 := n1_; have HO182 := n2_; have HO185 := n3_; have HO188 := n4_; have HO191 := n5_; have HO194 := n6_; have BK170 := n7_; have BK171 := n8_; have HB := n9_; have BK195 := n10_; have GW195 := n11_; have GE195 := n12_; have NB170_195 := n13_; have NB195_170 := n14_; have NB171_195 := n15_; have NB195_171 := n16_; clear n0_ n1_ n2_ n3_ n4_ n5_ n6_ n7_ n8_ n9_ n10_ n11_ n12_ n13_ n14_ n15_ n16_; clear hb hbox hg; obtain ⟨AoZ36, coZ37, eoZ38⟩ := Kd.R_slice HO191.out; subst eoZ38; have hnbZ39 := NB195_170.out; have hncZ40 := NB170_195.out; have hnbZ41 := NB195_171.out; have hncZ42 := NB171_195.out; have hczZ43 : wZ35.cell? ⟨gb195, 0, none⟩ = some (.slice none 0 0) := (blk_cell BK195.out 0).trans rfl; have hczZ44 : wZ35.cell? ⟨gb195, 1, none⟩ = some (.slice none 0 0) := (blk_cell BK195.out 1).trans rfl; have hfzZ45 := blk_frozen BK195.out 0; have hfzZ46 := blk_frozen BK195.out 1; obtain ⟨AoZ47, coZ48, eoZ49⟩ := Kd.R_slice HO194.out; subst eoZ49; have hczZ50 : wZ35.cell? ⟨gb171, 0, none⟩ = some (.slice A1_0 l1_0.length c1_0) := (blk_cell BK171.out 0).trans rfl; have hczZ51 : wZ35.cell? ⟨gb171, 1, none⟩ = some (.slice A1_1 l1_1.length c1_1) := (blk_cell BK171.out 1).trans rfl; have hfzZ52 := blk_frozen BK171.out 0; have hfzZ53 := blk_frozen BK171.out 1) | ((with_reducible refine gate_callee (f := 53) rfl ?_); refine goesL_ (some 32) rfl rfl Try.func53 (by kernel_rfl) rfl #[.agg #[.slice A1_0 l1_0.length c1_0, .slice A1_1 l1_1.length c1_1]] rfl sq9_ ?_; (with_reducible refine (laws_toImage.calls k _ _ l1_0 _ _ l1_1 t196 t199 _ ?side1 ?side2 ?side3 ?side4 A23.out).mono ?_); (case side1 => exact Kd.C_below HR1_0.out sq16_); (case side2 => exact HC1_0.out); (case side3 => exact Kd.C_below HR1_1.out sq16_); (case side4 => exact HC1_1.out); rintro e wZ54 ⟨v197, v200, rfl, ho0, ho1, hb⟩; refine ⟨_, rfl, ?_⟩; have n0_ := Aside0.mk (Kd.R_elder' (by st3_; exact (Kd.R_mono (Kd.R_far (p := ⟨gb195, 1, none⟩) (Kd.R_far (p := ⟨gb195, 0, none⟩) (Kd.R_types HO176.out BK195.out (by decide)) (fun _ hk => hk.2) (.slice AoZ36 t189.length coZ37)) (fun _ hk => hk.2) (.slice AoZ47 t192.length coZ48)) (fun _ h_ => h_.1))) (Kd.R_base ho0) hb); have n1_ := Aside0.mk (Kd.R_elder' (by st3_; exact (Kd.R_mono (Kd.R_far (p := ⟨gb195, 1, none⟩) (Kd.R_far (p := ⟨gb195, 0, none⟩) (Kd.R_types HO179.out BK195.out (by decide)) (fun _ hk => hk.2) (.slice AoZ36 t189.length coZ37)) (fun _ hk => hk.2) (.slice AoZ47 t192.length coZ48)) (fun _ h_ => h_.1))) (Kd.R_base ho1) hb); have n2_ := Aside0.mk (Kd.R_elder' (by st3_; exact (Kd.R_mono (Kd.R_far (p := ⟨gb195, 1, none⟩) (Kd.R_far (p := ⟨gb195, 0, none⟩) (Kd.R_types HO182.out BK195.out (by decide)) (fun _ hk => hk.2) (.slice AoZ36 t189.length coZ37)) (fun _ hk => hk.2) (.slice AoZ47 t192.length coZ48)) (fun _ h_ => h_.1))) (Kd.R_base ho0) hb); have n3_ := Aside0.mk (Kd.R_elder' (by st3_; exact (Kd.R_mono (Kd.R_far (p := ⟨gb195, 1, none⟩) (Kd.R_far (p := ⟨gb195, 0, none⟩) (Kd.R_types HO185.out BK195.out (by decide)) (fun _ hk => hk.2) (.slice AoZ36 t189.length coZ37)) (fun _ hk => hk.2) (.slice AoZ47 t192.length coZ48)) (fun _ h_ => h_.1))) (Kd.R_base ho1) hb); have n4_ := Aside0.mk (Kd.R_elder' (by st3_; exact (Kd.R_mono (Kd.R_far (p := ⟨gb195, 1, none⟩) (Kd.R_far (p := ⟨gb195, 0, none⟩) (Kd.R_types HO188.out BK195.out (by decide)) (fun _ hk => hk.2) (.slice AoZ36 t189.length coZ37)) (fun _ hk => hk.2) (.slice AoZ47 t192.length coZ48)) (fun _ h_ => h_.1))) (Kd.R_base ho1) hb); have n5_ := Aside0.mk (Kd.R_elder' (by st3_; exact (Kd.R_mono (Kd.R_far (p := ⟨gb195, 1, none⟩) (Kd.R_far (p := ⟨gb195, 0, none⟩) (Kd.R_types HO191.out BK195.out (by decide)) (fun _ hk => hk.2) (.slice AoZ36 t189.length coZ37)) (fun _ hk => hk.2) (.slice AoZ47 t192.length coZ48)) (fun _ h_ => h_.1))) (Kd.R_base ho0) hb); have n6_ := Aside0.mk (Kd.R_elder' (by st3_; exact (Kd.R_mono (Kd.R_far (p := ⟨gb195, 1, none⟩) (Kd.R_far (p := ⟨gb195, 0, none⟩) (Kd.R_types HO194.out BK195.out (by decide)) (fun _ hk => hk.2) (.slice AoZ36 t189.length coZ37)) (fun _ hk => hk.2) (.slice AoZ47 t192.length coZ48)) (fun _ h_ => h_.1))) (Kd.R_base ho1) hb); have n7_ := Aside0.mk (Kd.R_lower (Kd.R_new' (Kd.R_new' (Kd.R_new' ho0 (Kd.R_lt (by st3_; exact (Kd.R_mono (Kd.R_far (p := ⟨gb195, 1, none⟩) (Kd.R_far (p := ⟨gb195, 0, none⟩) (Kd.R_types HO176.out BK195.out (by decide)) (fun _ hk => hk.2) (.slice AoZ36 t189.length coZ37)) (fun _ hk => hk.2) (.slice AoZ47 t192.length coZ48)) (fun _ h_ => h_.1))))) (Kd.R_lt (by st3_; exact (Kd.R_mono (Kd.R_far (p := ⟨gb195, 1, none⟩) (Kd.R_far (p := ⟨gb195, 0, none⟩) (Kd.R_types HO182.out BK195.out (by decide)) (fun _ hk => hk.2) (.slice AoZ36 t189.length coZ37)) (fun _ hk => hk.2) (.slice AoZ47 t192.length coZ48)) (fun _ h_ => h_.1))))) (Kd.R_lt (by st3_; exact (Kd.R_mono (Kd.R_far (p := ⟨gb195, 1, none⟩) (Kd.R_far (p := ⟨gb195, 0, none⟩) (Kd.R_types HO191.out BK195.out (by decide)) (fun _ hk => hk.2) (.slice AoZ36 t189.length coZ37)) (fun _ hk => hk.2) (.slice AoZ47 t192.length coZ48)) (fun _ h_ => h_.1))))) (below_size sq16_)); have n8_ := Aside0.mk (Kd.R_lower (Kd.R_new' (Kd.R_new' (Kd.R_new' (Kd.R_new' ho1 (Kd.R_lt (by st3_; exact (Kd.R_mono (Kd.R_far (p := ⟨gb195, 1, none⟩) (Kd.R_far (p := ⟨gb195, 0, none⟩) (Kd.R_types HO179.out BK195.out (by decide)) (fun _ hk => hk.2) (.slice AoZ36 t189.length coZ37)) (fun _ hk => hk.2) (.slice AoZ47 t192.length coZ48)) (fun _ h_ => h_.1))))) (Kd.R_lt (by st3_; exact (Kd.R_mono (Kd.R_far (p := ⟨gb195, 1, none⟩) (Kd.R_far (p := ⟨gb195, 0, none⟩) (Kd.R_types HO185.out BK195.out (by decide)) (fun _ hk => hk.2) (.slice AoZ36 t189.length coZ37)) (fun _ hk => hk.2) (.slice AoZ47 t192.length coZ48)) (fun _ h_ => h_.1))))) (Kd.R_lt (by st3_; exact (Kd.R_mono (Kd.R_far (p := ⟨gb195, 1, none⟩) (Kd.R_far (p := ⟨gb195, 0, none⟩) (Kd.R_types HO188.out BK195.out (by decide)) (fun _ hk => hk.2) (.slice AoZ36 t189.length coZ37)) (fun _ hk => hk.2) (.slice AoZ47 t192.length coZ48)) (fun _ h_ => h_.1))))) (Kd.R_lt (by st3_; exact (Kd.R_mono (Kd.R_far (p := ⟨gb195, 1, none⟩) (Kd.R_far (p := ⟨gb195, 0, none⟩) (Kd.R_types HO194.out BK195.out (by decide)) (fun _ hk => hk.2) (.slice AoZ36 t189.length coZ37)) (fun _ hk => hk.2) (.slice AoZ47 t192.length coZ48)) (fun _ h_ => h_.1))))) (below_size sq16_)); have n9_ := Aside0.mk (blk_below (g := gb170) (o := .cells #[.slice A0_0 l0_0.length c0_0, .slice A0_1 l0_1.length c0_1] 62 (0, 0)) (by st4_; refine blk_far ?_ NB170_195.out _; st4_; refine blk_far ?_ NB170_195.out _; st4_; exact BK170.out) hb); have n10_ := Aside0.mk (blk_below (g := gb171) (o := .cells #[.slice A1_0 l1_0.length c1_0, .slice A1_1 l1_1.length c1_1] 62 (0, 0)) (by st4_; refine blk_far ?_ NB171_195.out _; st4_; refine blk_far ?_ NB171_195.out _; st4_; exact BK171.out) hb); have n11_ := Aside0.mk (blk_below (g := gb195) (o := .cells #[.slice AoZ36 t189.length coZ37, .slice AoZ47 t192.length coZ48] 65 (0, 0)) (by st4_; refine blk_put (cs := #[.slice AoZ36 t189.length coZ37, .slice none 0 0]) ?_ 1 _ rfl; st4_; refine blk_put (cs := #[.slice none 0 0, .slice none 0 0]) ?_ 0 _ rfl; st4_; exact BK195.out) hb); have n12_ := Aside0.mk (below_step sq16_ hb); clear HO176; clear HO179; clear HO182; clear HO185; clear HO188; clear HO191; clear HO194; clear BK170; clear BK171; clear BK195; clear HB; have HO176 := n0_; have HO179 := n1_; have HO182 := n2_; have HO185 := n3_; have HO188 := n4_; have HO191 := n5_; have HO194 := n6_; have HO198 := n7_; have HO201 := n8_; have BK170 := n9_; have BK171 := n10_; have BK195 := n11_; have HB := n12_; clear n0_ n1_ n2_ n3_ n4_ n5_ n6_ n7_ n8_ n9_ n10_ n11_ n12_; (try clear hb); (try clear hb2); (try clear hk); (try clear hi); (try clear ho0); (try clear ho1)) | ((with_reducible refine gate_dst (N := 8) rfl ?_); refine box_event ?hg (N := 8) ?hd (cs := #[.slice none 0 0, .slice none 0 0]) (t := 65) ?hr ?_; (case hd => rfl); (case hg => rfl); (case hr => first | (go_simp; done) | (go_simp; rfl)); intro gb202 hg wZ55 hbox hb; have n0_ := Aside0.mk (Kd.R_below (by st3_; exact HO176.out) hb); have n1_ := Aside0.mk (Kd.R_below (by st3_; exact HO179.out) hb); have n2_ := Aside0.mk (Kd.R_below (by st3_; exact HO182.out) hb); have n3_ := Aside0.mk (Kd.R_below (by st3_; exact HO185.out) hb); have n4_ := Aside0.mk (Kd.R_below (by st3_; exact HO188.out) hb); have n5_ := Aside0.mk (Kd.R_below (by st3_; exact HO191.out) hb); have n6_ := Aside0.mk (Kd.R_below (by st3_; exact HO194.out) hb); have n7_ := Aside0.mk (Kd.R_below (by st3_; exact HO198.out) hb); have n8_ := Aside0.mk (Kd.R_below (by st3_; exact HO201.out) hb); have n9_ := Aside0.mk (blk_below (g := gb170) (o := .cells #[.slice A0_0 l0_0.length c0_0, .slice A0_1 l0_1.length c0_1] 62 (0, 0)) (by st4_; exact BK170.out) hb); have n10_ := Aside0.mk (blk_below (g := gb171) (o := .cells #[.slice A1_0 l1_0.length c1_0, .slice A1_1 l1_1.length c1_1] 62 (0, 0)) (by st4_; exact BK171.out) hb); have n11_ := Aside0.mk (blk_below (g := gb195) (o := .cells #[.slice AoZ36 t189.length coZ37, .slice AoZ47 t192.length coZ48] 65 (0, 0)) (by st4_; exact BK195.out) hb); have n12_ := Aside0.mk (below_step sq16_ hb); have n13_ := Aside0.mk (hbox); have n14_ := Aside0.mk ((by rw [hg]; exact (below_size sq16_) : w.heap.size ≤ gb202)); have n15_ := Aside0.mk ((by rw [hg]; exact (below_size sq16_) : w.heap.size ≤ gb202)); have n16_ := Aside0.mk ((by rw [hg]; exact Nat.ne_of_lt (blk_lt (g := gb170) (o := .cells #[.slice A0_0 l0_0.length c0_0, .slice A0_1 l0_1.length c0_1] 62 (0, 0)) (by st4_; exact BK170.out)) : gb170 ≠ gb202)); have n17_ := Aside0.mk ((by rw [hg]; exact Nat.ne_of_gt (blk_lt (g := gb170) (o := .cells #[.slice A0_0 l0_0.length c0_0, .slice A0_1 l0_1.length c0_1] 62 (0, 0)) (by st4_; exact BK170.out)) : gb202 ≠ gb170)); have n18_ := Aside0.mk ((by rw [hg]; exact Nat.ne_of_lt (blk_lt (g := gb171) (o := .cells #[.slice A1_0 l1_0.length c1_0, .slice A1_1 l1_1.length c1_1] 62 (0, 0)) (by st4_; exact BK171.out)) : gb171 ≠ gb202)); have n19_ := Aside0.mk ((by rw [hg]; exact Nat.ne_of_gt (blk_lt (g := gb171) (o := .cells #[.slice A1_0 l1_0.length c1_0, .slice A1_1 l1_1.length c1_1] 62 (0, 0)) (by st4_; exact BK171.out)) : gb202 ≠ gb171)); have n20_ := Aside0.mk ((by rw [hg]; exact Nat.ne_of_lt (blk_lt (g := gb195) (o := .cells #[.slice AoZ36 t189.length coZ37, .slice AoZ47 t192.length coZ48] 65 (0, 0)) (by st4_; exact BK195.out)) : gb195 ≠ gb202)); have n21_ := Aside0.mk ((by rw [hg]; exact Nat.ne_of_gt (blk_lt (g := gb195) (o := .cells #[.slice AoZ36 t189.length coZ37, .slice AoZ47 t192.length coZ48] 65 (0, 0)) (by st4_; exact BK195.out)) : gb202 ≠ gb195)); clear HO176; clear HO179; clear HO182; clear HO185; clear HO188; clear HO191; clear HO194; clear HO198; clear HO201; clear BK170; clear BK171; clear BK195; clear HB; have HO176 := n0_; have HO179 := n1_; have HO182 := n2_; have HO185 := n3_; have HO188 := n4_; have HO191 := n5_; have HO194 := n6_; have HO198 := n7_; have HO201 := n8_; have BK170 := n9_; have BK171 := n10_; have BK195 := n11_; have HB := n12_; have BK202 := n13_; have GW202 := n14_; have GE202 := n15_; have NB170_202 := n16_; have NB202_170 := n17_; have NB171_202 := n18_; have NB202_171 := n19_; have NB195_202 := n20_; have NB202_195 := n21_; clear n0_ n1_ n2_ n3_ n4_ n5_ n6_ n7_ n8_ n9_ n10_ n11_ n12_ n13_ n14_ n15_ n16_ n17_ n18_ n19_ n20_ n21_; clear hb hbox hg; obtain ⟨AoZ56, coZ57, eoZ58⟩ := Kd.R_slice HO198.out; subst eoZ58; have hnbZ59 := NB202_170.out; have hncZ60 := NB170_202.out; have hnbZ61 := NB202_171.out; have hncZ62 := NB171_202.out; have hnbZ63 := NB202_195.out; have hncZ64 := NB195_202.out; have hczZ65 : wZ55.cell? ⟨gb202, 0, none⟩ = some (.slice none 0 0) := (blk_cell BK202.out 0).trans rfl; have hczZ66 : wZ55.cell? ⟨gb202, 1, none⟩ = some (.slice none 0 0) := (blk_cell BK202.out 1).trans rfl; have hfzZ67 := blk_frozen BK202.out 0; have hfzZ68 := blk_frozen BK202.out 1; obtain ⟨AoZ69, coZ70, eoZ71⟩ := Kd.R_slice HO201.out; subst eoZ71; have hczZ72 : wZ55.cell? ⟨gb195, 0, none⟩ = some (.slice AoZ36 t189.length coZ37) := (blk_cell BK195.out 0).trans rfl; have hczZ73 : wZ55.cell? ⟨gb195, 1, none⟩ = some (.slice AoZ47 t192.length coZ48) := (blk_cell BK195.out 1).trans rfl; have hfzZ74 := blk_frozen BK195.out 0; have hfzZ75 := blk_frozen BK195.out 1) | ((with_reducible refine gate_callee (f := 59) rfl ?_); refine goesL_ (some 35) rfl rfl Try.func59 (by kernel_rfl) rfl #[.agg #[.slice AoZ36 t189.length coZ37, .slice AoZ47 t192.length coZ48], .agg #[.slice AoZ56 t196.length coZ57, .slice AoZ69 t199.length coZ70]] rfl sq9_ ?_; (with_reducible refine (impl_ChangedBits.calls k _ _ t189 _ _ t192 _ _ t196 _ _ t199 t203 _ ?side1 ?side2 ?side3 ?side4 ?side5 ?side6 ?side7 ?side8 A24.out).mono ?_); (case side1 => refine (Kd.R_reads' (e := 4) (base := w.heap.size) (ok := fun k_ => (((True ∧ some k_ ≠ (.slice AoZ17 t174.length coZ18 : Value).ownBlock) ∧ some k_ ≠ (.slice AoZ23 t180.length coZ24 : Value).ownBlock) ∧ some k_ ≠ (.slice AoZ56 t196.length coZ57 : Value).ownBlock)) (n := t189.length) (c := coZ37) ?_).2.2; exact (by st3_; exact (Kd.R_mono (Kd.R_far (p := ⟨gb202, 1, none⟩) (Kd.R_far (p := ⟨gb202, 0, none⟩) (Kd.R_types HO191.out BK202.out (by decide)) (fun _ hk => hk.2) (.slice AoZ56 t196.length coZ57)) (fun _ hk => hk.2) (.slice AoZ69 t199.length coZ70)) (fun _ h_ => h_.1)))); (case side2 => exact (Kd.R_reads' HO191.out).2.1); (case side3 => refine (Kd.R_reads' (e := 3) (base := w.heap.size) (ok := fun k_ => ((((True ∧ some k_ ≠ (.slice AoZ20 t177.length coZ21 : Value).ownBlock) ∧ some k_ ≠ (.slice AoZ26 t183.length coZ27 : Value).ownBlock) ∧ some k_ ≠ (v187 : Value).ownBlock) ∧ some k_ ≠ (.slice AoZ69 t199.length coZ70 : Value).ownBlock)) (n := t192.length) (c := coZ48) ?_).2.2; exact sq28_); (case side4 => exact (Kd.R_reads' HO194.out).2.1); (case side5 => refine (Kd.R_reads' (e := 4) (base := w.heap.size) (ok := fun k_ => (((True ∧ some k_ ≠ (.slice AoZ17 t174.length coZ18 : Value).ownBlock) ∧ some k_ ≠ (.slice AoZ23 t180.length coZ24 : Value).ownBlock) ∧ some k_ ≠ (.slice AoZ36 t189.length coZ37 : Value).ownBlock)) (n := t196.length) (c := coZ57) ?_).2.2; exact (by st3_; exact (Kd.R_mono (Kd.R_far (p := ⟨gb202, 1, none⟩) (Kd.R_far (p := ⟨gb202, 0, none⟩) (Kd.R_types HO198.out BK202.out (by decide)) (fun _ hk => hk.2) (.slice AoZ56 t196.length coZ57)) (fun _ hk => hk.2) (.slice AoZ69 t199.length coZ70)) (fun _ h_ => h_.1)))); (case side6 => exact (Kd.R_reads' HO198.out).2.1); (case side7 => refine (Kd.R_reads' (e := 3) (base := w.heap.size) (ok := fun k_ => ((((True ∧ some k_ ≠ (.slice AoZ20 t177.length coZ21 : Value).ownBlock) ∧ some k_ ≠ (.slice AoZ26 t183.length coZ27 : Value).ownBlock) ∧ some k_ ≠ (v187 : Value).ownBlock) ∧ some k_ ≠ (.slice AoZ47 t192.length coZ48 : Value).ownBlock)) (n := t199.length) (c := coZ70) ?_).2.2; exact sq29_); (case side8 => exact (Kd.R_reads' HO201.out).2.1); rintro e wZ76 ⟨v204, rfl, ho0, hb⟩; refine ⟨_, rfl, ?_⟩; have n0_ := Aside0.mk (Kd.R_below (by st3_; exact (Kd.R_mono (Kd.R_far (p := ⟨gb202, 1, none⟩) (Kd.R_far (p := ⟨gb202, 0, none⟩) (Kd.R_types HO176.out BK202.out (by decide)) (fun _ hk => hk.2) (.slice AoZ56 t196.length coZ57)) (fun _ hk => hk.2) (.slice AoZ69 t199.length coZ70)) (fun _ h_ => h_.1))) hb); have n1_ := Aside0.mk (Kd.R_elder' (by st3_; exact (Kd.R_mono (Kd.R_far (p := ⟨gb202, 1, none⟩) (Kd.R_far (p := ⟨gb202, 0, none⟩) (Kd.R_types HO179.out BK202.out (by decide)) (fun _ hk => hk.2) (.slice AoZ56 t196.length coZ57)) (fun _ hk => hk.2) (.slice AoZ69 t199.length coZ70)) (fun _ h_ => h_.1))) (Kd.Q_base ho0) hb); have n2_ := Aside0.mk (Kd.R_below (by st3_; exact (Kd.R_mono (Kd.R_far (p := ⟨gb202, 1, none⟩) (Kd.R_far (p := ⟨gb202, 0, none⟩) (Kd.R_types HO182.out BK202.out (by decide)) (fun _ hk => hk.2) (.slice AoZ56 t196.length coZ57)) (fun _ hk => hk.2) (.slice AoZ69 t199.length coZ70)) (fun _ h_ => h_.1))) hb); have n3_ := Aside0.mk (Kd.R_elder' (by st3_; exact (Kd.R_mono (Kd.R_far (p := ⟨gb202, 1, none⟩) (Kd.R_far (p := ⟨gb202, 0, none⟩) (Kd.R_types HO185.out BK202.out (by decide)) (fun _ hk => hk.2) (.slice AoZ56 t196.length coZ57)) (fun _ hk => hk.2) (.slice AoZ69 t199.length coZ70)) (fun _ h_ => h_.1))) (Kd.Q_base ho0) hb); have n4_ := Aside0.mk (Kd.R_elder' (by st3_; exact (Kd.R_mono (Kd.R_far (p := ⟨gb202, 1, none⟩) (Kd.R_far (p := ⟨gb202, 0, none⟩) (Kd.R_types HO188.out BK202.out (by decide)) (fun _ hk => hk.2) (.slice AoZ56 t196.length coZ57)) (fun _ hk => hk.2) (.slice AoZ69 t199.length coZ70)) (fun _ h_ => h_.1))) (Kd.Q_base ho0) hb); have n5_ := Aside0.mk (Kd.R_below (by st3_; exact (Kd.R_mono (Kd.R_far (p := ⟨gb202, 1, none⟩) (Kd.R_far (p := ⟨gb202, 0, none⟩) (Kd.R_types HO191.out BK202.out (by decide)) (fun _ hk => hk.2) (.slice AoZ56 t196.length coZ57)) (fun _ hk => hk.2) (.slice AoZ69 t199.length coZ70)) (fun _ h_ => h_.1))) hb); have n6_ := Aside0.mk (Kd.R_elder' sq28_ (Kd.Q_base ho0) hb); have n7_ := Aside0.mk (Kd.R_below (by st3_; exact (Kd.R_mono (Kd.R_far (p := ⟨gb202, 1, none⟩) (Kd.R_far (p := ⟨gb202, 0, none⟩) (Kd.R_types HO198.out BK202.out (by decide)) (fun _ hk => hk.2) (.slice AoZ56 t196.length coZ57)) (fun _ hk => hk.2) (.slice AoZ69 t199.length coZ70)) (fun _ h_ => h_.1))) hb); have n8_ := Aside0.mk (Kd.R_elder' sq29_ (Kd.Q_base ho0) hb); have n9_ := Aside0.mk (Kd.Q_lower (Kd.Q_new' (Kd.Q_new' (Kd.Q_new' (Kd.Q_new' (Kd.Q_new' ho0 (Kd.R_lt (by st3_; exact (Kd.R_mono (Kd.R_far (p := ⟨gb202, 1, none⟩) (Kd.R_far (p := ⟨gb202, 0, none⟩) (Kd.R_types HO179.out BK202.out (by decide)) (fun _ hk => hk.2) (.slice AoZ56 t196.length coZ57)) (fun _ hk => hk.2) (.slice AoZ69 t199.length coZ70)) (fun _ h_ => h_.1))))) (Kd.R_lt (by st3_; exact (Kd.R_mono (Kd.R_far (p := ⟨gb202, 1, none⟩) (Kd.R_far (p := ⟨gb202, 0, none⟩) (Kd.R_types HO185.out BK202.out (by decide)) (fun _ hk => hk.2) (.slice AoZ56 t196.length coZ57)) (fun _ hk => hk.2) (.slice AoZ69 t199.length coZ70)) (fun _ h_ => h_.1))))) (Kd.R_lt (by st3_; exact (Kd.R_mono (Kd.R_far (p := ⟨gb202, 1, none⟩) (Kd.R_far (p := ⟨gb202, 0, none⟩) (Kd.R_types HO188.out BK202.out (by decide)) (fun _ hk => hk.2) (.slice AoZ56 t196.length coZ57)) (fun _ hk => hk.2) (.slice AoZ69 t199.length coZ70)) (fun _ h_ => h_.1))))) (Kd.R_lt sq28_)) (Kd.R_lt sq29_)) (below_size (by repeat st5_))); have n10_ := Aside0.mk (blk_below (g := gb170) (o := .cells #[.slice A0_0 l0_0.length c0_0, .slice A0_1 l0_1.length c0_1] 62 (0, 0)) (by st4_; refine blk_far ?_ NB170_202.out _; st4_; refine blk_far ?_ NB170_202.out _; st4_; exact BK170.out) hb); have n11_ := Aside0.mk (blk_below (g := gb171) (o := .cells #[.slice A1_0 l1_0.length c1_0, .slice A1_1 l1_1.length c1_1] 62 (0, 0)) (by st4_; refine blk_far ?_ NB171_202.out _; st4_; refine blk_far ?_ NB171_202.out _; st4_; exact BK171.out) hb); have n12_ := Aside0.mk (blk_below (g := gb195) (o := .cells #[.slice AoZ36 t189.length coZ37, .slice AoZ47 t192.length coZ48] 65 (0, 0)) (by st4_; refine blk_far ?_ NB195_202.out _; st4_; refine blk_far ?_ NB195_202.out _; st4_; exact BK195.out) hb); have n13_ := Aside0.mk (blk_below (g := gb202) (o := .cells #[.slice AoZ56 t196.length coZ57, .slice AoZ69 t199.length coZ70] 65 (0, 0)) (by st4_; refine blk_put (cs := #[.slice AoZ56 t196.length coZ57, .slice none 0 0]) ?_ 1 _ rfl; st4_; refine blk_put (cs := #[.slice none 0 0, .slice none 0 0]) ?_ 0 _ rfl; st4_; exact BK202.out) hb); have n14_ := Aside0.mk (below_step (by repeat st5_) hb); clear HO176; clear HO179; clear HO182; clear HO185; clear HO188; clear HO191; clear HO194; clear HO198; clear HO201; clear BK170; clear BK171; clear BK195; clear BK202; clear HB; have HO176 := n0_; have HO179 := n1_; have HO182 := n2_; have HO185 := n3_; have HO188 := n4_; have HO191 := n5_; have HO194 := n6_; have HO198 := n7_; have HO201 := n8_; have HO205 := n9_; have BK170 := n10_; have BK171 := n11_; have BK195 := n12_; have BK202 := n13_; have HB := n14_; clear n0_ n1_ n2_ n3_ n4_ n5_ n6_ n7_ n8_ n9_ n10_ n11_ n12_ n13_ n14_; (try clear hb); (try clear hb2); (try clear hk); (try clear hi); (try clear ho0); obtain ⟨AoZ77, coZ78, eoZ79, _⟩ := Kd.Q_slice HO205.out; subst eoZ79; obtain ⟨AoZ80, coZ81, eoZ82⟩ := Kd.R_slice HO188.out; subst eoZ82) | ((with_reducible refine gate_callee (f := 19) rfl ?_); refine goesL_ (some 38) rfl rfl Try.func19 (by kernel_rfl) rfl #[.slice AoZ77 t203.length coZ78, .slice AoZ80 t186.length coZ81] rfl sq9_ ?_; (with_reducible refine (laws_eqIntS.calls k _ _ t203 _ _ t186 true _ ?side1 ?side2 ?side3 ?side4 A25.out).mono ?_); (case side1 => repeat (first | exact (Kd.Q_reads' HO205.out).2.2 | (with_reducible refine Kd.C_alloc ?_ _) | (with_reducible refine Kd.C_drewN ?_ _) | (with_reducible refine Kd.C_drew ?_))); (case side2 => exact (Kd.Q_reads' HO205.out).2.1); (case side3 => repeat (first | exact (Kd.R_reads' HO188.out).2.2 | (with_reducible refine Kd.C_alloc ?_ _) | (with_reducible refine Kd.C_drewN ?_ _) | (with_reducible refine Kd.C_drew ?_))); (case side4 => exact (Kd.R_reads' HO188.out).2.1); rintro e w' ⟨rfl, ⟨nd, rfl⟩⟩; refine ⟨_, rfl, ?_⟩)))
set_option hygiene false in
local macro "st14_" : tactic => `(tactic| (case side1 => repeat (first | exact (Kd.C_below HR1_0.out HB.out) | (with_reducible refine Kd.C_alloc ?_ _) | (with_reducible refine Kd.C_drewN ?_ _) | (with_reducible refine Kd.C_drew ?_))))
set_option hygiene false in
local macro "st15_" : tactic => `(tactic| (case side3 => repeat (first | exact (Kd.C_below HR1_1.out HB.out) | (with_reducible refine Kd.C_alloc ?_ _) | (with_reducible refine Kd.C_drewN ?_ _) | (with_reducible refine Kd.C_drew ?_))))
set_option hygiene false in
local macro "st2_" : tactic => `(tactic| (first | ((with_reducible refine gate_dst (N := 2) rfl ?_); refine box_event ?hg (N := 2) ?hd (cs := #[.slice A0_0 l0_0.length c0_0, .slice A0_1 l0_1.length c0_1]) (t := 62) ?hr ?_; (case hd => rfl); (case hg => rfl); (case hr => first | (go_simp; done) | (go_simp; rfl)); intro gb170 hg wZ0 hbox hb; have n0_ := Aside0.mk (below_step (by repeat (first | (with_reducible first | exact HB.out | apply below_alloc | apply pw_below_drewN | apply below_drew1) | exact HB.out)) hb); have n1_ := Aside0.mk (hbox); have n2_ := Aside0.mk ((by rw [hg]; exact (below_size (by repeat (first | (with_reducible first | exact HB.out | apply below_alloc | apply pw_below_drewN | apply below_drew1) | exact HB.out))) : w.heap.size ≤ gb170)); have n3_ := Aside0.mk ((by rw [hg]; exact (below_size (by repeat (first | (with_reducible first | exact HB.out | apply below_alloc | apply pw_below_drewN | apply below_drew1) | exact HB.out))) : w.heap.size ≤ gb170)); clear HB; have HB := n0_; have BK170 := n1_; have GW170 := n2_; have GE170 := n3_; clear n0_ n1_ n2_ n3_; clear hb hbox hg) | ((with_reducible refine gate_dst (N := 3) rfl ?_); refine box_event ?hg (N := 3) ?hd (cs := #[.slice A1_0 l1_0.length c1_0, .slice A1_1 l1_1.length c1_1]) (t := 62) ?hr ?_; (case hd => rfl); (case hg => rfl); (case hr => first | (go_simp; done) | (go_simp; rfl)); intro gb171 hg wZ1 hbox hb; have n0_ := Aside0.mk (blk_below (g := gb170) (o := .cells #[.slice A0_0 l0_0.length c0_0, .slice A0_1 l0_1.length c0_1] 62 (0, 0)) (by st4_; exact BK170.out) hb); have n1_ := Aside0.mk (below_step (by repeat (first | (with_reducible first | exact HB.out | apply below_alloc | apply pw_below_drewN | apply below_drew1 | refine below_set ?_ GE170.out) | exact HB.out)) hb); have n2_ := Aside0.mk (hbox); have n3_ := Aside0.mk ((by rw [hg]; exact (below_size (by repeat (first | (with_reducible first | exact HB.out | apply below_alloc | apply pw_below_drewN | apply below_drew1 | refine below_set ?_ GE170.out) | exact HB.out))) : w.heap.size ≤ gb171)); have n4_ := Aside0.mk ((by rw [hg]; exact (below_size (by repeat (first | (with_reducible first | exact HB.out | apply below_alloc | apply pw_below_drewN | apply below_drew1 | refine below_set ?_ GE170.out) | exact HB.out))) : w.heap.size ≤ gb171)); have n5_ := Aside0.mk ((by rw [hg]; exact Nat.ne_of_lt (blk_lt (g := gb170) (o := .cells #[.slice A0_0 l0_0.length c0_0, .slice A0_1 l0_1.length c0_1] 62 (0, 0)) (by st4_; exact BK170.out)) : gb170 ≠ gb171)); have n6_ := Aside0.mk ((by rw [hg]; exact Nat.ne_of_gt (blk_lt (g := gb170) (o := .cells #[.slice A0_0 l0_0.length c0_0, .slice A0_1 l0_1.length c0_1] 62 (0, 0)) (by st4_; exact BK170.out)) : gb171 ≠ gb170)); clear BK170; clear HB; have BK170 := n0_; have HB := n1_; have BK171 := n2_; have GW171 := n3_; have GE171 := n4_; have NB170_171 := n5_; have NB171_170 := n6_; clear n0_ n1_ n2_ n3_ n4_ n5_ n6_; clear hb hbox hg; have hnbZ2 := NB170_171.out; have hncZ3 := NB171_170.out; have hczZ4 : wZ1.cell? ⟨gb170, 0, none⟩ = some (.slice A0_0 l0_0.length c0_0) := (blk_cell BK170.out 0).trans rfl; have hczZ5 : wZ1.cell? ⟨gb170, 1, none⟩ = some (.slice A0_1 l0_1.length c0_1) := (blk_cell BK170.out 1).trans rfl; have hfzZ6 := blk_frozen BK170.out 0; have hfzZ7 := blk_frozen BK170.out 1) | ((with_reducible refine gate_callee (f := 51) rfl ?_); refine goesL_ (some 16) rfl rfl Try.func51 (by kernel_rfl) rfl #[.agg #[.slice A0_0 l0_0.length c0_0, .slice A0_1 l0_1.length c0_1], .int .i64 1048576] rfl sq9_ ?_; (with_reducible refine (laws_szImage.calls _ _ l0_0 _ _ l0_1 1048576 t172 _ ?side1 ?side2 ?side3 ?side4 A3.out).mono ?_); st11_; (case side2 => exact HC0_0.out); st12_; (case side4 => exact HC0_1.out); rintro e wZ8 ⟨rfl, hb⟩; refine ⟨_, rfl, ?_⟩; have n0_ := Aside0.mk (blk_below (g := gb170) (o := .cells #[.slice A0_0 l0_0.length c0_0, .slice A0_1 l0_1.length c0_1] 62 (0, 0)) (by st4_; exact BK170.out) hb); have n1_ := Aside0.mk (blk_below (g := gb171) (o := .cells #[.slice A1_0 l1_0.length c1_0, .slice A1_1 l1_1.length c1_1] 62 (0, 0)) (by st4_; exact BK171.out) hb); have n2_ := Aside0.mk (below_step sq8_ hb); clear BK170; clear BK171; clear HB; have BK170 := n0_; have BK171 := n1_; have HB := n2_; clear n0_ n1_ n2_; (try clear hb); (try clear hb2); (try clear hk); (try clear hi); have hczZ9 : wZ8.cell? ⟨gb171, 0, none⟩ = some (.slice A1_0 l1_0.length c1_0) := (blk_cell BK171.out 0).trans rfl; have hczZ10 : wZ8.cell? ⟨gb171, 1, none⟩ = some (.slice A1_1 l1_1.length c1_1) := (blk_cell BK171.out 1).trans rfl; have hfzZ11 := blk_frozen BK171.out 0; have hfzZ12 := blk_frozen BK171.out 1) | ((with_reducible refine gate_callee (f := 51) rfl ?_); refine goesL_ (some 21) rfl rfl Try.func51 (by kernel_rfl) rfl #[.agg #[.slice A1_0 l1_0.length c1_0, .slice A1_1 l1_1.length c1_1], .int .i64 t172] rfl sq9_ ?_; (with_reducible refine (laws_szImage.calls _ _ l1_0 _ _ l1_1 t172 t173 _ ?side1 ?side2 ?side3 ?side4 A10.out).mono ?_); st14_; (case side2 => exact HC1_0.out); st15_; (case side4 => exact HC1_1.out); rintro e wZ13 ⟨rfl, hb⟩; refine ⟨_, rfl, ?_⟩; have n0_ := Aside0.mk (blk_below (g := gb170) (o := .cells #[.slice A0_0 l0_0.length c0_0, .slice A0_1 l0_1.length c0_1] 62 (0, 0)) (by st4_; exact BK170.out) hb); have n1_ := Aside0.mk (blk_below (g := gb171) (o := .cells #[.slice A1_0 l1_0.length c1_0, .slice A1_1 l1_1.length c1_1] 62 (0, 0)) (by st4_; exact BK171.out) hb); have n2_ := Aside0.mk (below_step sq8_ hb); clear BK170; clear BK171; clear HB; have BK170 := n0_; have BK171 := n1_; have HB := n2_; clear n0_ n1_ n2_; (try clear hb); (try clear hb2); (try clear hk); (try clear hi))))
set_option hygiene false in
local macro "st6_" : tactic => `(tactic| (with_reducible repeat (first | apply Kd.Q_alloc | apply Kd.Q_drewN | apply Kd.Q_drew)))
set_option hygiene false in
local macro "st7_" : tactic => `(tactic| (try (rw [drewN_self wZ76]; generalize hq_ : World.drewN wZ76 _ = wZ76; have n0_ : Aside0 (Kd.R Kd.bool 4 wZ76 w.heap.size (fun k_ => (((True ∧ some k_ ≠ (.slice AoZ23 t180.length coZ24 : Value).ownBlock) ∧ some k_ ≠ (.slice AoZ36 t189.length coZ37 : Value).ownBlock) ∧ some k_ ≠ (.slice AoZ56 t196.length coZ57 : Value).ownBlock)) (.slice AoZ17 t174.length coZ18) t174) := ⟨by rw [← hq_]; exact (by st3_; exact HO176.out)⟩; have n1_ : Aside0 (Kd.R (Kd.int .i64) 3 wZ76 w.heap.size (fun k_ => (((((True ∧ some k_ ≠ (.slice AoZ26 t183.length coZ27 : Value).ownBlock) ∧ some k_ ≠ (.slice AoZ80 t186.length coZ81 : Value).ownBlock) ∧ some k_ ≠ (.slice AoZ47 t192.length coZ48 : Value).ownBlock) ∧ some k_ ≠ (.slice AoZ69 t199.length coZ70 : Value).ownBlock) ∧ some k_ ≠ (.slice AoZ77 t203.length coZ78 : Value).ownBlock)) (.slice AoZ20 t177.length coZ21) t177) := ⟨by rw [← hq_]; exact (by st3_; exact HO179.out)⟩; have n2_ : Aside0 (Kd.R Kd.bool 4 wZ76 w.heap.size (fun k_ => (((True ∧ some k_ ≠ (.slice AoZ17 t174.length coZ18 : Value).ownBlock) ∧ some k_ ≠ (.slice AoZ36 t189.length coZ37 : Value).ownBlock) ∧ some k_ ≠ (.slice AoZ56 t196.length coZ57 : Value).ownBlock)) (.slice AoZ23 t180.length coZ24) t180) := ⟨by rw [← hq_]; exact (by st3_; exact HO182.out)⟩; have n3_ : Aside0 (Kd.R (Kd.int .i64) 3 wZ76 w.heap.size (fun k_ => (((((True ∧ some k_ ≠ (.slice AoZ20 t177.length coZ21 : Value).ownBlock) ∧ some k_ ≠ (.slice AoZ80 t186.length coZ81 : Value).ownBlock) ∧ some k_ ≠ (.slice AoZ47 t192.length coZ48 : Value).ownBlock) ∧ some k_ ≠ (.slice AoZ69 t199.length coZ70 : Value).ownBlock) ∧ some k_ ≠ (.slice AoZ77 t203.length coZ78 : Value).ownBlock)) (.slice AoZ26 t183.length coZ27) t183) := ⟨by rw [← hq_]; exact (by st3_; exact HO185.out)⟩; have n4_ : Aside0 (Kd.R (Kd.int .i64) 3 wZ76 w.heap.size (fun k_ => (((((True ∧ some k_ ≠ (.slice AoZ20 t177.length coZ21 : Value).ownBlock) ∧ some k_ ≠ (.slice AoZ26 t183.length coZ27 : Value).ownBlock) ∧ some k_ ≠ (.slice AoZ47 t192.length coZ48 : Value).ownBlock) ∧ some k_ ≠ (.slice AoZ69 t199.length coZ70 : Value).ownBlock) ∧ some k_ ≠ (.slice AoZ77 t203.length coZ78 : Value).ownBlock)) (.slice AoZ80 t186.length coZ81) t186) := ⟨by rw [← hq_]; exact (by st3_; exact HO188.out)⟩; have n5_ : Aside0 (Kd.R Kd.bool 4 wZ76 w.heap.size (fun k_ => (((True ∧ some k_ ≠ (.slice AoZ17 t174.length coZ18 : Value).ownBlock) ∧ some k_ ≠ (.slice AoZ23 t180.length coZ24 : Value).ownBlock) ∧ some k_ ≠ (.slice AoZ56 t196.length coZ57 : Value).ownBlock)) (.slice AoZ36 t189.length coZ37) t189) := ⟨by rw [← hq_]; exact (by st3_; exact HO191.out)⟩; have n6_ : Aside0 (Kd.R (Kd.int .i64) 3 wZ76 w.heap.size (fun k_ => (((((True ∧ some k_ ≠ (.slice AoZ20 t177.length coZ21 : Value).ownBlock) ∧ some k_ ≠ (.slice AoZ26 t183.length coZ27 : Value).ownBlock) ∧ some k_ ≠ (.slice AoZ80 t186.length coZ81 : Value).ownBlock) ∧ some k_ ≠ (.slice AoZ69 t199.length coZ70 : Value).ownBlock) ∧ some k_ ≠ (.slice AoZ77 t203.length coZ78 : Value).ownBlock)) (.slice AoZ47 t192.length coZ48) t192) := ⟨by rw [← hq_]; exact (by st3_; exact HO194.out)⟩; have n7_ : Aside0 (Kd.R Kd.bool 4 wZ76 w.heap.size (fun k_ => (((True ∧ some k_ ≠ (.slice AoZ17 t174.length coZ18 : Value).ownBlock) ∧ some k_ ≠ (.slice AoZ23 t180.length coZ24 : Value).ownBlock) ∧ some k_ ≠ (.slice AoZ36 t189.length coZ37 : Value).ownBlock)) (.slice AoZ56 t196.length coZ57) t196) := ⟨by rw [← hq_]; exact (by st3_; exact HO198.out)⟩; have n8_ : Aside0 (Kd.R (Kd.int .i64) 3 wZ76 w.heap.size (fun k_ => (((((True ∧ some k_ ≠ (.slice AoZ20 t177.length coZ21 : Value).ownBlock) ∧ some k_ ≠ (.slice AoZ26 t183.length coZ27 : Value).ownBlock) ∧ some k_ ≠ (.slice AoZ80 t186.length coZ81 : Value).ownBlock) ∧ some k_ ≠ (.slice AoZ47 t192.length coZ48 : Value).ownBlock) ∧ some k_ ≠ (.slice AoZ77 t203.length coZ78 : Value).ownBlock)) (.slice AoZ69 t199.length coZ70) t199) := ⟨by rw [← hq_]; exact (by st3_; exact HO201.out)⟩; have n9_ : Aside0 (Kd.Q (Kd.int .i64) 3 wZ76 w.heap.size (fun k_ => (((((True ∧ some k_ ≠ (.slice AoZ20 t177.length coZ21 : Value).ownBlock) ∧ some k_ ≠ (.slice AoZ26 t183.length coZ27 : Value).ownBlock) ∧ some k_ ≠ (.slice AoZ80 t186.length coZ81 : Value).ownBlock) ∧ some k_ ≠ (.slice AoZ47 t192.length coZ48 : Value).ownBlock) ∧ some k_ ≠ (.slice AoZ69 t199.length coZ70 : Value).ownBlock)) (.slice AoZ77 t203.length coZ78) t203) := ⟨by rw [← hq_]; exact (by st6_; exact HO205.out)⟩; have n10_ : Aside0 (wZ76.heap[gb170]? = some (.cells #[.slice A0_0 l0_0.length c0_0, .slice A0_1 l0_1.length c0_1] 62 (0, 0))) := ⟨by rw [← hq_]; exact (by st4_; exact BK170.out)⟩; have n11_ : Aside0 (wZ76.heap[gb171]? = some (.cells #[.slice A1_0 l1_0.length c1_0, .slice A1_1 l1_1.length c1_1] 62 (0, 0))) := ⟨by rw [← hq_]; exact (by st4_; exact BK171.out)⟩; have n12_ : Aside0 (wZ76.heap[gb195]? = some (.cells #[.slice AoZ36 t189.length coZ37, .slice AoZ47 t192.length coZ48] 65 (0, 0))) := ⟨by rw [← hq_]; exact (by st4_; exact BK195.out)⟩; have n13_ : Aside0 (wZ76.heap[gb202]? = some (.cells #[.slice AoZ56 t196.length coZ57, .slice AoZ69 t199.length coZ70] 65 (0, 0))) := ⟨by rw [← hq_]; exact (by st4_; exact BK202.out)⟩; have n14_ : Aside0 (Below w.heap.size w wZ76) := ⟨by rw [← hq_]; exact (by repeat st5_)⟩; clear HO176 HO179 HO182 HO185 HO188 HO191 HO194 HO198 HO201 HO205 BK170 BK171 BK195 BK202 HB hq_; have HO176 := n0_; have HO179 := n1_; have HO182 := n2_; have HO185 := n3_; have HO188 := n4_; have HO191 := n5_; have HO194 := n6_; have HO198 := n7_; have HO201 := n8_; have HO205 := n9_; have BK170 := n10_; have BK171 := n11_; have BK195 := n12_; have BK202 := n13_; have HB := n14_; clear n0_ n1_ n2_ n3_ n4_ n5_ n6_ n7_ n8_ n9_ n10_ n11_ n12_ n13_ n14_)))
set_option hygiene false in
local macro "st10_" : tactic => `(tactic| ((with_reducible refine gate_callee (f := 23) rfl ?_); refine goesL_ (some 69) rfl rfl Try.func23 (by kernel_rfl) rfl #[.slice AoZ77 t229.length coZ78, .int .i64 1] rfl (by (try simp only [List.map_toArray, List.map_cons, List.map_nil]); first | done | (rw [show t229.length = t203.length from (Kd.Q_reads' HO_9.out).1.symm] <;> rfl) | rfl | (simp only [List.length_drop, List.length_take]; rfl)) ?_; (with_reducible refine (laws_heldIntS.calls kj34 _ _ t229 1 t230 _ ?side1 ?side2 A90.out).mono ?_); (case side1 => repeat (first | exact (Kd.Q_reads' HO_9.out).2.2 | (with_reducible refine Kd.C_alloc ?_ _) | (with_reducible refine Kd.C_drewN ?_ _) | (with_reducible refine Kd.C_drew ?_))); (case side2 => rw [show t229.length = t203.length from (Kd.Q_reads' HO_9.out).1.symm]; exact (Kd.Q_reads' HO_9.out).2.1); rintro e w' ⟨rfl, ⟨nd, rfl⟩⟩; refine ⟨_, rfl, ?_⟩))
set_option hygiene false in
local macro "st13_" : tactic => `(tactic| ((with_reducible refine gate_callee (f := 23) rfl ?_); refine goesL_ (some 86) rfl rfl Try.func23 (by kernel_rfl) rfl #[.slice AoZ77 t229.length coZ78, .int .i64 1] rfl (by (try simp only [List.map_toArray, List.map_cons, List.map_nil]); first | done | (rw [show t229.length = t203.length from (Kd.Q_reads' HO_9.out).1.symm] <;> rfl) | rfl | (simp only [List.length_drop, List.length_take]; rfl)) ?_; (with_reducible refine (laws_heldIntS.calls kj34 _ _ t229 1 t247 _ ?side1 ?side2 A99.out).mono ?_); (case side1 => repeat (first | exact (Kd.Q_reads' HO_9.out).2.2 | (with_reducible refine Kd.C_alloc ?_ _) | (with_reducible refine Kd.C_drewN ?_ _) | (with_reducible refine Kd.C_drew ?_))); (case side2 => rw [show t229.length = t203.length from (Kd.Q_reads' HO_9.out).1.symm]; exact (Kd.Q_reads' HO_9.out).2.1); rintro e w' ⟨rfl, ⟨nd, rfl⟩⟩; refine ⟨_, rfl, ?_⟩))
set_option hygiene false in
local macro "st17_" : tactic => `(tactic| (with_reducible refine (laws_markIntS.calls kj34 (fun k_ => some k_ = (.slice AoZ77 t203.length coZ78 : Value).ownBlock) (.slice AoZ77 t203.length coZ78) t203 1 t228 t229 w _ ?side1 ?side2 A89.out).mono ?_))
set_option hygiene false in
local macro "st18_" : tactic => `(tactic| (case side1 => repeat (first | exact (Kd.R_reads' HO176.out).2.2 | (with_reducible refine Kd.C_alloc ?_ _) | (with_reducible refine Kd.C_drewN ?_ _) | (with_reducible refine Kd.C_drew ?_))))
set_option hygiene false in
local macro "st19_" : tactic => `(tactic| (case side3 => repeat (first | exact (Kd.R_reads' HO179.out).2.2 | (with_reducible refine Kd.C_alloc ?_ _) | (with_reducible refine Kd.C_drewN ?_ _) | (with_reducible refine Kd.C_drew ?_))))
set_option hygiene false in
local macro "st20_" : tactic => `(tactic| (case side5 => repeat (first | exact (Kd.R_reads' HO182.out).2.2 | (with_reducible refine Kd.C_alloc ?_ _) | (with_reducible refine Kd.C_drewN ?_ _) | (with_reducible refine Kd.C_drew ?_))))
set_option hygiene false in
local macro "st21_" : tactic => `(tactic| (case side7 => repeat (first | exact (Kd.R_reads' HO185.out).2.2 | (with_reducible refine Kd.C_alloc ?_ _) | (with_reducible refine Kd.C_drewN ?_ _) | (with_reducible refine Kd.C_drew ?_))))
set_option hygiene false in
local macro "st22_" : tactic => `(tactic| (case side1 => repeat (first | exact (Kd.R_reads' HO233.out).2.2 | (with_reducible refine Kd.C_alloc ?_ _) | (with_reducible refine Kd.C_drewN ?_ _) | (with_reducible refine Kd.C_drew ?_))))
set_option hygiene false in
local macro "st23_" : tactic => `(tactic| (case side3 => repeat (first | exact (Kd.R_reads' HO236.out).2.2 | (with_reducible refine Kd.C_alloc ?_ _) | (with_reducible refine Kd.C_drewN ?_ _) | (with_reducible refine Kd.C_drew ?_))))
set_option hygiene false in
local macro "st24_" : tactic => `(tactic| (case side5 => repeat (first | exact (Kd.R_reads' HO239.out).2.2 | (with_reducible refine Kd.C_alloc ?_ _) | (with_reducible refine Kd.C_drewN ?_ _) | (with_reducible refine Kd.C_drew ?_))))
set_option hygiene false in
local macro "st25_" : tactic => `(tactic| (case side7 => repeat (first | exact (Kd.R_reads' HO242.out).2.2 | (with_reducible refine Kd.C_alloc ?_ _) | (with_reducible refine Kd.C_drewN ?_ _) | (with_reducible refine Kd.C_drew ?_))))
set_option hygiene false in
local macro "st26_" : tactic => `(tactic| (case side1 => repeat (first | exact (Kd.Q_reads' HO245.out).2.2 | (with_reducible refine Kd.C_alloc ?_ _) | (with_reducible refine Kd.C_drewN ?_ _) | (with_reducible refine Kd.C_drew ?_))))
set_option hygiene false in
local macro "st27_" : tactic => `(tactic| (case side3 => repeat (first | exact (Kd.R_reads' HO_6.out).2.2 | (with_reducible refine Kd.C_alloc ?_ _) | (with_reducible refine Kd.C_drewN ?_ _) | (with_reducible refine Kd.C_drew ?_))))
set_option hygiene false in
local macro "st30_" : tactic => `(tactic| (first | subst eoZ19 | (injection eoZ19 with f1_ f2_ f3_; have f4_ := f1_.symm; have f5_ := f3_.symm; clear f1_ f2_ f3_; subst f4_; subst f5_)))
set_option hygiene false in
local macro "st31_" : tactic => `(tactic| (first | subst eoZ22 | (injection eoZ22 with f1_ f2_ f3_; have f4_ := f1_.symm; have f5_ := f3_.symm; clear f1_ f2_ f3_; subst f4_; subst f5_)))
set_option hygiene false in
local macro "st32_" : tactic => `(tactic| (first | subst eoZ25 | (injection eoZ25 with f1_ f2_ f3_; have f4_ := f1_.symm; have f5_ := f3_.symm; clear f1_ f2_ f3_; subst f4_; subst f5_)))
set_option hygiene false in
local macro "st33_" : tactic => `(tactic| (first | subst eoZ28 | (injection eoZ28 with f1_ f2_ f3_; have f4_ := f1_.symm; have f5_ := f3_.symm; clear f1_ f2_ f3_; subst f4_; subst f5_)))
set_option hygiene false in
local macro "st34_" : tactic => `(tactic| simp only [Act.put, List.setIfInBounds_toArray, List.set_cons_zero, List.set_cons_succ, i64_w, i32_w])
set_option hygiene false in
local macro "st35_" : tactic => `(tactic| refine hK.out _ _ ⟨(blk_cell BK170.out 0).trans rfl, (blk_cell BK170.out 1).trans rfl, (blk_cell BK171.out 0).trans rfl, (blk_cell BK171.out 1).trans rfl⟩ (fun hHeld => ?_))
set_option hygiene false in
local macro "st36_" : tactic => `(tactic| replace H := Option.bind_eq_some_iff.mp H)
set_option hygiene false in
local macro "st37_" : tactic => `(tactic| refine goes_ Try.func53 (by kernel_rfl) rfl #[.agg #[.slice A0_0 l0_0.length c0_0, .slice A0_1 l0_1.length c0_1]] (by rfl) rfl rfl sq9_ ?_)
set_option hygiene false in
local macro "st38_" : tactic => `(tactic| refine goes_ Try.func53 (by kernel_rfl) rfl #[.agg #[.slice A1_0 l1_0.length c1_0, .slice A1_1 l1_1.length c1_1]] (by rfl) rfl rfl sq9_ ?_)
set_option hygiene false in
local macro "st39_" : tactic => `(tactic| exact ⟨by first | rfl | (simp [errW_none, errW_some] <;> rfl) | (simp [*, errW_none, errW_some] <;> rfl), by repeat st5_⟩)
set_option hygiene false in
local macro "st40_" : tactic => `(tactic| refine start_ (n := 6) (S := fun w' => w'.cell? ⟨gb170, 0, none⟩ = some (.slice A0_0 l0_0.length c0_0) ∧ w'.cell? ⟨gb170, 1, none⟩ = some (.slice A0_1 l0_1.length c0_1) ∧ w'.cell? ⟨gb171, 0, none⟩ = some (.slice A1_0 l1_0.length c1_0) ∧ w'.cell? ⟨gb171, 1, none⟩ = some (.slice A1_1 l1_1.length c1_1)) (ds := []) #[false, false, false, false, false, false] (by kernel_rfl) rfl rfl ⟨(blk_cell BK170.out 0).trans rfl, (blk_cell BK170.out 1).trans rfl, (blk_cell BK171.out 0).trans rfl, (blk_cell BK171.out 1).trans rfl⟩ (fun hHeld => ?_))
set_option hygiene false in
local macro "st41_" : tactic => `(tactic| refine hK.out _ _ ⟨(blk_cell BK195.out 0).trans rfl, (blk_cell BK195.out 1).trans rfl, (blk_cell BK170.out 0).trans rfl, (blk_cell BK170.out 1).trans rfl⟩ (fun hHeld => ?_))
set_option hygiene false in
local macro "st42_" : tactic => `(tactic| (have n0_ := Aside0.mk (blk_drew BK170.out); have n1_ := Aside0.mk (blk_drew BK171.out); have n2_ := Aside0.mk (below_drew1 HB.out); clear BK170; clear BK171; clear HB; have BK170 := n0_; have BK171 := n1_; have HB := n2_; clear n0_ n1_ n2_))
set_option hygiene false in
local macro "st43_" : tactic => `(tactic| refine take_ (i := 0) (N := some 24) (v := ?_) (a' := ?_) #[true, false, false, false, false, false] rfl rfl (by kernel_rfl) (fun _ _ _ h => h) (Or.inl ⟨by rfl, ?_⟩) hHeld ?_ ?_)
set_option hygiene false in
local macro "st44_" : tactic => `(tactic| refine take_ (i := 2) (N := some 26) (v := ?_) (a' := ?_) #[true, false, true, false, false, false] rfl rfl (by kernel_rfl) (fun _ _ _ h => h) (Or.inl ⟨by rfl, ?_⟩) hHeld ?_ ?_)
set_option hygiene false in
local macro "st45_" : tactic => `(tactic| refine one_ (i := 1) (N := some 25) #[true, true, true, false, false, false] rfl rfl (by kernel_rfl) (by decide) (fun K hK => ?_))
set_option hygiene false in
local macro "st46_" : tactic => `(tactic| with_reducible refine (laws_toImage.calls k _ _ l0_0 _ _ l0_1 t174 t177 _ ?side1 ?side2 ?side3 ?side4 A19.out).mono ?_)
set_option hygiene false in
local macro "st47_" : tactic => `(tactic| (have n0_ := Aside0.mk (Kd.R_lower ho0 (below_size sq8_)); have n1_ := Aside0.mk (Kd.R_lower ho1 (below_size sq8_)); have n2_ := Aside0.mk (blk_below (g := gb170) (o := .cells #[.slice A0_0 l0_0.length c0_0, .slice A0_1 l0_1.length c0_1] 62 (0, 0)) (by st4_; exact BK170.out) hb); have n3_ := Aside0.mk (blk_below (g := gb171) (o := .cells #[.slice A1_0 l1_0.length c1_0, .slice A1_1 l1_1.length c1_1] 62 (0, 0)) (by st4_; exact BK171.out) hb); have n4_ := Aside0.mk (below_step sq8_ hb); clear BK170; clear BK171; clear HB; have HO176 := n0_; have HO179 := n1_; have BK170 := n2_; have BK171 := n3_; have HB := n4_; clear n0_ n1_ n2_ n3_ n4_; (try clear hb); (try clear hb2); (try clear hk); (try clear hi); (try clear ho0); (try clear ho1)))
set_option hygiene false in
local macro "st48_" : tactic => `(tactic| refine one_ (i := 3) (N := some 27) #[true, true, true, true, false, false] rfl rfl (by kernel_rfl) (by decide) (fun K hK => ?_))
set_option hygiene false in
local macro "st49_" : tactic => `(tactic| with_reducible refine (laws_toImage.calls k _ _ l1_0 _ _ l1_1 t180 t183 _ ?side1 ?side2 ?side3 ?side4 A20.out).mono ?_)
set_option hygiene false in
local macro "st50_" : tactic => `(tactic| (have n0_ := Aside0.mk (Kd.R_elder' (by st3_; exact HO176.out) (Kd.R_base ho0) hb); have n1_ := Aside0.mk (Kd.R_elder' (by st3_; exact HO179.out) (Kd.R_base ho1) hb); have n2_ := Aside0.mk (Kd.R_lower (Kd.R_new' ho0 (Kd.R_lt (by st3_; exact HO176.out))) (below_size sq8_)); have n3_ := Aside0.mk (Kd.R_lower (Kd.R_new' ho1 (Kd.R_lt (by st3_; exact HO179.out))) (below_size sq8_)); have n4_ := Aside0.mk (blk_below (g := gb170) (o := .cells #[.slice A0_0 l0_0.length c0_0, .slice A0_1 l0_1.length c0_1] 62 (0, 0)) (by st4_; exact BK170.out) hb); have n5_ := Aside0.mk (blk_below (g := gb171) (o := .cells #[.slice A1_0 l1_0.length c1_0, .slice A1_1 l1_1.length c1_1] 62 (0, 0)) (by st4_; exact BK171.out) hb); have n6_ := Aside0.mk (below_step sq8_ hb); clear HO176; clear HO179; clear BK170; clear BK171; clear HB; have HO176 := n0_; have HO179 := n1_; have HO182 := n2_; have HO185 := n3_; have BK170 := n4_; have BK171 := n5_; have HB := n6_; clear n0_ n1_ n2_ n3_ n4_ n5_ n6_; (try clear hb); (try clear hb2); (try clear hk); (try clear hi); (try clear ho0); (try clear ho1)))
set_option hygiene false in
local macro "st51_" : tactic => `(tactic| refine one_ (i := 4) (N := some 28) #[true, true, true, true, true, false] rfl rfl (by kernel_rfl) (by decide) (fun K hK => ?_))
set_option hygiene false in
local macro "st52_" : tactic => `(tactic| refine goes_ Try.func58 (by kernel_rfl) rfl #[.agg #[.slice AoZ17 t174.length coZ18, .slice AoZ20 t177.length coZ21], .agg #[.slice AoZ23 t180.length coZ24, .slice AoZ26 t183.length coZ27]] (by rfl) rfl rfl sq9_ ?_)
set_option hygiene false in
local macro "st53_" : tactic => `(tactic| with_reducible refine (spec_ChangedBits.calls k _ _ t174 _ _ t177 _ _ t180 _ _ t183 t186 _ ?side1 ?side2 ?side3 ?side4 ?side5 ?side6 ?side7 ?side8 A21.out).mono ?_)
set_option hygiene false in
local macro "st54_" : tactic => `(tactic| (have n0_ := Aside0.mk (Kd.R_below (by st3_; exact HO176.out) hb); have n1_ := Aside0.mk (Kd.R_elder' (by st3_; exact HO179.out) (Kd.R_base ho0) hb); have n2_ := Aside0.mk (Kd.R_below (by st3_; exact HO182.out) hb); have n3_ := Aside0.mk (Kd.R_elder' (by st3_; exact HO185.out) (Kd.R_base ho0) hb); have n4_ := Aside0.mk (Kd.R_lower (Kd.R_new' (Kd.R_new' ho0 (Kd.R_lt (by st3_; exact HO179.out))) (Kd.R_lt (by st3_; exact HO185.out))) (below_size sq8_)); have n5_ := Aside0.mk (blk_below (g := gb170) (o := .cells #[.slice A0_0 l0_0.length c0_0, .slice A0_1 l0_1.length c0_1] 62 (0, 0)) (by st4_; exact BK170.out) hb); have n6_ := Aside0.mk (blk_below (g := gb171) (o := .cells #[.slice A1_0 l1_0.length c1_0, .slice A1_1 l1_1.length c1_1] 62 (0, 0)) (by st4_; exact BK171.out) hb); have n7_ := Aside0.mk (below_step sq8_ hb); clear HO176; clear HO179; clear HO182; clear HO185; clear BK170; clear BK171; clear HB; have HO176 := n0_; have HO179 := n1_; have HO182 := n2_; have HO185 := n3_; have HO188 := n4_; have BK170 := n5_; have BK171 := n6_; have HB := n7_; clear n0_ n1_ n2_ n3_ n4_ n5_ n6_ n7_; (try clear hb); (try clear hb2); (try clear hk); (try clear hi); (try clear ho0)))
set_option hygiene false in
local macro "st55_" : tactic => `(tactic| refine pure_ (i := 5) (N := some 6) (v := ?_) (a' := ?_) #[true, true, true, true, true, true] rfl rfl (by kernel_rfl) (fun _ _ _ h => h) (Or.inl ⟨by rfl, ?_⟩) ?_ ?_)
set_option hygiene false in
local macro "st56_" : tactic => `(tactic| have hczZ30 : wZ29.cell? ⟨gb170, 0, none⟩ = some (.slice A0_0 l0_0.length c0_0) := (blk_cell BK170.out 0).trans rfl)
set_option hygiene false in
local macro "st57_" : tactic => `(tactic| have hczZ31 : wZ29.cell? ⟨gb170, 1, none⟩ = some (.slice A0_1 l0_1.length c0_1) := (blk_cell BK170.out 1).trans rfl)
set_option hygiene false in
local macro "st58_" : tactic => `(tactic| refine hK.out _ _ ⟨(blk_cell BK202.out 0).trans rfl, (blk_cell BK202.out 1).trans rfl, (blk_cell BK171.out 0).trans rfl, (blk_cell BK171.out 1).trans rfl⟩ (fun hHeld => ?_))
set_option hygiene false in
local macro "st59_" : tactic => `(tactic| (have n0_ := Aside0.mk (Kd.R_drew HO_6.out); have n1_ := Aside0.mk (Kd.Q_drew HO_9.out); have n2_ := Aside0.mk (Kd.Q_drew HO_196000.out); have n3_ := Aside0.mk (Kd.Q_drew HO_196001.out); have n4_ := Aside0.mk (Kd.Q_drew HO_203000.out); have n5_ := Aside0.mk (Kd.Q_drew HO_203001.out); have n6_ := Aside0.mk (blk_drew BK170.out); have n7_ := Aside0.mk (blk_drew BK171.out); have n8_ := Aside0.mk (blk_drew BK195.out); have n9_ := Aside0.mk (blk_drew BK202.out); have n10_ := Aside0.mk (below_drew1 HB.out); clear HO_6; clear HO_9; clear HO_196000; clear HO_196001; clear HO_203000; clear HO_203001; clear BK170; clear BK171; clear BK195; clear BK202; clear HB; have HO_6 := n0_; have HO_9 := n1_; have HO_196000 := n2_; have HO_196001 := n3_; have HO_203000 := n4_; have HO_203001 := n5_; have BK170 := n6_; have BK171 := n7_; have BK195 := n8_; have BK202 := n9_; have HB := n10_; clear n0_ n1_ n2_ n3_ n4_ n5_ n6_ n7_ n8_ n9_ n10_))
set_option hygiene false in
local macro "st60_" : tactic => `(tactic| refine take_ (i := 0) (N := some 75) (v := ?_) (a' := ?_) #[true, false, false, false, false, false] rfl rfl (by kernel_rfl) (fun _ _ _ h => h) (Or.inl ⟨by rfl, ?_⟩) hHeld ?_ ?_)
set_option hygiene false in
local macro "st61_" : tactic => `(tactic| refine take_ (i := 2) (N := some 77) (v := ?_) (a' := ?_) #[true, false, true, false, false, false] rfl rfl (by kernel_rfl) (fun _ _ _ h => h) (Or.inl ⟨by rfl, ?_⟩) hHeld ?_ ?_)
set_option hygiene false in
local macro "st62_" : tactic => `(tactic| refine one_ (i := 1) (N := some 76) #[true, true, true, false, false, false] rfl rfl (by kernel_rfl) (by decide) (fun K hK => ?_))
set_option hygiene false in
local macro "st63_" : tactic => `(tactic| with_reducible refine (laws_toImage.calls kj34 _ _ l0_0 _ _ l0_1 t231 t234 _ ?side1 ?side2 ?side3 ?side4 A94.out).mono ?_)
set_option hygiene false in
local macro "st64_" : tactic => `(tactic| (have n0_ := Aside0.mk (Kd.R_elder' (by st3_; exact HO_6.out) (Kd.R_base ho1) hb); have n1_ := Aside0.mk (Kd.Q_elder' (by st6_; exact HO_9.out) (Kd.R_base ho1) hb); have n2_ := Aside0.mk (Kd.Q_elder' (by st6_; exact HO_196000.out) (Kd.R_base ho0) hb); have n3_ := Aside0.mk (Kd.Q_elder' (by st6_; exact HO_196001.out) (Kd.R_base ho1) hb); have n4_ := Aside0.mk (Kd.Q_elder' (by st6_; exact HO_203000.out) (Kd.R_base ho0) hb); have n5_ := Aside0.mk (Kd.Q_elder' (by st6_; exact HO_203001.out) (Kd.R_base ho1) hb); have n6_ := Aside0.mk (Kd.R_lower (Kd.R_new' (Kd.R_new' ho0 (Kd.Q_lt (by st6_; exact HO_196000.out))) (Kd.Q_lt (by st6_; exact HO_203000.out))) (below_size (by repeat st5_))); have n7_ := Aside0.mk (Kd.R_lower (Kd.R_new' (Kd.R_new' (Kd.R_new' (Kd.R_new' ho1 (Kd.R_lt (by st3_; exact HO_6.out))) (Kd.Q_lt (by st6_; exact HO_9.out))) (Kd.Q_lt (by st6_; exact HO_196001.out))) (Kd.Q_lt (by st6_; exact HO_203001.out))) (below_size (by repeat st5_))); have n8_ := Aside0.mk (blk_below (g := gb170) (o := .cells #[.slice A0_0 l0_0.length c0_0, .slice A0_1 l0_1.length c0_1] 62 (0, 0)) (by st4_; exact BK170.out) hb); have n9_ := Aside0.mk (blk_below (g := gb171) (o := .cells #[.slice A1_0 l1_0.length c1_0, .slice A1_1 l1_1.length c1_1] 62 (0, 0)) (by st4_; exact BK171.out) hb); have n10_ := Aside0.mk (blk_below (g := gb195) (o := .cells #[.slice AoZ36 t222.length coZ37, .slice AoZ47 t223.length coZ48] 65 (0, 0)) (by st4_; exact BK195.out) hb); have n11_ := Aside0.mk (blk_below (g := gb202) (o := .cells #[.slice AoZ56 t225.length coZ57, .slice AoZ69 t226.length coZ70] 65 (0, 0)) (by st4_; exact BK202.out) hb)))
set_option hygiene false in
local macro "st65_" : tactic => `(tactic| (have n12_ := Aside0.mk (below_step (by repeat st5_) hb); clear HO_6; clear HO_9; clear HO_196000; clear HO_196001; clear HO_203000; clear HO_203001; clear BK170; clear BK171; clear BK195; clear BK202; clear HB; have HO_6 := n0_; have HO_9 := n1_; have HO_196000 := n2_; have HO_196001 := n3_; have HO_203000 := n4_; have HO_203001 := n5_; have HO233 := n6_; have HO236 := n7_; have BK170 := n8_; have BK171 := n9_; have BK195 := n10_; have BK202 := n11_; have HB := n12_; clear n0_ n1_ n2_ n3_ n4_ n5_ n6_ n7_ n8_ n9_ n10_ n11_ n12_; (try clear hb); (try clear hb2); (try clear hk); (try clear hi); (try clear ho0); (try clear ho1)))
set_option hygiene false in
local macro "st66_" : tactic => `(tactic| refine one_ (i := 3) (N := some 78) #[true, true, true, true, false, false] rfl rfl (by kernel_rfl) (by decide) (fun K hK => ?_))
set_option hygiene false in
local macro "st67_" : tactic => `(tactic| with_reducible refine (laws_toImage.calls kj34 _ _ l1_0 _ _ l1_1 t237 t240 _ ?side1 ?side2 ?side3 ?side4 A95.out).mono ?_)
set_option hygiene false in
local macro "st68_" : tactic => `(tactic| (have n0_ := Aside0.mk (Kd.R_elder' (by st3_; exact HO_6.out) (Kd.R_base ho1) hb); have n1_ := Aside0.mk (Kd.Q_elder' (by st6_; exact HO_9.out) (Kd.R_base ho1) hb); have n2_ := Aside0.mk (Kd.Q_elder' (by st6_; exact HO_196000.out) (Kd.R_base ho0) hb); have n3_ := Aside0.mk (Kd.Q_elder' (by st6_; exact HO_196001.out) (Kd.R_base ho1) hb); have n4_ := Aside0.mk (Kd.Q_elder' (by st6_; exact HO_203000.out) (Kd.R_base ho0) hb); have n5_ := Aside0.mk (Kd.Q_elder' (by st6_; exact HO_203001.out) (Kd.R_base ho1) hb); have n6_ := Aside0.mk (Kd.R_elder' (by st3_; exact HO233.out) (Kd.R_base ho0) hb); have n7_ := Aside0.mk (Kd.R_elder' (by st3_; exact HO236.out) (Kd.R_base ho1) hb); have n8_ := Aside0.mk (Kd.R_lower (Kd.R_new' (Kd.R_new' (Kd.R_new' ho0 (Kd.Q_lt (by st6_; exact HO_196000.out))) (Kd.Q_lt (by st6_; exact HO_203000.out))) (Kd.R_lt (by st3_; exact HO233.out))) (below_size (by repeat st5_))); have n9_ := Aside0.mk (Kd.R_lower (Kd.R_new' (Kd.R_new' (Kd.R_new' (Kd.R_new' (Kd.R_new' ho1 (Kd.R_lt (by st3_; exact HO_6.out))) (Kd.Q_lt (by st6_; exact HO_9.out))) (Kd.Q_lt (by st6_; exact HO_196001.out))) (Kd.Q_lt (by st6_; exact HO_203001.out))) (Kd.R_lt (by st3_; exact HO236.out))) (below_size (by repeat st5_))); have n10_ := Aside0.mk (blk_below (g := gb170) (o := .cells #[.slice A0_0 l0_0.length c0_0, .slice A0_1 l0_1.length c0_1] 62 (0, 0)) (by st4_; exact BK170.out) hb); have n11_ := Aside0.mk (blk_below (g := gb171) (o := .cells #[.slice A1_0 l1_0.length c1_0, .slice A1_1 l1_1.length c1_1] 62 (0, 0)) (by st4_; exact BK171.out) hb)))
set_option hygiene false in
local macro "st69_" : tactic => `(tactic| (have n12_ := Aside0.mk (blk_below (g := gb195) (o := .cells #[.slice AoZ36 t222.length coZ37, .slice AoZ47 t223.length coZ48] 65 (0, 0)) (by st4_; exact BK195.out) hb); have n13_ := Aside0.mk (blk_below (g := gb202) (o := .cells #[.slice AoZ56 t225.length coZ57, .slice AoZ69 t226.length coZ70] 65 (0, 0)) (by st4_; exact BK202.out) hb); have n14_ := Aside0.mk (below_step (by repeat st5_) hb); clear HO_6; clear HO_9; clear HO_196000; clear HO_196001; clear HO_203000; clear HO_203001; clear HO233; clear HO236; clear BK170; clear BK171; clear BK195; clear BK202; clear HB; have HO_6 := n0_; have HO_9 := n1_; have HO_196000 := n2_; have HO_196001 := n3_; have HO_203000 := n4_; have HO_203001 := n5_; have HO233 := n6_; have HO236 := n7_; have HO239 := n8_; have HO242 := n9_; have BK170 := n10_; have BK171 := n11_; have BK195 := n12_; have BK202 := n13_; have HB := n14_; clear n0_ n1_ n2_ n3_ n4_ n5_ n6_ n7_ n8_ n9_ n10_ n11_ n12_ n13_ n14_; (try clear hb); (try clear hb2); (try clear hk); (try clear hi); (try clear ho0); (try clear ho1)))
set_option hygiene false in
local macro "st70_" : tactic => `(tactic| refine one_ (i := 4) (N := some 79) #[true, true, true, true, true, false] rfl rfl (by kernel_rfl) (by decide) (fun K hK => ?_))
set_option hygiene false in
local macro "st71_" : tactic => `(tactic| with_reducible refine (impl_ChangedBits.calls kj34 _ _ t231 _ _ t234 _ _ t237 _ _ t240 t243 _ ?side1 ?side2 ?side3 ?side4 ?side5 ?side6 ?side7 ?side8 A96.out).mono ?_)
set_option hygiene false in
local macro "st72_" : tactic => `(tactic| refine pure_ (i := 5) (N := some 13) (v := ?_) (a' := ?_) #[true, true, true, true, true, true] rfl rfl (by kernel_rfl) (fun _ _ _ h => h) (Or.inl ⟨by rfl, ?_⟩) ?_ ?_)
set_option hygiene false in
local macro "st73_" : tactic => `(tactic| (have n0_ := Aside0.mk (Kd.R_drew HO176.out); have n1_ := Aside0.mk (Kd.R_drew HO179.out); have n2_ := Aside0.mk (Kd.R_drew HO182.out); have n3_ := Aside0.mk (Kd.R_drew HO185.out); have n4_ := Aside0.mk (Kd.R_drew HO188.out); have n5_ := Aside0.mk (Kd.R_drew HO191.out); have n6_ := Aside0.mk (Kd.R_drew HO194.out); have n7_ := Aside0.mk (Kd.R_drew HO198.out); have n8_ := Aside0.mk (Kd.R_drew HO201.out); have n9_ := Aside0.mk (Kd.Q_drew HO205.out); have n10_ := Aside0.mk (blk_drew BK170.out); have n11_ := Aside0.mk (blk_drew BK171.out); have n12_ := Aside0.mk (blk_drew BK195.out); have n13_ := Aside0.mk (blk_drew BK202.out); have n14_ := Aside0.mk (below_drew1 HB.out); clear HO176; clear HO179; clear HO182; clear HO185; clear HO188; clear HO191; clear HO194; clear HO198; clear HO201; clear HO205; clear BK170; clear BK171; clear BK195; clear BK202; clear HB; have HO176 := n0_; have HO179 := n1_; have HO182 := n2_; have HO185 := n3_; have HO188 := n4_; have HO191 := n5_; have HO194 := n6_; have HO198 := n7_; have HO201 := n8_; have HO205 := n9_; have BK170 := n10_; have BK171 := n11_; have BK195 := n12_; have BK202 := n13_; have HB := n14_; clear n0_ n1_ n2_ n3_ n4_ n5_ n6_ n7_ n8_ n9_ n10_ n11_ n12_ n13_ n14_))
set_option hygiene false in
local macro "st74_" : tactic => `(tactic| refine start_ (n := 5) (S := fun w' => w'.cell? ⟨gb195, 0, none⟩ = some (.slice AoZ36 t189.length coZ37) ∧ w'.cell? ⟨gb195, 1, none⟩ = some (.slice AoZ47 t192.length coZ48) ∧ w'.cell? ⟨gb170, 0, none⟩ = some (.slice A0_0 l0_0.length c0_0) ∧ w'.cell? ⟨gb170, 1, none⟩ = some (.slice A0_1 l0_1.length c0_1)) (ds := []) #[false, false, false, false, false] (by kernel_rfl) rfl rfl ⟨(blk_cell BK195.out 0).trans rfl, (blk_cell BK195.out 1).trans rfl, (blk_cell BK170.out 0).trans rfl, (blk_cell BK170.out 1).trans rfl⟩ (fun hHeld => ?_))
set_option hygiene false in
local macro "st75_" : tactic => `(tactic| refine take_ (i := 0) (N := some 40) (v := ?_) (a' := ?_) #[true, false, false, false, false] rfl rfl (by kernel_rfl) (fun _ _ _ h => h) (Or.inl ⟨by rfl, ?_⟩) hHeld ?_ ?_)
set_option hygiene false in
local macro "st76_" : tactic => `(tactic| refine take_ (i := 1) (N := some 41) (v := ?_) (a' := ?_) #[true, true, false, false, false] rfl rfl (by kernel_rfl) (fun _ _ _ h => h) (Or.inl ⟨by rfl, ?_⟩) hHeld ?_ ?_)
set_option hygiene false in
local macro "st77_" : tactic => `(tactic| (have n0_ := Aside0.mk (Kd.R_elder' (by st3_; exact HO176.out) (Kd.R_base ho0) hb); have n1_ := Aside0.mk (Kd.R_elder' (by st3_; exact HO179.out) (Kd.R_base ho1) hb); have n2_ := Aside0.mk (Kd.R_elder' (by st3_; exact HO182.out) (Kd.R_base ho0) hb); have n3_ := Aside0.mk (Kd.R_elder' (by st3_; exact HO185.out) (Kd.R_base ho1) hb); have n4_ := Aside0.mk (Kd.R_elder' (by st3_; exact HO188.out) (Kd.R_base ho1) hb); have n5_ := Aside0.mk (Kd.R_elder' (by st3_; exact HO191.out) (Kd.R_base ho0) hb); have n6_ := Aside0.mk (Kd.R_elder' (by st3_; exact HO194.out) (Kd.R_base ho1) hb); have n7_ := Aside0.mk (Kd.R_elder' (by st3_; exact HO198.out) (Kd.R_base ho0) hb); have n8_ := Aside0.mk (Kd.R_elder' (by st3_; exact HO201.out) (Kd.R_base ho1) hb); have n9_ := Aside0.mk (Kd.Q_elder' (by st6_; exact HO205.out) (Kd.R_base ho1) hb); have n10_ := Aside0.mk (Kd.R_lower (Kd.R_new' (Kd.R_new' (Kd.R_new' (Kd.R_new' ho0 (Kd.R_lt (by st3_; exact HO176.out))) (Kd.R_lt (by st3_; exact HO182.out))) (Kd.R_lt (by st3_; exact HO191.out))) (Kd.R_lt (by st3_; exact HO198.out))) (below_size (by repeat st5_))); have n11_ := Aside0.mk (Kd.R_lower (Kd.R_new' (Kd.R_new' (Kd.R_new' (Kd.R_new' (Kd.R_new' (Kd.R_new' ho1 (Kd.R_lt (by st3_; exact HO179.out))) (Kd.R_lt (by st3_; exact HO185.out))) (Kd.R_lt (by st3_; exact HO188.out))) (Kd.R_lt (by st3_; exact HO194.out))) (Kd.R_lt (by st3_; exact HO201.out))) (Kd.Q_lt (by st6_; exact HO205.out))) (below_size (by repeat st5_))); have n12_ := Aside0.mk (blk_below (g := gb170) (o := .cells #[.slice A0_0 l0_0.length c0_0, .slice A0_1 l0_1.length c0_1] 62 (0, 0)) (by st4_; exact BK170.out) hb)))
set_option hygiene false in
local macro "st78_" : tactic => `(tactic| (have n13_ := Aside0.mk (blk_below (g := gb171) (o := .cells #[.slice A1_0 l1_0.length c1_0, .slice A1_1 l1_1.length c1_1] 62 (0, 0)) (by st4_; exact BK171.out) hb); have n14_ := Aside0.mk (blk_below (g := gb195) (o := .cells #[.slice AoZ36 t189.length coZ37, .slice AoZ47 t192.length coZ48] 65 (0, 0)) (by st4_; exact BK195.out) hb); have n15_ := Aside0.mk (blk_below (g := gb202) (o := .cells #[.slice AoZ56 t196.length coZ57, .slice AoZ69 t199.length coZ70] 65 (0, 0)) (by st4_; exact BK202.out) hb); have n16_ := Aside0.mk (below_step (by repeat st5_) hb); clear HO176; clear HO179; clear HO182; clear HO185; clear HO188; clear HO191; clear HO194; clear HO198; clear HO201; clear HO205; clear BK170; clear BK171; clear BK195; clear BK202; clear HB; have HO176 := n0_; have HO179 := n1_; have HO182 := n2_; have HO185 := n3_; have HO188 := n4_; have HO191 := n5_; have HO194 := n6_; have HO198 := n7_; have HO201 := n8_; have HO205 := n9_; have HO209 := n10_; have HO212 := n11_; have BK170 := n12_; have BK171 := n13_; have BK195 := n14_; have BK202 := n15_; have HB := n16_; clear n0_ n1_ n2_ n3_ n4_ n5_ n6_ n7_ n8_ n9_ n10_ n11_ n12_ n13_ n14_ n15_ n16_; (try clear hb); (try clear hb2); (try clear hk); (try clear hi); (try clear ho0); (try clear ho1)))
set_option hygiene false in
local macro "st79_" : tactic => `(tactic| refine goes_ Try.func55 (by kernel_rfl) rfl #[.agg #[.slice AoZ36 t189.length coZ37, .slice AoZ47 t192.length coZ48], .agg #[.slice AoZ85 t207.length coZ86, .slice AoZ88 t210.length coZ89]] (by rfl) rfl rfl sq9_ ?_)
set_option hygiene false in
local macro "st80_" : tactic => `(tactic| (case side1 => repeat (first | exact (Kd.R_reads' HO191.out).2.2 | (with_reducible refine Kd.C_alloc ?_ _) | (with_reducible refine Kd.C_drewN ?_ _) | (with_reducible refine Kd.C_drew ?_))))
set_option hygiene false in
local macro "st81_" : tactic => `(tactic| (case side3 => repeat (first | exact (Kd.R_reads' HO194.out).2.2 | (with_reducible refine Kd.C_alloc ?_ _) | (with_reducible refine Kd.C_drewN ?_ _) | (with_reducible refine Kd.C_drew ?_))))
set_option hygiene false in
local macro "st82_" : tactic => `(tactic| (case side5 => repeat (first | exact (Kd.R_reads' HO209.out).2.2 | (with_reducible refine Kd.C_alloc ?_ _) | (with_reducible refine Kd.C_drewN ?_ _) | (with_reducible refine Kd.C_drew ?_))))
set_option hygiene false in
local macro "st83_" : tactic => `(tactic| (case side7 => repeat (first | exact (Kd.R_reads' HO212.out).2.2 | (with_reducible refine Kd.C_alloc ?_ _) | (with_reducible refine Kd.C_drewN ?_ _) | (with_reducible refine Kd.C_drew ?_))))
set_option hygiene false in
local macro "st84_" : tactic => `(tactic| (have n0_ := Aside0.mk (Kd.R_below (by st3_; exact HO176.out) hb); have n1_ := Aside0.mk (Kd.R_below (by st3_; exact HO179.out) hb); have n2_ := Aside0.mk (Kd.R_below (by st3_; exact HO182.out) hb); have n3_ := Aside0.mk (Kd.R_below (by st3_; exact HO185.out) hb); have n4_ := Aside0.mk (Kd.R_below (by st3_; exact HO188.out) hb); have n5_ := Aside0.mk (Kd.R_below (by st3_; exact HO191.out) hb); have n6_ := Aside0.mk (Kd.R_below (by st3_; exact HO194.out) hb); have n7_ := Aside0.mk (Kd.R_below (by st3_; exact HO198.out) hb); have n8_ := Aside0.mk (Kd.R_below (by st3_; exact HO201.out) hb); have n9_ := Aside0.mk (Kd.Q_below (by st6_; exact HO205.out) hb); have n10_ := Aside0.mk (Kd.R_below (by st3_; exact HO209.out) hb); have n11_ := Aside0.mk (Kd.R_below (by st3_; exact HO212.out) hb); have n12_ := Aside0.mk (blk_below (g := gb170) (o := .cells #[.slice A0_0 l0_0.length c0_0, .slice A0_1 l0_1.length c0_1] 62 (0, 0)) (by st4_; exact BK170.out) hb); have n13_ := Aside0.mk (blk_below (g := gb171) (o := .cells #[.slice A1_0 l1_0.length c1_0, .slice A1_1 l1_1.length c1_1] 62 (0, 0)) (by st4_; exact BK171.out) hb); have n14_ := Aside0.mk (blk_below (g := gb195) (o := .cells #[.slice AoZ36 t189.length coZ37, .slice AoZ47 t192.length coZ48] 65 (0, 0)) (by st4_; exact BK195.out) hb); have n15_ := Aside0.mk (blk_below (g := gb202) (o := .cells #[.slice AoZ56 t196.length coZ57, .slice AoZ69 t199.length coZ70] 65 (0, 0)) (by st4_; exact BK202.out) hb); have n16_ := Aside0.mk (below_step (by repeat st5_) hb)))
set_option hygiene false in
local macro "st85_" : tactic => `(tactic| (clear HO176; clear HO179; clear HO182; clear HO185; clear HO188; clear HO191; clear HO194; clear HO198; clear HO201; clear HO205; clear HO209; clear HO212; clear BK170; clear BK171; clear BK195; clear BK202; clear HB; have HO176 := n0_; have HO179 := n1_; have HO182 := n2_; have HO185 := n3_; have HO188 := n4_; have HO191 := n5_; have HO194 := n6_; have HO198 := n7_; have HO201 := n8_; have HO205 := n9_; have HO209 := n10_; have HO212 := n11_; have BK170 := n12_; have BK171 := n13_; have BK195 := n14_; have BK202 := n15_; have HB := n16_; clear n0_ n1_ n2_ n3_ n4_ n5_ n6_ n7_ n8_ n9_ n10_ n11_ n12_ n13_ n14_ n15_ n16_; (try clear hb); (try clear hb2); (try clear hk); (try clear hi)))
set_option hygiene false in
local macro "st86_" : tactic => `(tactic| refine pure_ (i := 4) (N := some 44) (v := ?_) (a' := ?_) #[true, true, true, true, true] rfl rfl (by kernel_rfl) (fun _ _ _ h => h) (Or.inl ⟨by rfl, ?_⟩) ?_ ?_)
set_option hygiene false in
local macro "st87_" : tactic => `(tactic| (have n0_ := Aside0.mk (Kd.R_elder' (by st3_; exact HO_6.out) (Kd.Q_base ho0) hb); have n1_ := Aside0.mk (Kd.Q_elder' (by st6_; exact HO_9.out) (Kd.Q_base ho0) hb); have n2_ := Aside0.mk (Kd.Q_below (by st6_; exact HO_196000.out) hb); have n3_ := Aside0.mk (Kd.Q_elder' (by st6_; exact HO_196001.out) (Kd.Q_base ho0) hb); have n4_ := Aside0.mk (Kd.Q_below (by st6_; exact HO_203000.out) hb); have n5_ := Aside0.mk (Kd.Q_elder' (by st6_; exact HO_203001.out) (Kd.Q_base ho0) hb); have n6_ := Aside0.mk (Kd.R_below (by st3_; exact HO233.out) hb); have n7_ := Aside0.mk (Kd.R_elder' (by st3_; exact HO236.out) (Kd.Q_base ho0) hb); have n8_ := Aside0.mk (Kd.R_below (by st3_; exact HO239.out) hb); have n9_ := Aside0.mk (Kd.R_elder' (by st3_; exact HO242.out) (Kd.Q_base ho0) hb); have n10_ := Aside0.mk (Kd.Q_lower (Kd.Q_new' (Kd.Q_new' (Kd.Q_new' (Kd.Q_new' (Kd.Q_new' (Kd.Q_new' ho0 (Kd.R_lt (by st3_; exact HO_6.out))) (Kd.Q_lt (by st6_; exact HO_9.out))) (Kd.Q_lt (by st6_; exact HO_196001.out))) (Kd.Q_lt (by st6_; exact HO_203001.out))) (Kd.R_lt (by st3_; exact HO236.out))) (Kd.R_lt (by st3_; exact HO242.out))) (below_size (by repeat st5_))); have n11_ := Aside0.mk (blk_below (g := gb170) (o := .cells #[.slice A0_0 l0_0.length c0_0, .slice A0_1 l0_1.length c0_1] 62 (0, 0)) (by st4_; exact BK170.out) hb); have n12_ := Aside0.mk (blk_below (g := gb171) (o := .cells #[.slice A1_0 l1_0.length c1_0, .slice A1_1 l1_1.length c1_1] 62 (0, 0)) (by st4_; exact BK171.out) hb)))
set_option hygiene false in
local macro "st88_" : tactic => `(tactic| (have n13_ := Aside0.mk (blk_below (g := gb195) (o := .cells #[.slice AoZ36 t222.length coZ37, .slice AoZ47 t223.length coZ48] 65 (0, 0)) (by st4_; exact BK195.out) hb); have n14_ := Aside0.mk (blk_below (g := gb202) (o := .cells #[.slice AoZ56 t225.length coZ57, .slice AoZ69 t226.length coZ70] 65 (0, 0)) (by st4_; exact BK202.out) hb); have n15_ := Aside0.mk (below_step (by repeat st5_) hb); clear HO_6; clear HO_9; clear HO_196000; clear HO_196001; clear HO_203000; clear HO_203001; clear HO233; clear HO236; clear HO239; clear HO242; clear BK170; clear BK171; clear BK195; clear BK202; clear HB; have HO_6 := n0_; have HO_9 := n1_; have HO_196000 := n2_; have HO_196001 := n3_; have HO_203000 := n4_; have HO_203001 := n5_; have HO233 := n6_; have HO236 := n7_; have HO239 := n8_; have HO242 := n9_; have HO245 := n10_; have BK170 := n11_; have BK171 := n12_; have BK195 := n13_; have BK202 := n14_; have HB := n15_; clear n0_ n1_ n2_ n3_ n4_ n5_ n6_ n7_ n8_ n9_ n10_ n11_ n12_ n13_ n14_ n15_; (try clear hb); (try clear hb2); (try clear hk); (try clear hi); (try clear ho0)))
set_option hygiene false in
local macro "st89_" : tactic => `(tactic| exact ⟨by first | rfl | (simp [errW_none, errW_some] <;> rfl) | (simp [*, errW_none, errW_some] <;> rfl), by repeat (first | (with_reducible first | exact HB.out | apply below_alloc | apply pw_below_drewN | apply below_drew1 | refine below_set ?_ GE170.out | refine below_set ?_ GE171.out) | exact HB.out)⟩)
set_option hygiene false in
local macro "st90_" : tactic => `(tactic| (have n0_ := Aside0.mk (Kd.R_drew HO176.out); have n1_ := Aside0.mk (Kd.R_drew HO179.out); have n2_ := Aside0.mk (Kd.R_drew HO182.out); have n3_ := Aside0.mk (Kd.R_drew HO185.out); have n4_ := Aside0.mk (Kd.R_drew HO188.out); have n5_ := Aside0.mk (Kd.R_drew HO191.out); have n6_ := Aside0.mk (Kd.R_drew HO194.out); have n7_ := Aside0.mk (Kd.R_drew HO198.out); have n8_ := Aside0.mk (Kd.R_drew HO201.out); have n9_ := Aside0.mk (Kd.Q_drew HO205.out); have n10_ := Aside0.mk (Kd.R_drew HO209.out); have n11_ := Aside0.mk (Kd.R_drew HO212.out); have n12_ := Aside0.mk (blk_drew BK170.out); have n13_ := Aside0.mk (blk_drew BK171.out); have n14_ := Aside0.mk (blk_drew BK195.out); have n15_ := Aside0.mk (blk_drew BK202.out); have n16_ := Aside0.mk (below_drew1 HB.out); clear HO176; clear HO179; clear HO182; clear HO185; clear HO188; clear HO191; clear HO194; clear HO198; clear HO201; clear HO205; clear HO209; clear HO212; clear BK170; clear BK171; clear BK195; clear BK202; clear HB; have HO176 := n0_; have HO179 := n1_; have HO182 := n2_; have HO185 := n3_; have HO188 := n4_; have HO191 := n5_; have HO194 := n6_; have HO198 := n7_; have HO201 := n8_; have HO205 := n9_; have HO209 := n10_; have HO212 := n11_; have BK170 := n12_; have BK171 := n13_; have BK195 := n14_; have BK202 := n15_; have HB := n16_; clear n0_ n1_ n2_ n3_ n4_ n5_ n6_ n7_ n8_ n9_ n10_ n11_ n12_ n13_ n14_ n15_ n16_))
set_option hygiene false in
local macro "st91_" : tactic => `(tactic| refine start_ (n := 5) (S := fun w' => w'.cell? ⟨gb202, 0, none⟩ = some (.slice AoZ56 t196.length coZ57) ∧ w'.cell? ⟨gb202, 1, none⟩ = some (.slice AoZ69 t199.length coZ70) ∧ w'.cell? ⟨gb171, 0, none⟩ = some (.slice A1_0 l1_0.length c1_0) ∧ w'.cell? ⟨gb171, 1, none⟩ = some (.slice A1_1 l1_1.length c1_1)) (ds := []) #[false, false, false, false, false] (by kernel_rfl) rfl rfl ⟨(blk_cell BK202.out 0).trans rfl, (blk_cell BK202.out 1).trans rfl, (blk_cell BK171.out 0).trans rfl, (blk_cell BK171.out 1).trans rfl⟩ (fun hHeld => ?_))
set_option hygiene false in
local macro "st92_" : tactic => `(tactic| (have n0_ := Aside0.mk (Kd.R_elder' (by st3_; exact HO176.out) (Kd.R_base ho0) hb); have n1_ := Aside0.mk (Kd.R_elder' (by st3_; exact HO179.out) (Kd.R_base ho1) hb); have n2_ := Aside0.mk (Kd.R_elder' (by st3_; exact HO182.out) (Kd.R_base ho0) hb); have n3_ := Aside0.mk (Kd.R_elder' (by st3_; exact HO185.out) (Kd.R_base ho1) hb); have n4_ := Aside0.mk (Kd.R_elder' (by st3_; exact HO188.out) (Kd.R_base ho1) hb); have n5_ := Aside0.mk (Kd.R_elder' (by st3_; exact HO191.out) (Kd.R_base ho0) hb); have n6_ := Aside0.mk (Kd.R_elder' (by st3_; exact HO194.out) (Kd.R_base ho1) hb); have n7_ := Aside0.mk (Kd.R_elder' (by st3_; exact HO198.out) (Kd.R_base ho0) hb); have n8_ := Aside0.mk (Kd.R_elder' (by st3_; exact HO201.out) (Kd.R_base ho1) hb); have n9_ := Aside0.mk (Kd.Q_elder' (by st6_; exact HO205.out) (Kd.R_base ho1) hb); have n10_ := Aside0.mk (Kd.R_elder' (by st3_; exact HO209.out) (Kd.R_base ho0) hb); have n11_ := Aside0.mk (Kd.R_elder' (by st3_; exact HO212.out) (Kd.R_base ho1) hb); have n12_ := Aside0.mk (Kd.R_lower (Kd.R_new' (Kd.R_new' (Kd.R_new' (Kd.R_new' (Kd.R_new' ho0 (Kd.R_lt (by st3_; exact HO176.out))) (Kd.R_lt (by st3_; exact HO182.out))) (Kd.R_lt (by st3_; exact HO191.out))) (Kd.R_lt (by st3_; exact HO198.out))) (Kd.R_lt (by st3_; exact HO209.out))) (below_size (by repeat st5_))); have n13_ := Aside0.mk (Kd.R_lower (Kd.R_new' (Kd.R_new' (Kd.R_new' (Kd.R_new' (Kd.R_new' (Kd.R_new' (Kd.R_new' ho1 (Kd.R_lt (by st3_; exact HO179.out))) (Kd.R_lt (by st3_; exact HO185.out))) (Kd.R_lt (by st3_; exact HO188.out))) (Kd.R_lt (by st3_; exact HO194.out))) (Kd.R_lt (by st3_; exact HO201.out))) (Kd.Q_lt (by st6_; exact HO205.out))) (Kd.R_lt (by st3_; exact HO212.out))) (below_size (by repeat st5_)))))
set_option hygiene false in
local macro "st93_" : tactic => `(tactic| (have n14_ := Aside0.mk (blk_below (g := gb170) (o := .cells #[.slice A0_0 l0_0.length c0_0, .slice A0_1 l0_1.length c0_1] 62 (0, 0)) (by st4_; exact BK170.out) hb); have n15_ := Aside0.mk (blk_below (g := gb171) (o := .cells #[.slice A1_0 l1_0.length c1_0, .slice A1_1 l1_1.length c1_1] 62 (0, 0)) (by st4_; exact BK171.out) hb); have n16_ := Aside0.mk (blk_below (g := gb195) (o := .cells #[.slice AoZ36 t189.length coZ37, .slice AoZ47 t192.length coZ48] 65 (0, 0)) (by st4_; exact BK195.out) hb); have n17_ := Aside0.mk (blk_below (g := gb202) (o := .cells #[.slice AoZ56 t196.length coZ57, .slice AoZ69 t199.length coZ70] 65 (0, 0)) (by st4_; exact BK202.out) hb); have n18_ := Aside0.mk (below_step (by repeat st5_) hb); clear HO176; clear HO179; clear HO182; clear HO185; clear HO188; clear HO191; clear HO194; clear HO198; clear HO201; clear HO205; clear HO209; clear HO212; clear BK170; clear BK171; clear BK195; clear BK202; clear HB; have HO176 := n0_; have HO179 := n1_; have HO182 := n2_; have HO185 := n3_; have HO188 := n4_; have HO191 := n5_; have HO194 := n6_; have HO198 := n7_; have HO201 := n8_; have HO205 := n9_; have HO209 := n10_; have HO212 := n11_; have HO216 := n12_; have HO219 := n13_; have BK170 := n14_; have BK171 := n15_; have BK195 := n16_; have BK202 := n17_; have HB := n18_; clear n0_ n1_ n2_ n3_ n4_ n5_ n6_ n7_ n8_ n9_ n10_ n11_ n12_ n13_ n14_ n15_ n16_ n17_ n18_; (try clear hb); (try clear hb2); (try clear hk); (try clear hi); (try clear ho0); (try clear ho1)))
set_option hygiene false in
local macro "st94_" : tactic => `(tactic| (have n0_ := Aside0.mk (Kd.R_below (by st3_; exact HO176.out) hb); have n1_ := Aside0.mk (Kd.R_below (by st3_; exact HO179.out) hb); have n2_ := Aside0.mk (Kd.R_below (by st3_; exact HO182.out) hb); have n3_ := Aside0.mk (Kd.R_below (by st3_; exact HO185.out) hb); have n4_ := Aside0.mk (Kd.R_below (by st3_; exact HO188.out) hb); have n5_ := Aside0.mk (Kd.R_below (by st3_; exact HO191.out) hb); have n6_ := Aside0.mk (Kd.R_below (by st3_; exact HO194.out) hb); have n7_ := Aside0.mk (Kd.R_below (by st3_; exact HO198.out) hb); have n8_ := Aside0.mk (Kd.R_below (by st3_; exact HO201.out) hb); have n9_ := Aside0.mk (Kd.Q_below (by st6_; exact HO205.out) hb); have n10_ := Aside0.mk (Kd.R_below (by st3_; exact HO209.out) hb); have n11_ := Aside0.mk (Kd.R_below (by st3_; exact HO212.out) hb); have n12_ := Aside0.mk (Kd.R_below (by st3_; exact HO216.out) hb); have n13_ := Aside0.mk (Kd.R_below (by st3_; exact HO219.out) hb); have n14_ := Aside0.mk (blk_below (g := gb170) (o := .cells #[.slice A0_0 l0_0.length c0_0, .slice A0_1 l0_1.length c0_1] 62 (0, 0)) (by st4_; exact BK170.out) hb); have n15_ := Aside0.mk (blk_below (g := gb171) (o := .cells #[.slice A1_0 l1_0.length c1_0, .slice A1_1 l1_1.length c1_1] 62 (0, 0)) (by st4_; exact BK171.out) hb); have n16_ := Aside0.mk (blk_below (g := gb195) (o := .cells #[.slice AoZ36 t189.length coZ37, .slice AoZ47 t192.length coZ48] 65 (0, 0)) (by st4_; exact BK195.out) hb); have n17_ := Aside0.mk (blk_below (g := gb202) (o := .cells #[.slice AoZ56 t196.length coZ57, .slice AoZ69 t199.length coZ70] 65 (0, 0)) (by st4_; exact BK202.out) hb)))
set_option hygiene false in
local macro "st95_" : tactic => `(tactic| (have n18_ := Aside0.mk (below_step (by repeat st5_) hb); clear HO176; clear HO179; clear HO182; clear HO185; clear HO188; clear HO191; clear HO194; clear HO198; clear HO201; clear HO205; clear HO209; clear HO212; clear HO216; clear HO219; clear BK170; clear BK171; clear BK195; clear BK202; clear HB; have HO176 := n0_; have HO179 := n1_; have HO182 := n2_; have HO185 := n3_; have HO188 := n4_; have HO191 := n5_; have HO194 := n6_; have HO198 := n7_; have HO201 := n8_; have HO205 := n9_; have HO209 := n10_; have HO212 := n11_; have HO216 := n12_; have HO219 := n13_; have BK170 := n14_; have BK171 := n15_; have BK195 := n16_; have BK202 := n17_; have HB := n18_; clear n0_ n1_ n2_ n3_ n4_ n5_ n6_ n7_ n8_ n9_ n10_ n11_ n12_ n13_ n14_ n15_ n16_ n17_ n18_; (try clear hb); (try clear hb2); (try clear hk); (try clear hi)))

/-! ### laws_FnExactChangedBits: function 14 -/
def laws_FnExactChangedBits.j0 : Nat → List Int → List Int → Bool → List Bool → List Int → List Bool → List Int → Option (Bool)
  | 0, _, _, _, _, _, _, _ => none
  | k + 1, x6, x9, x63, x171000, x171001, x172000, x172001 => if x63 = true then (some false) else ((laws_markIntS.f k x9 1).bind fun bt228 => ((laws_heldIntS.f k bt228.2 1).bind fun t230 => (if t230 < 0 then (some false) else (if t230 = bt228.1 then ((laws_toImage.f k x171000 x171001).bind fun bt231 => ((laws_toImage.f k x172000 x172001).bind fun bt237 => ((impl_ChangedBits.f k bt231.1 bt231.2 bt237.1 bt237.2).bind fun t243 => ((laws_eqIntS.f k t243 x6).bind fun t246 => (if t246 = true then ((laws_heldIntS.f k bt228.2 1).bind fun t247 => (if t247 < 0 then (some false) else (if t247 = bt228.1 then (some true) else (some false)))) else (some false)))))) else (some false)))))
def laws_FnExactChangedBits.f (k : Nat) (l0_0 : List Bool) (l0_1 : List Int) (l1_0 : List Bool) (l1_1 : List Int) : Option (Bool) := (laws_szImage.f l0_0 l0_1 1048576).bind fun t172 => (if t172 < 0 then (some true) else ((laws_szImage.f l1_0 l1_1 t172).bind fun t173 => (if t173 < 0 then (some true) else ((laws_toImage.f k l0_0 l0_1).bind fun bt174 => ((laws_toImage.f k l1_0 l1_1).bind fun bt180 => ((spec_ChangedBits.f k bt174.1 bt174.2 bt180.1 bt180.2).bind fun t186 => ((laws_toImage.f k l0_0 l0_1).bind fun bt189 => ((laws_toImage.f k l1_0 l1_1).bind fun bt196 => ((impl_ChangedBits.f k bt189.1 bt189.2 bt196.1 bt196.2).bind fun t203 => ((laws_eqIntS.f k t203 t186).bind fun t206 => (if t206 = true then ((laws_toImage.f k l0_0 l0_1).bind fun bt207 => ((laws_eqImage.f k bt189.1 bt189.2 bt207.1 bt207.2).bind fun t213 => (if t213 = true then ((laws_toImage.f k l1_0 l1_1).bind fun bt214 => ((laws_eqImage.f k bt196.1 bt196.2 bt214.1 bt214.2).bind fun t220 => (if t220 = true then ((laws_markImage.f k bt189.1 bt189.2 1).bind fun bt221 => ((laws_markImage.f k bt196.1 bt196.2 bt221.1).bind fun bt224 => (if bt224.1 < 0 then (laws_FnExactChangedBits.j0 k t186 t203 true l0_0 l0_1 l1_0 l1_1) else ((laws_eqIntS.f k t203 t186).bind fun t227 => (laws_FnExactChangedBits.j0 k t186 t203 (!t227) l0_0 l0_1 l1_0 l1_1))))) else (some false)))) else (some false)))) else (some false))))))))))))
theorem laws_FnExactChangedBits.mono_l : ∀ k, (∀ y0 y1 y2 y3 y4 y5 y6, LeO (laws_FnExactChangedBits.j0 k y0 y1 y2 y3 y4 y5 y6) (laws_FnExactChangedBits.j0 (k + 1) y0 y1 y2 y3 y4 y5 y6))
  | 0 => fun _ _ _ _ _ _ _ r h => by simp [laws_FnExactChangedBits.j0] at h
  | k + 1 => by
    have ih0 := laws_FnExactChangedBits.mono_l k
    · intro y0 y1 y2 y3 y4 y5 y6
      unfold laws_FnExactChangedBits.j0
      repeat' first
      | (with_reducible exact ih0 _ _ _ _ _ _ _)
      | (with_reducible exact impl_ChangedBits.mono _ _ _ _ _)
      | (with_reducible exact laws_eqImage.mono _ _ _ _ _)
      | (with_reducible exact laws_eqIntS.mono _ _ _)
      | (with_reducible exact laws_heldIntS.mono _ _ _)
      | (with_reducible exact laws_markImage.mono _ _ _ _)
      | (with_reducible exact laws_markIntS.mono _ _ _)
      | (with_reducible exact laws_toImage.mono _ _ _)
      | (with_reducible exact spec_ChangedBits.mono _ _ _ _ _)
      | (with_reducible exact LeO.refl _)
      | (with_reducible exact LeO.none _)
      | (with_reducible refine LeO.ite ?_ ?_)
      | (with_reducible refine LeO.bind ?_ (fun _ => ?_))
      | exact ih0 _ _ _ _ _ _ _
      | exact impl_ChangedBits.mono _ _ _ _ _
      | exact laws_eqImage.mono _ _ _ _ _
      | exact laws_eqIntS.mono _ _ _
      | exact laws_heldIntS.mono _ _ _
      | exact laws_markImage.mono _ _ _ _
      | exact laws_markIntS.mono _ _ _
      | exact laws_toImage.mono _ _ _
      | exact spec_ChangedBits.mono _ _ _ _ _
      | exact LeO.none _
      | refine LeO.ite ?_ ?_
      | refine LeO.bind ?_ (fun _ => ?_)
theorem laws_FnExactChangedBits.mono : ∀ a0 a1 a2 a3 k, LeO (laws_FnExactChangedBits.f k a0 a1 a2 a3) (laws_FnExactChangedBits.f (k + 1) a0 a1 a2 a3) := by
  intro a0 a1 a2 a3 k
  have ih0 := laws_FnExactChangedBits.mono_l k
  unfold laws_FnExactChangedBits.f
  repeat' first
      | (with_reducible exact ih0 _ _ _ _ _ _ _)
      | (with_reducible exact impl_ChangedBits.mono _ _ _ _ _)
      | (with_reducible exact laws_eqImage.mono _ _ _ _ _)
      | (with_reducible exact laws_eqIntS.mono _ _ _)
      | (with_reducible exact laws_heldIntS.mono _ _ _)
      | (with_reducible exact laws_markImage.mono _ _ _ _)
      | (with_reducible exact laws_markIntS.mono _ _ _)
      | (with_reducible exact laws_toImage.mono _ _ _)
      | (with_reducible exact spec_ChangedBits.mono _ _ _ _ _)
      | (with_reducible exact LeO.refl _)
      | (with_reducible exact LeO.none _)
      | (with_reducible refine LeO.ite ?_ ?_)
      | (with_reducible refine LeO.bind ?_ (fun _ => ?_))
      | exact ih0 _ _ _ _ _ _ _
      | exact impl_ChangedBits.mono _ _ _ _ _
      | exact laws_eqImage.mono _ _ _ _ _
      | exact laws_eqIntS.mono _ _ _
      | exact laws_heldIntS.mono _ _ _
      | exact laws_markImage.mono _ _ _ _
      | exact laws_markIntS.mono _ _ _
      | exact laws_toImage.mono _ _ _
      | exact spec_ChangedBits.mono _ _ _ _ _
      | exact LeO.none _
      | refine LeO.ite ?_ ?_
      | refine LeO.bind ?_ (fun _ => ?_)
set_option maxHeartbeats 8000000 in
set_option maxRecDepth 100000 in
theorem laws_FnExactChangedBits.calls (k : Nat) (A0_0 : Option Addr) (c0_0 : Nat) (l0_0 : List Bool) (A0_1 : Option Addr) (c0_1 : Nat) (l0_1 : List Int) (A1_0 : Option Addr) (c1_0 : Nat) (l1_0 : List Bool) (A1_1 : Option Addr) (c1_1 : Nat) (l1_1 : List Int) (r : Bool) (w : World) (hr0_0 : Kd.C Kd.bool w A0_0 l0_0.length l0_0) (hc0_0 : l0_0.length ≤ c0_0) (hr0_1 : Kd.C (Kd.int .i64) w A0_1 l0_1.length l0_1) (hc0_1 : l0_1.length ≤ c0_1) (hr1_0 : Kd.C Kd.bool w A1_0 l1_0.length l1_0) (hc1_0 : l1_0.length ≤ c1_0) (hr1_1 : Kd.C (Kd.int .i64) w A1_1 l1_1.length l1_1) (hc1_1 : l1_1.length ≤ c1_1) (h : laws_FnExactChangedBits.f k l0_0 l0_1 l1_0 l1_1 = some r) :
    Calls Try.prog 14 #[.agg #[.slice A0_0 l0_0.length c0_0, .slice A0_1 l0_1.length c0_1], .agg #[.slice A1_0 l1_0.length c1_0, .slice A1_1 l1_1.length c1_1]] w fun e w' => e = .returned (.bool r) ∧ Below w.heap.size w w' := by
  have hu62 := Try.underlying62
  have hu65 := Try.underlying65
  have HR0_0 := Aside0.mk hr0_0
  have HC0_0 := Aside0.mk hc0_0
  clear hr0_0 hc0_0
  have HR0_1 := Aside0.mk hr0_1
  have HC0_1 := Aside0.mk hc0_1
  clear hr0_1 hc0_1
  have HR1_0 := Aside0.mk hr1_0
  have HC1_0 := Aside0.mk hc1_0
  clear hr1_0 hc1_0
  have HR1_1 := Aside0.mk hr1_1
  have HC1_1 := Aside0.mk hc1_1
  clear hr1_1 hc1_1
  have HB := Aside0.mk (Below.refl w.heap.size w)
  have H : ((laws_szImage.f l0_0 l0_1 1048576).bind fun t172 => (if t172 < 0 then (some true) else ((laws_szImage.f l1_0 l1_1 t172).bind fun t173 => (if t173 < 0 then (some true) else ((laws_toImage.f k l0_0 l0_1).bind fun bt174 => ((laws_toImage.f k l1_0 l1_1).bind fun bt180 => ((spec_ChangedBits.f k bt174.1 bt174.2 bt180.1 bt180.2).bind fun t186 => ((laws_toImage.f k l0_0 l0_1).bind fun bt189 => ((laws_toImage.f k l1_0 l1_1).bind fun bt196 => ((impl_ChangedBits.f k bt189.1 bt189.2 bt196.1 bt196.2).bind fun t203 => ((laws_eqIntS.f k t203 t186).bind fun t206 => (if t206 = true then ((laws_toImage.f k l0_0 l0_1).bind fun bt207 => ((laws_eqImage.f k bt189.1 bt189.2 bt207.1 bt207.2).bind fun t213 => (if t213 = true then ((laws_toImage.f k l1_0 l1_1).bind fun bt214 => ((laws_eqImage.f k bt196.1 bt196.2 bt214.1 bt214.2).bind fun t220 => (if t220 = true then ((laws_markImage.f k bt189.1 bt189.2 1).bind fun bt221 => ((laws_markImage.f k bt196.1 bt196.2 bt221.1).bind fun bt224 => (if bt224.1 < 0 then (laws_FnExactChangedBits.j0 k t186 t203 true l0_0 l0_1 l1_0 l1_1) else ((laws_eqIntS.f k t203 t186).bind fun t227 => (laws_FnExactChangedBits.j0 k t186 t203 (!t227) l0_0 l0_1 l1_0 l1_1))))) else (some false)))) else (some false)))) else (some false))))))))))))) = some r := h
  clear h
  st36_
  obtain ⟨t172, A30, H⟩ := H
  replace H : (if t172 < 0 then (some true) else ((laws_szImage.f l1_0 l1_1 t172).bind fun t173 => (if t173 < 0 then (some true) else ((laws_toImage.f k l0_0 l0_1).bind fun bt174 => ((laws_toImage.f k l1_0 l1_1).bind fun bt180 => ((spec_ChangedBits.f k bt174.1 bt174.2 bt180.1 bt180.2).bind fun t186 => ((laws_toImage.f k l0_0 l0_1).bind fun bt189 => ((laws_toImage.f k l1_0 l1_1).bind fun bt196 => ((impl_ChangedBits.f k bt189.1 bt189.2 bt196.1 bt196.2).bind fun t203 => ((laws_eqIntS.f k t203 t186).bind fun t206 => (if t206 = true then ((laws_toImage.f k l0_0 l0_1).bind fun bt207 => ((laws_eqImage.f k bt189.1 bt189.2 bt207.1 bt207.2).bind fun t213 => (if t213 = true then ((laws_toImage.f k l1_0 l1_1).bind fun bt214 => ((laws_eqImage.f k bt196.1 bt196.2 bt214.1 bt214.2).bind fun t220 => (if t220 = true then ((laws_markImage.f k bt189.1 bt189.2 1).bind fun bt221 => ((laws_markImage.f k bt196.1 bt196.2 bt221.1).bind fun bt224 => (if bt224.1 < 0 then (laws_FnExactChangedBits.j0 k t186 t203 true l0_0 l0_1 l1_0 l1_1) else ((laws_eqIntS.f k t203 t186).bind fun t227 => (laws_FnExactChangedBits.j0 k t186 t203 (!t227) l0_0 l0_1 l1_0 l1_1))))) else (some false)))) else (some false)))) else (some false)))))))))))) = some r := H
  have A3 := Aside0.mk A30
  clear A30
  by_cases c4 : t172 < 0
  · rw [if_pos c4] at H
    have c4b0 : decide (t172 < 0) = true := decide_eq_true c4
    clear c4
    obtain rfl := Option.some.inj H
    go_enter Try.func14, Try.ntmps14
    go_wp2_with (first | ((with_reducible refine gate_dst (N := 2) rfl ?_); refine box_event ?hg (N := 2) ?hd (cs := #[.slice A0_0 l0_0.length c0_0, .slice A0_1 l0_1.length c0_1]) (t := 62) ?hr ?_; (case hd => rfl); (case hg => rfl); (case hr => first | (go_simp; done) | (go_simp; rfl)); intro gb170 hg wZ0 hbox hb; have n0_ := Aside0.mk (below_step (by repeat (first | (with_reducible first | exact HB.out | apply below_alloc | apply pw_below_drewN | apply below_drew1) | exact HB.out)) hb); have n1_ := Aside0.mk (hbox); have n2_ := Aside0.mk ((by rw [hg]; exact (below_size (by repeat (first | (with_reducible first | exact HB.out | apply below_alloc | apply pw_below_drewN | apply below_drew1) | exact HB.out))) : w.heap.size ≤ gb170)); have n3_ := Aside0.mk ((by rw [hg]; exact (below_size (by repeat (first | (with_reducible first | exact HB.out | apply below_alloc | apply pw_below_drewN | apply below_drew1) | exact HB.out))) : w.heap.size ≤ gb170)); clear HB; have HB := n0_; have BK170 := n1_; have GW170 := n2_; have GE170 := n3_; clear n0_ n1_ n2_ n3_; clear hb hbox hg) | ((with_reducible refine gate_dst (N := 3) rfl ?_); refine box_event ?hg (N := 3) ?hd (cs := #[.slice A1_0 l1_0.length c1_0, .slice A1_1 l1_1.length c1_1]) (t := 62) ?hr ?_; (case hd => rfl); (case hg => rfl); (case hr => first | (go_simp; done) | (go_simp; rfl)); intro gb171 hg wZ1 hbox hb; have n0_ := Aside0.mk (blk_below (g := gb170) (o := .cells #[.slice A0_0 l0_0.length c0_0, .slice A0_1 l0_1.length c0_1] 62 (0, 0)) (by st4_; exact BK170.out) hb); have n1_ := Aside0.mk (below_step (by repeat (first | (with_reducible first | exact HB.out | apply below_alloc | apply pw_below_drewN | apply below_drew1 | refine below_set ?_ GE170.out) | exact HB.out)) hb); have n2_ := Aside0.mk (hbox); have n3_ := Aside0.mk ((by rw [hg]; exact (below_size (by repeat (first | (with_reducible first | exact HB.out | apply below_alloc | apply pw_below_drewN | apply below_drew1 | refine below_set ?_ GE170.out) | exact HB.out))) : w.heap.size ≤ gb171)); have n4_ := Aside0.mk ((by rw [hg]; exact (below_size (by repeat (first | (with_reducible first | exact HB.out | apply below_alloc | apply pw_below_drewN | apply below_drew1 | refine below_set ?_ GE170.out) | exact HB.out))) : w.heap.size ≤ gb171)); have n5_ := Aside0.mk ((by rw [hg]; exact Nat.ne_of_lt (blk_lt (g := gb170) (o := .cells #[.slice A0_0 l0_0.length c0_0, .slice A0_1 l0_1.length c0_1] 62 (0, 0)) (by st4_; exact BK170.out)) : gb170 ≠ gb171)); have n6_ := Aside0.mk ((by rw [hg]; exact Nat.ne_of_gt (blk_lt (g := gb170) (o := .cells #[.slice A0_0 l0_0.length c0_0, .slice A0_1 l0_1.length c0_1] 62 (0, 0)) (by st4_; exact BK170.out)) : gb171 ≠ gb170)); clear BK170; clear HB; have BK170 := n0_; have HB := n1_; have BK171 := n2_; have GW171 := n3_; have GE171 := n4_; have NB170_171 := n5_; have NB171_170 := n6_; clear n0_ n1_ n2_ n3_ n4_ n5_ n6_; clear hb hbox hg; have hnbZ2 := NB170_171.out; have hncZ3 := NB171_170.out; have hczZ4 : wZ1.cell? ⟨gb170, 0, none⟩ = some (.slice A0_0 l0_0.length c0_0) := (blk_cell BK170.out 0).trans rfl; have hczZ5 : wZ1.cell? ⟨gb170, 1, none⟩ = some (.slice A0_1 l0_1.length c0_1) := (blk_cell BK170.out 1).trans rfl; have hfzZ6 := blk_frozen BK170.out 0; have hfzZ7 := blk_frozen BK170.out 1) | ((with_reducible refine gate_callee (f := 51) rfl ?_); refine goesL_ (some 16) rfl rfl Try.func51 (by kernel_rfl) rfl #[.agg #[.slice A0_0 l0_0.length c0_0, .slice A0_1 l0_1.length c0_1], .int .i64 1048576] rfl sq9_ ?_; (with_reducible refine (laws_szImage.calls _ _ l0_0 _ _ l0_1 1048576 t172 _ ?side1 ?side2 ?side3 ?side4 A3.out).mono ?_); st11_; (case side2 => exact HC0_0.out); st12_; (case side4 => exact HC0_1.out); rintro e wZ8 ⟨rfl, hb⟩; refine ⟨_, rfl, ?_⟩; have n0_ := Aside0.mk (blk_below (g := gb170) (o := .cells #[.slice A0_0 l0_0.length c0_0, .slice A0_1 l0_1.length c0_1] 62 (0, 0)) (by st4_; exact BK170.out) hb); have n1_ := Aside0.mk (blk_below (g := gb171) (o := .cells #[.slice A1_0 l1_0.length c1_0, .slice A1_1 l1_1.length c1_1] 62 (0, 0)) (by st4_; exact BK171.out) hb); have n2_ := Aside0.mk (below_step sq8_ hb); clear BK170; clear BK171; clear HB; have BK170 := n0_; have BK171 := n1_; have HB := n2_; clear n0_ n1_ n2_; (try clear hb); (try clear hb2); (try clear hk); (try clear hi)))
    go_ret
    st89_
  · rw [if_neg c4] at H
    have c4b0 : decide (t172 < 0) = false := decide_eq_false c4
    clear c4
    st36_
    obtain ⟨t173, A100, H⟩ := H
    replace H : (if t173 < 0 then (some true) else ((laws_toImage.f k l0_0 l0_1).bind fun bt174 => ((laws_toImage.f k l1_0 l1_1).bind fun bt180 => ((spec_ChangedBits.f k bt174.1 bt174.2 bt180.1 bt180.2).bind fun t186 => ((laws_toImage.f k l0_0 l0_1).bind fun bt189 => ((laws_toImage.f k l1_0 l1_1).bind fun bt196 => ((impl_ChangedBits.f k bt189.1 bt189.2 bt196.1 bt196.2).bind fun t203 => ((laws_eqIntS.f k t203 t186).bind fun t206 => (if t206 = true then ((laws_toImage.f k l0_0 l0_1).bind fun bt207 => ((laws_eqImage.f k bt189.1 bt189.2 bt207.1 bt207.2).bind fun t213 => (if t213 = true then ((laws_toImage.f k l1_0 l1_1).bind fun bt214 => ((laws_eqImage.f k bt196.1 bt196.2 bt214.1 bt214.2).bind fun t220 => (if t220 = true then ((laws_markImage.f k bt189.1 bt189.2 1).bind fun bt221 => ((laws_markImage.f k bt196.1 bt196.2 bt221.1).bind fun bt224 => (if bt224.1 < 0 then (laws_FnExactChangedBits.j0 k t186 t203 true l0_0 l0_1 l1_0 l1_1) else ((laws_eqIntS.f k t203 t186).bind fun t227 => (laws_FnExactChangedBits.j0 k t186 t203 (!t227) l0_0 l0_1 l1_0 l1_1))))) else (some false)))) else (some false)))) else (some false)))))))))) = some r := H
    have A10 := Aside0.mk A100
    clear A100
    by_cases c11 : t173 < 0
    · rw [if_pos c11] at H
      have c11b0 : decide (t173 < 0) = true := decide_eq_true c11
      clear c11
      obtain rfl := Option.some.inj H
      go_enter Try.func14, Try.ntmps14
      go_wp2_with st2_
      go_ret
      st89_
    · rw [if_neg c11] at H
      have c11b0 : decide (t173 < 0) = false := decide_eq_false c11
      clear c11
      st36_
      obtain ⟨⟨t174, t177⟩, A190, H⟩ := H
      replace H : ((laws_toImage.f k l1_0 l1_1).bind fun bt180 => ((spec_ChangedBits.f k t174 t177 bt180.1 bt180.2).bind fun t186 => ((laws_toImage.f k l0_0 l0_1).bind fun bt189 => ((laws_toImage.f k l1_0 l1_1).bind fun bt196 => ((impl_ChangedBits.f k bt189.1 bt189.2 bt196.1 bt196.2).bind fun t203 => ((laws_eqIntS.f k t203 t186).bind fun t206 => (if t206 = true then ((laws_toImage.f k l0_0 l0_1).bind fun bt207 => ((laws_eqImage.f k bt189.1 bt189.2 bt207.1 bt207.2).bind fun t213 => (if t213 = true then ((laws_toImage.f k l1_0 l1_1).bind fun bt214 => ((laws_eqImage.f k bt196.1 bt196.2 bt214.1 bt214.2).bind fun t220 => (if t220 = true then ((laws_markImage.f k bt189.1 bt189.2 1).bind fun bt221 => ((laws_markImage.f k bt196.1 bt196.2 bt221.1).bind fun bt224 => (if bt224.1 < 0 then (laws_FnExactChangedBits.j0 k t186 t203 true l0_0 l0_1 l1_0 l1_1) else ((laws_eqIntS.f k t203 t186).bind fun t227 => (laws_FnExactChangedBits.j0 k t186 t203 (!t227) l0_0 l0_1 l1_0 l1_1))))) else (some false)))) else (some false)))) else (some false)))))))) = some r := H
      have A19 := Aside0.mk A190
      clear A190
      st36_
      obtain ⟨⟨t180, t183⟩, A200, H⟩ := H
      replace H : ((spec_ChangedBits.f k t174 t177 t180 t183).bind fun t186 => ((laws_toImage.f k l0_0 l0_1).bind fun bt189 => ((laws_toImage.f k l1_0 l1_1).bind fun bt196 => ((impl_ChangedBits.f k bt189.1 bt189.2 bt196.1 bt196.2).bind fun t203 => ((laws_eqIntS.f k t203 t186).bind fun t206 => (if t206 = true then ((laws_toImage.f k l0_0 l0_1).bind fun bt207 => ((laws_eqImage.f k bt189.1 bt189.2 bt207.1 bt207.2).bind fun t213 => (if t213 = true then ((laws_toImage.f k l1_0 l1_1).bind fun bt214 => ((laws_eqImage.f k bt196.1 bt196.2 bt214.1 bt214.2).bind fun t220 => (if t220 = true then ((laws_markImage.f k bt189.1 bt189.2 1).bind fun bt221 => ((laws_markImage.f k bt196.1 bt196.2 bt221.1).bind fun bt224 => (if bt224.1 < 0 then (laws_FnExactChangedBits.j0 k t186 t203 true l0_0 l0_1 l1_0 l1_1) else ((laws_eqIntS.f k t203 t186).bind fun t227 => (laws_FnExactChangedBits.j0 k t186 t203 (!t227) l0_0 l0_1 l1_0 l1_1))))) else (some false)))) else (some false)))) else (some false))))))) = some r := H
      have A20 := Aside0.mk A200
      clear A200
      st36_
      obtain ⟨t186, A210, H⟩ := H
      replace H : ((laws_toImage.f k l0_0 l0_1).bind fun bt189 => ((laws_toImage.f k l1_0 l1_1).bind fun bt196 => ((impl_ChangedBits.f k bt189.1 bt189.2 bt196.1 bt196.2).bind fun t203 => ((laws_eqIntS.f k t203 t186).bind fun t206 => (if t206 = true then ((laws_toImage.f k l0_0 l0_1).bind fun bt207 => ((laws_eqImage.f k bt189.1 bt189.2 bt207.1 bt207.2).bind fun t213 => (if t213 = true then ((laws_toImage.f k l1_0 l1_1).bind fun bt214 => ((laws_eqImage.f k bt196.1 bt196.2 bt214.1 bt214.2).bind fun t220 => (if t220 = true then ((laws_markImage.f k bt189.1 bt189.2 1).bind fun bt221 => ((laws_markImage.f k bt196.1 bt196.2 bt221.1).bind fun bt224 => (if bt224.1 < 0 then (laws_FnExactChangedBits.j0 k t186 t203 true l0_0 l0_1 l1_0 l1_1) else ((laws_eqIntS.f k t203 t186).bind fun t227 => (laws_FnExactChangedBits.j0 k t186 t203 (!t227) l0_0 l0_1 l1_0 l1_1))))) else (some false)))) else (some false)))) else (some false)))))) = some r := H
      have A21 := Aside0.mk A210
      clear A210
      st36_
      obtain ⟨⟨t189, t192⟩, A220, H⟩ := H
      replace H : ((laws_toImage.f k l1_0 l1_1).bind fun bt196 => ((impl_ChangedBits.f k t189 t192 bt196.1 bt196.2).bind fun t203 => ((laws_eqIntS.f k t203 t186).bind fun t206 => (if t206 = true then ((laws_toImage.f k l0_0 l0_1).bind fun bt207 => ((laws_eqImage.f k t189 t192 bt207.1 bt207.2).bind fun t213 => (if t213 = true then ((laws_toImage.f k l1_0 l1_1).bind fun bt214 => ((laws_eqImage.f k bt196.1 bt196.2 bt214.1 bt214.2).bind fun t220 => (if t220 = true then ((laws_markImage.f k t189 t192 1).bind fun bt221 => ((laws_markImage.f k bt196.1 bt196.2 bt221.1).bind fun bt224 => (if bt224.1 < 0 then (laws_FnExactChangedBits.j0 k t186 t203 true l0_0 l0_1 l1_0 l1_1) else ((laws_eqIntS.f k t203 t186).bind fun t227 => (laws_FnExactChangedBits.j0 k t186 t203 (!t227) l0_0 l0_1 l1_0 l1_1))))) else (some false)))) else (some false)))) else (some false))))) = some r := H
      have A22 := Aside0.mk A220
      clear A220
      st36_
      obtain ⟨⟨t196, t199⟩, A230, H⟩ := H
      replace H : ((impl_ChangedBits.f k t189 t192 t196 t199).bind fun t203 => ((laws_eqIntS.f k t203 t186).bind fun t206 => (if t206 = true then ((laws_toImage.f k l0_0 l0_1).bind fun bt207 => ((laws_eqImage.f k t189 t192 bt207.1 bt207.2).bind fun t213 => (if t213 = true then ((laws_toImage.f k l1_0 l1_1).bind fun bt214 => ((laws_eqImage.f k t196 t199 bt214.1 bt214.2).bind fun t220 => (if t220 = true then ((laws_markImage.f k t189 t192 1).bind fun bt221 => ((laws_markImage.f k t196 t199 bt221.1).bind fun bt224 => (if bt224.1 < 0 then (laws_FnExactChangedBits.j0 k t186 t203 true l0_0 l0_1 l1_0 l1_1) else ((laws_eqIntS.f k t203 t186).bind fun t227 => (laws_FnExactChangedBits.j0 k t186 t203 (!t227) l0_0 l0_1 l1_0 l1_1))))) else (some false)))) else (some false)))) else (some false)))) = some r := H
      have A23 := Aside0.mk A230
      clear A230
      st36_
      obtain ⟨t203, A240, H⟩ := H
      replace H : ((laws_eqIntS.f k t203 t186).bind fun t206 => (if t206 = true then ((laws_toImage.f k l0_0 l0_1).bind fun bt207 => ((laws_eqImage.f k t189 t192 bt207.1 bt207.2).bind fun t213 => (if t213 = true then ((laws_toImage.f k l1_0 l1_1).bind fun bt214 => ((laws_eqImage.f k t196 t199 bt214.1 bt214.2).bind fun t220 => (if t220 = true then ((laws_markImage.f k t189 t192 1).bind fun bt221 => ((laws_markImage.f k t196 t199 bt221.1).bind fun bt224 => (if bt224.1 < 0 then (laws_FnExactChangedBits.j0 k t186 t203 true l0_0 l0_1 l1_0 l1_1) else ((laws_eqIntS.f k t203 t186).bind fun t227 => (laws_FnExactChangedBits.j0 k t186 t203 (!t227) l0_0 l0_1 l1_0 l1_1))))) else (some false)))) else (some false)))) else (some false))) = some r := H
      have A24 := Aside0.mk A240
      clear A240
      st36_
      obtain ⟨t206, A250, H⟩ := H
      replace H : (if t206 = true then ((laws_toImage.f k l0_0 l0_1).bind fun bt207 => ((laws_eqImage.f k t189 t192 bt207.1 bt207.2).bind fun t213 => (if t213 = true then ((laws_toImage.f k l1_0 l1_1).bind fun bt214 => ((laws_eqImage.f k t196 t199 bt214.1 bt214.2).bind fun t220 => (if t220 = true then ((laws_markImage.f k t189 t192 1).bind fun bt221 => ((laws_markImage.f k t196 t199 bt221.1).bind fun bt224 => (if bt224.1 < 0 then (laws_FnExactChangedBits.j0 k t186 t203 true l0_0 l0_1 l1_0 l1_1) else ((laws_eqIntS.f k t203 t186).bind fun t227 => (laws_FnExactChangedBits.j0 k t186 t203 (!t227) l0_0 l0_1 l1_0 l1_1))))) else (some false)))) else (some false)))) else (some false)) = some r := H
      have A25 := Aside0.mk A250
      clear A250
      by_cases c26 : t206 = true
      · subst c26
        have H1 : ((laws_toImage.f k l0_0 l0_1).bind fun bt207 => ((laws_eqImage.f k t189 t192 bt207.1 bt207.2).bind fun t213 => (if t213 = true then ((laws_toImage.f k l1_0 l1_1).bind fun bt214 => ((laws_eqImage.f k t196 t199 bt214.1 bt214.2).bind fun t220 => (if t220 = true then ((laws_markImage.f k t189 t192 1).bind fun bt221 => ((laws_markImage.f k t196 t199 bt221.1).bind fun bt224 => (if bt224.1 < 0 then (laws_FnExactChangedBits.j0 k t186 t203 true l0_0 l0_1 l1_0 l1_1) else ((laws_eqIntS.f k t203 t186).bind fun t227 => (laws_FnExactChangedBits.j0 k t186 t203 (!t227) l0_0 l0_1 l1_0 l1_1))))) else (some false)))) else (some false)))) = some r := by rw [if_pos rfl] at H; exact H
        clear H
        have H := H1
        clear H1
        st36_
        obtain ⟨⟨t207, t210⟩, A270, H⟩ := H
        replace H : ((laws_eqImage.f k t189 t192 t207 t210).bind fun t213 => (if t213 = true then ((laws_toImage.f k l1_0 l1_1).bind fun bt214 => ((laws_eqImage.f k t196 t199 bt214.1 bt214.2).bind fun t220 => (if t220 = true then ((laws_markImage.f k t189 t192 1).bind fun bt221 => ((laws_markImage.f k t196 t199 bt221.1).bind fun bt224 => (if bt224.1 < 0 then (laws_FnExactChangedBits.j0 k t186 t203 true l0_0 l0_1 l1_0 l1_1) else ((laws_eqIntS.f k t203 t186).bind fun t227 => (laws_FnExactChangedBits.j0 k t186 t203 (!t227) l0_0 l0_1 l1_0 l1_1))))) else (some false)))) else (some false))) = some r := H
        have A27 := Aside0.mk A270
        clear A270
        st36_
        obtain ⟨t213, A280, H⟩ := H
        replace H : (if t213 = true then ((laws_toImage.f k l1_0 l1_1).bind fun bt214 => ((laws_eqImage.f k t196 t199 bt214.1 bt214.2).bind fun t220 => (if t220 = true then ((laws_markImage.f k t189 t192 1).bind fun bt221 => ((laws_markImage.f k t196 t199 bt221.1).bind fun bt224 => (if bt224.1 < 0 then (laws_FnExactChangedBits.j0 k t186 t203 true l0_0 l0_1 l1_0 l1_1) else ((laws_eqIntS.f k t203 t186).bind fun t227 => (laws_FnExactChangedBits.j0 k t186 t203 (!t227) l0_0 l0_1 l1_0 l1_1))))) else (some false)))) else (some false)) = some r := H
        have A28 := Aside0.mk A280
        clear A280
        by_cases c29 : t213 = true
        · subst c29
          have H1 : ((laws_toImage.f k l1_0 l1_1).bind fun bt214 => ((laws_eqImage.f k t196 t199 bt214.1 bt214.2).bind fun t220 => (if t220 = true then ((laws_markImage.f k t189 t192 1).bind fun bt221 => ((laws_markImage.f k t196 t199 bt221.1).bind fun bt224 => (if bt224.1 < 0 then (laws_FnExactChangedBits.j0 k t186 t203 true l0_0 l0_1 l1_0 l1_1) else ((laws_eqIntS.f k t203 t186).bind fun t227 => (laws_FnExactChangedBits.j0 k t186 t203 (!t227) l0_0 l0_1 l1_0 l1_1))))) else (some false)))) = some r := by rw [if_pos rfl] at H; exact H
          clear H
          have H := H1
          clear H1
          st36_
          obtain ⟨⟨t214, t217⟩, A300, H⟩ := H
          replace H : ((laws_eqImage.f k t196 t199 t214 t217).bind fun t220 => (if t220 = true then ((laws_markImage.f k t189 t192 1).bind fun bt221 => ((laws_markImage.f k t196 t199 bt221.1).bind fun bt224 => (if bt224.1 < 0 then (laws_FnExactChangedBits.j0 k t186 t203 true l0_0 l0_1 l1_0 l1_1) else ((laws_eqIntS.f k t203 t186).bind fun t227 => (laws_FnExactChangedBits.j0 k t186 t203 (!t227) l0_0 l0_1 l1_0 l1_1))))) else (some false))) = some r := H
          have A30 := Aside0.mk A300
          clear A300
          st36_
          obtain ⟨t220, A310, H⟩ := H
          replace H : (if t220 = true then ((laws_markImage.f k t189 t192 1).bind fun bt221 => ((laws_markImage.f k t196 t199 bt221.1).bind fun bt224 => (if bt224.1 < 0 then (laws_FnExactChangedBits.j0 k t186 t203 true l0_0 l0_1 l1_0 l1_1) else ((laws_eqIntS.f k t203 t186).bind fun t227 => (laws_FnExactChangedBits.j0 k t186 t203 (!t227) l0_0 l0_1 l1_0 l1_1))))) else (some false)) = some r := H
          have A31 := Aside0.mk A310
          clear A310
          by_cases c32 : t220 = true
          · subst c32
            have H1 : ((laws_markImage.f k t189 t192 1).bind fun bt221 => ((laws_markImage.f k t196 t199 bt221.1).bind fun bt224 => (if bt224.1 < 0 then (laws_FnExactChangedBits.j0 k t186 t203 true l0_0 l0_1 l1_0 l1_1) else ((laws_eqIntS.f k t203 t186).bind fun t227 => (laws_FnExactChangedBits.j0 k t186 t203 (!t227) l0_0 l0_1 l1_0 l1_1))))) = some r := by rw [if_pos rfl] at H; exact H
            clear H
            have H := H1
            clear H1
            st36_
            obtain ⟨⟨t221, t222, t223⟩, A330, H⟩ := H
            replace H : ((laws_markImage.f k t196 t199 t221).bind fun bt224 => (if bt224.1 < 0 then (laws_FnExactChangedBits.j0 k t186 t203 true l0_0 l0_1 l1_0 l1_1) else ((laws_eqIntS.f k t203 t186).bind fun t227 => (laws_FnExactChangedBits.j0 k t186 t203 (!t227) l0_0 l0_1 l1_0 l1_1)))) = some r := H
            have A33 := Aside0.mk A330
            clear A330
            st36_
            obtain ⟨⟨t224, t225, t226⟩, A340, H⟩ := H
            replace H : (if t224 < 0 then (laws_FnExactChangedBits.j0 k t186 t203 true l0_0 l0_1 l1_0 l1_1) else ((laws_eqIntS.f k t203 t186).bind fun t227 => (laws_FnExactChangedBits.j0 k t186 t203 (!t227) l0_0 l0_1 l1_0 l1_1))) = some r := H
            have A34 := Aside0.mk A340
            clear A340
            have HC35 := Aside0.mk H
            clear H
            go_enter Try.func14, Try.ntmps14
            try go_wp2_with st2_
            st42_
            st40_
            generalize wZ13.drew = wZ14 at BK170 BK171 HB hHeld ⊢
            st43_
            rotate_left
            · rintro w' ⟨s0, s1, s2, s3⟩
              go_simp
              with_reducible rfl
            rotate_left
            · st34_
              rfl
            st44_
            rotate_left
            · rintro w' ⟨s0, s1, s2, s3⟩
              go_simp
              with_reducible rfl
            rotate_left
            · st34_
              rfl
            st45_
            st37_
            st46_
            st11_
            (case side2 => exact HC0_0.out)
            st12_
            (case side4 => exact HC0_1.out)
            rintro e wZ15 ⟨v175, v178, rfl, ho0, ho1, hb⟩
            refine ⟨_, rfl, ?_⟩
            st47_
            st35_
            clear hK K
            refine norm_ (a' := ?_) ?_ ?_
            rotate_left
            · show Act.put _ (some 25) _ = _
              st34_
              rfl
            st48_
            st38_
            st49_
            st14_
            (case side2 => exact HC1_0.out)
            st15_
            (case side4 => exact HC1_1.out)
            rintro e wZ16 ⟨v181, v184, rfl, ho0, ho1, hb⟩
            refine ⟨_, rfl, ?_⟩
            st50_
            obtain ⟨AoZ17, coZ18, eoZ19⟩ := Kd.R_slice HO176.out
            st30_
            obtain ⟨AoZ20, coZ21, eoZ22⟩ := Kd.R_slice HO179.out
            st31_
            obtain ⟨AoZ23, coZ24, eoZ25⟩ := Kd.R_slice HO182.out
            st32_
            obtain ⟨AoZ26, coZ27, eoZ28⟩ := Kd.R_slice HO185.out
            st33_
            st35_
            clear hK K
            refine norm_ (a' := ?_) ?_ ?_
            rotate_left
            · show Act.put _ (some 27) _ = _
              st34_
              rfl
            st51_
            st52_
            st53_
            st18_
            (case side2 => exact (Kd.R_reads' HO176.out).2.1)
            st19_
            (case side4 => exact (Kd.R_reads' HO179.out).2.1)
            st20_
            (case side6 => exact (Kd.R_reads' HO182.out).2.1)
            st21_
            (case side8 => exact (Kd.R_reads' HO185.out).2.1)
            rintro e wZ29 ⟨v187, rfl, ho0, hb⟩
            refine ⟨_, rfl, ?_⟩
            st54_
            st35_
            clear hK K
            refine norm_ (a' := ?_) ?_ ?_
            rotate_left
            · show Act.put _ (some 28) _ = _
              st34_
              rfl
            st55_
            rotate_left
            · intro w'
              go_simp
              with_reducible rfl
            rotate_left
            · st34_
              rfl
            refine done_ (by kernel_rfl) ?_
            st56_
            st57_
            have hfzZ32 := blk_frozen BK170.out 0
            have hfzZ33 := blk_frozen BK170.out 1
            try go_wp2_with st1_
            st7_
            st73_
            st74_
            generalize wZ76.drew = wZ83 at HO176 HO179 HO182 HO185 HO188 HO191 HO194 HO198 HO201 HO205 BK170 BK171 BK195 BK202 HB hHeld ⊢
            st75_
            rotate_left
            · rintro w' ⟨s0, s1, s2, s3⟩
              go_simp
              with_reducible rfl
            rotate_left
            · st34_
              rfl
            st76_
            rotate_left
            · rintro w' ⟨s0, s1, s2, s3⟩
              go_simp
              with_reducible rfl
            rotate_left
            · st34_
              rfl
            refine one_ (i := 2) (N := some 42) #[true, true, true, false, false] rfl rfl (by kernel_rfl) (by decide) (fun K hK => ?_)
            st37_
            with_reducible refine (laws_toImage.calls k _ _ l0_0 _ _ l0_1 t207 t210 _ ?side1 ?side2 ?side3 ?side4 A27.out).mono ?_
            st11_
            (case side2 => exact HC0_0.out)
            st12_
            (case side4 => exact HC0_1.out)
            rintro e wZ84 ⟨v208, v211, rfl, ho0, ho1, hb⟩
            refine ⟨_, rfl, ?_⟩
            st77_
            st78_
            obtain ⟨AoZ85, coZ86, eoZ87⟩ := Kd.R_slice HO209.out
            (first | subst eoZ87 | (injection eoZ87 with f1_ f2_ f3_; have f4_ := f1_.symm; have f5_ := f3_.symm; clear f1_ f2_ f3_; subst f4_; subst f5_))
            obtain ⟨AoZ88, coZ89, eoZ90⟩ := Kd.R_slice HO212.out
            (first | subst eoZ90 | (injection eoZ90 with f1_ f2_ f3_; have f4_ := f1_.symm; have f5_ := f3_.symm; clear f1_ f2_ f3_; subst f4_; subst f5_))
            st41_
            clear hK K
            refine norm_ (a' := ?_) ?_ ?_
            rotate_left
            · show Act.put _ (some 42) _ = _
              st34_
              rfl
            refine one_ (i := 3) (N := some 43) #[true, true, true, true, false] rfl rfl (by kernel_rfl) (by decide) (fun K hK => ?_)
            st79_
            with_reducible refine (laws_eqImage.calls k _ _ t189 _ _ t192 _ _ t207 _ _ t210 true _ ?side1 ?side2 ?side3 ?side4 ?side5 ?side6 ?side7 ?side8 A28.out).mono ?_
            st80_
            (case side2 => exact (Kd.R_reads' HO191.out).2.1)
            st81_
            (case side4 => exact (Kd.R_reads' HO194.out).2.1)
            st82_
            (case side6 => exact (Kd.R_reads' HO209.out).2.1)
            st83_
            (case side8 => exact (Kd.R_reads' HO212.out).2.1)
            rintro e wZ91 ⟨rfl, hb⟩
            refine ⟨_, rfl, ?_⟩
            st84_
            st85_
            st41_
            clear hK K
            refine norm_ (a' := ?_) ?_ ?_
            rotate_left
            · show Act.put _ (some 43) _ = _
              st34_
              rfl
            st86_
            rotate_left
            · intro w'
              go_simp
              with_reducible rfl
            rotate_left
            · st34_
              rfl
            refine done_ (by kernel_rfl) ?_
            try go_wp2
            st90_
            st91_
            generalize wZ91.drew = wZ92 at HO176 HO179 HO182 HO185 HO188 HO191 HO194 HO198 HO201 HO205 HO209 HO212 BK170 BK171 BK195 BK202 HB hHeld ⊢
            refine take_ (i := 0) (N := some 45) (v := ?_) (a' := ?_) #[true, false, false, false, false] rfl rfl (by kernel_rfl) (fun _ _ _ h => h) (Or.inl ⟨by rfl, ?_⟩) hHeld ?_ ?_
            rotate_left
            · rintro w' ⟨s0, s1, s2, s3⟩
              go_simp
              with_reducible rfl
            rotate_left
            · st34_
              rfl
            refine take_ (i := 1) (N := some 46) (v := ?_) (a' := ?_) #[true, true, false, false, false] rfl rfl (by kernel_rfl) (fun _ _ _ h => h) (Or.inl ⟨by rfl, ?_⟩) hHeld ?_ ?_
            rotate_left
            · rintro w' ⟨s0, s1, s2, s3⟩
              go_simp
              with_reducible rfl
            rotate_left
            · st34_
              rfl
            refine one_ (i := 2) (N := some 47) #[true, true, true, false, false] rfl rfl (by kernel_rfl) (by decide) (fun K hK => ?_)
            st38_
            with_reducible refine (laws_toImage.calls k _ _ l1_0 _ _ l1_1 t214 t217 _ ?side1 ?side2 ?side3 ?side4 A30.out).mono ?_
            st14_
            (case side2 => exact HC1_0.out)
            st15_
            (case side4 => exact HC1_1.out)
            rintro e wZ93 ⟨v215, v218, rfl, ho0, ho1, hb⟩
            refine ⟨_, rfl, ?_⟩
            st92_
            st93_
            obtain ⟨AoZ94, coZ95, eoZ96⟩ := Kd.R_slice HO216.out
            (first | subst eoZ96 | (injection eoZ96 with f1_ f2_ f3_; have f4_ := f1_.symm; have f5_ := f3_.symm; clear f1_ f2_ f3_; subst f4_; subst f5_))
            obtain ⟨AoZ97, coZ98, eoZ99⟩ := Kd.R_slice HO219.out
            (first | subst eoZ99 | (injection eoZ99 with f1_ f2_ f3_; have f4_ := f1_.symm; have f5_ := f3_.symm; clear f1_ f2_ f3_; subst f4_; subst f5_))
            st58_
            clear hK K
            refine norm_ (a' := ?_) ?_ ?_
            rotate_left
            · show Act.put _ (some 47) _ = _
              st34_
              rfl
            refine one_ (i := 3) (N := some 48) #[true, true, true, true, false] rfl rfl (by kernel_rfl) (by decide) (fun K hK => ?_)
            refine goes_ Try.func55 (by kernel_rfl) rfl #[.agg #[.slice AoZ56 t196.length coZ57, .slice AoZ69 t199.length coZ70], .agg #[.slice AoZ94 t214.length coZ95, .slice AoZ97 t217.length coZ98]] (by rfl) rfl rfl sq9_ ?_
            with_reducible refine (laws_eqImage.calls k _ _ t196 _ _ t199 _ _ t214 _ _ t217 true _ ?side1 ?side2 ?side3 ?side4 ?side5 ?side6 ?side7 ?side8 A31.out).mono ?_
            (case side1 => repeat (first | exact (Kd.R_reads' HO198.out).2.2 | (with_reducible refine Kd.C_alloc ?_ _) | (with_reducible refine Kd.C_drewN ?_ _) | (with_reducible refine Kd.C_drew ?_)))
            (case side2 => exact (Kd.R_reads' HO198.out).2.1)
            (case side3 => repeat (first | exact (Kd.R_reads' HO201.out).2.2 | (with_reducible refine Kd.C_alloc ?_ _) | (with_reducible refine Kd.C_drewN ?_ _) | (with_reducible refine Kd.C_drew ?_)))
            (case side4 => exact (Kd.R_reads' HO201.out).2.1)
            (case side5 => repeat (first | exact (Kd.R_reads' HO216.out).2.2 | (with_reducible refine Kd.C_alloc ?_ _) | (with_reducible refine Kd.C_drewN ?_ _) | (with_reducible refine Kd.C_drew ?_)))
            (case side6 => exact (Kd.R_reads' HO216.out).2.1)
            (case side7 => repeat (first | exact (Kd.R_reads' HO219.out).2.2 | (with_reducible refine Kd.C_alloc ?_ _) | (with_reducible refine Kd.C_drewN ?_ _) | (with_reducible refine Kd.C_drew ?_)))
            (case side8 => exact (Kd.R_reads' HO219.out).2.1)
            rintro e wZ100 ⟨rfl, hb⟩
            refine ⟨_, rfl, ?_⟩
            st94_
            st95_
            st58_
            clear hK K
            refine norm_ (a' := ?_) ?_ ?_
            rotate_left
            · show Act.put _ (some 48) _ = _
              st34_
              rfl
            refine pure_ (i := 4) (N := some 49) (v := ?_) (a' := ?_) #[true, true, true, true, true] rfl rfl (by kernel_rfl) (fun _ _ _ h => h) (Or.inl ⟨by rfl, ?_⟩) ?_ ?_
            rotate_left
            · intro w'
              go_simp
              with_reducible rfl
            rotate_left
            · st34_
              rfl
            refine done_ (by kernel_rfl) ?_
            have hczZ101 : wZ100.cell? ⟨gb195, 0, none⟩ = some (.slice AoZ36 t189.length coZ37) := (blk_cell BK195.out 0).trans rfl
            have hczZ102 : wZ100.cell? ⟨gb195, 1, none⟩ = some (.slice AoZ47 t192.length coZ48) := (blk_cell BK195.out 1).trans rfl
            have hfzZ103 := blk_frozen BK195.out 0
            have hfzZ104 := blk_frozen BK195.out 1
            go_upto_region 21 with (first | ((with_reducible refine gate_callee (f := 60) rfl ?_); refine goesL_ (some 52) rfl rfl Try.func60 (by kernel_rfl) rfl #[.agg #[.slice AoZ36 t189.length coZ37, .slice AoZ47 t192.length coZ48], .int .i64 1] rfl sq9_ ?_; (with_reducible refine (laws_markImage.calls k (fun k_ => some k_ = (.slice AoZ36 t189.length coZ37 : Value).ownBlock) (.slice AoZ36 t189.length coZ37) t189 (fun k_ => some k_ = (.slice AoZ47 t192.length coZ48 : Value).ownBlock) (.slice AoZ47 t192.length coZ48) t192 1 t221 t222 t223 w _ ?side1 ?side2 ?side3 A33.out).mono ?_); (case side1 => repeat st5_); (case side2 => exact Kd.Q_tight rfl (Kd.Q_of_R (HO191.out))); (case side3 => exact Kd.Q_tight rfl (Kd.Q_of_R (HO194.out))); rintro e wZ105 ⟨rfl, hy0, hy1, hb, hkp⟩; refine ⟨_, rfl, ?_⟩; have n0_ := Aside0.mk (blk_kept (by st4_; exact BK170.out) hkp (fun hs_ => Or.elim hs_ (fun e_ => (fun e_ => (Kd.R_ne HO191.out BK170.out (by decide)) e_) e_) (fun e_ => (fun e_ => (Kd.R_ne HO194.out BK170.out (by decide)) e_) e_))); have n1_ := Aside0.mk (blk_kept (by st4_; exact BK171.out) hkp (fun hs_ => Or.elim hs_ (fun e_ => (fun e_ => (Kd.R_ne HO191.out BK171.out (by decide)) e_) e_) (fun e_ => (fun e_ => (Kd.R_ne HO194.out BK171.out (by decide)) e_) e_))); have n2_ := Aside0.mk (Kd.R_mono (ok' := fun k_ => some k_ ≠ (.slice AoZ23 t180.length coZ24 : Value).ownBlock ∧ some k_ ≠ (.slice AoZ36 t189.length coZ37 : Value).ownBlock ∧ some k_ ≠ (.slice AoZ56 t196.length coZ57 : Value).ownBlock ∧ some k_ ≠ (.slice AoZ85 t207.length coZ86 : Value).ownBlock ∧ some k_ ≠ (.slice AoZ94 t214.length coZ95 : Value).ownBlock) (Kd.R_keptB ((Kd.R_apart' HO176.out (Kd.R_typed HO194.out) (by decide))) hkp (fun k_ hk_ hs_ => Or.elim hs_ (fun e_ => (hk_.1.1.1.1.2) e_) (fun e_ => (hk_.2) e_))) (fun k_ hk_ => ⟨hk_.1.1.1.1.1.1.2, hk_.1.1.1.1.1.2, hk_.1.1.1.1.2, hk_.1.1.1.2, hk_.1.1.2⟩)); have n3_ := Aside0.mk (Kd.R_mono (ok' := fun k_ => some k_ ≠ (.slice AoZ26 t183.length coZ27 : Value).ownBlock ∧ some k_ ≠ (.slice AoZ80 t186.length coZ81 : Value).ownBlock ∧ some k_ ≠ (.slice AoZ47 t192.length coZ48 : Value).ownBlock ∧ some k_ ≠ (.slice AoZ69 t199.length coZ70 : Value).ownBlock ∧ some k_ ≠ (.slice AoZ77 t203.length coZ78 : Value).ownBlock ∧ some k_ ≠ (.slice AoZ88 t210.length coZ89 : Value).ownBlock ∧ some k_ ≠ (.slice AoZ97 t217.length coZ98 : Value).ownBlock) (Kd.R_keptB ((Kd.R_apart' HO179.out (Kd.R_typed HO191.out) (by decide))) hkp (fun k_ hk_ hs_ => Or.elim hs_ (fun e_ => (hk_.2) e_) (fun e_ => (hk_.1.1.1.1.1.2) e_))) (fun k_ hk_ => ⟨hk_.1.1.1.1.1.1.1.1.2, hk_.1.1.1.1.1.1.1.2, hk_.1.1.1.1.1.1.2, hk_.1.1.1.1.1.2, hk_.1.1.1.1.2, hk_.1.1.1.2, hk_.1.1.2⟩)); have n4_ := Aside0.mk (Kd.R_mono (ok' := fun k_ => some k_ ≠ (.slice AoZ17 t174.length coZ18 : Value).ownBlock ∧ some k_ ≠ (.slice AoZ36 t189.length coZ37 : Value).ownBlock ∧ some k_ ≠ (.slice AoZ56 t196.length coZ57 : Value).ownBlock ∧ some k_ ≠ (.slice AoZ85 t207.length coZ86 : Value).ownBlock ∧ some k_ ≠ (.slice AoZ94 t214.length coZ95 : Value).ownBlock) (Kd.R_keptB ((Kd.R_apart' HO182.out (Kd.R_typed HO194.out) (by decide))) hkp (fun k_ hk_ hs_ => Or.elim hs_ (fun e_ => (hk_.1.1.1.1.2) e_) (fun e_ => (hk_.2) e_))) (fun k_ hk_ => ⟨hk_.1.1.1.1.1.1.2, hk_.1.1.1.1.1.2, hk_.1.1.1.1.2, hk_.1.1.1.2, hk_.1.1.2⟩)); have n5_ := Aside0.mk (Kd.R_mono (ok' := fun k_ => some k_ ≠ (.slice AoZ20 t177.length coZ21 : Value).ownBlock ∧ some k_ ≠ (.slice AoZ80 t186.length coZ81 : Value).ownBlock ∧ some k_ ≠ (.slice AoZ47 t192.length coZ48 : Value).ownBlock ∧ some k_ ≠ (.slice AoZ69 t199.length coZ70 : Value).ownBlock ∧ some k_ ≠ (.slice AoZ77 t203.length coZ78 : Value).ownBlock ∧ some k_ ≠ (.slice AoZ88 t210.length coZ89 : Value).ownBlock ∧ some k_ ≠ (.slice AoZ97 t217.length coZ98 : Value).ownBlock) (Kd.R_keptB ((Kd.R_apart' HO185.out (Kd.R_typed HO191.out) (by decide))) hkp (fun k_ hk_ hs_ => Or.elim hs_ (fun e_ => (hk_.2) e_) (fun e_ => (hk_.1.1.1.1.1.2) e_))) (fun k_ hk_ => ⟨hk_.1.1.1.1.1.1.1.1.2, hk_.1.1.1.1.1.1.1.2, hk_.1.1.1.1.1.1.2, hk_.1.1.1.1.1.2, hk_.1.1.1.1.2, hk_.1.1.1.2, hk_.1.1.2⟩)); have n6_ := Aside0.mk (Kd.R_mono (ok' := fun k_ => some k_ ≠ (.slice AoZ20 t177.length coZ21 : Value).ownBlock ∧ some k_ ≠ (.slice AoZ26 t183.length coZ27 : Value).ownBlock ∧ some k_ ≠ (.slice AoZ47 t192.length coZ48 : Value).ownBlock ∧ some k_ ≠ (.slice AoZ69 t199.length coZ70 : Value).ownBlock ∧ some k_ ≠ (.slice AoZ77 t203.length coZ78 : Value).ownBlock ∧ some k_ ≠ (.slice AoZ88 t210.length coZ89 : Value).ownBlock ∧ some k_ ≠ (.slice AoZ97 t217.length coZ98 : Value).ownBlock) (Kd.R_keptB ((Kd.R_apart' HO188.out (Kd.R_typed HO191.out) (by decide))) hkp (fun k_ hk_ hs_ => Or.elim hs_ (fun e_ => (hk_.2) e_) (fun e_ => (hk_.1.1.1.1.1.2) e_))) (fun k_ hk_ => ⟨hk_.1.1.1.1.1.1.1.1.2, hk_.1.1.1.1.1.1.1.2, hk_.1.1.1.1.1.1.2, hk_.1.1.1.1.1.2, hk_.1.1.1.1.2, hk_.1.1.1.2, hk_.1.1.2⟩)); have n7_ := Aside0.mk (Kd.Q_reok rfl hy0 (fun k_ e_ => HO191.out.1 k_ e_)); have n8_ := Aside0.mk (Kd.Q_reok rfl hy1 (fun k_ e_ => HO194.out.1 k_ e_)); have n9_ := Aside0.mk (blk_kept (by st4_; exact BK195.out) hkp (fun hs_ => Or.elim hs_ (fun e_ => (fun e_ => (Kd.R_ne HO191.out BK195.out (by decide)) e_) e_) (fun e_ => (fun e_ => (Kd.R_ne HO194.out BK195.out (by decide)) e_) e_))); have n10_ := Aside0.mk (Kd.R_mono (ok' := fun k_ => some k_ ≠ (.slice AoZ17 t174.length coZ18 : Value).ownBlock ∧ some k_ ≠ (.slice AoZ23 t180.length coZ24 : Value).ownBlock ∧ some k_ ≠ (.slice AoZ36 t189.length coZ37 : Value).ownBlock ∧ some k_ ≠ (.slice AoZ85 t207.length coZ86 : Value).ownBlock ∧ some k_ ≠ (.slice AoZ94 t214.length coZ95 : Value).ownBlock) (Kd.R_keptB ((Kd.R_apart' HO198.out (Kd.R_typed HO194.out) (by decide))) hkp (fun k_ hk_ hs_ => Or.elim hs_ (fun e_ => (hk_.1.1.1.2) e_) (fun e_ => (hk_.2) e_))) (fun k_ hk_ => ⟨hk_.1.1.1.1.1.1.2, hk_.1.1.1.1.1.2, hk_.1.1.1.1.2, hk_.1.1.1.2, hk_.1.1.2⟩)); have n11_ := Aside0.mk (Kd.R_mono (ok' := fun k_ => some k_ ≠ (.slice AoZ20 t177.length coZ21 : Value).ownBlock ∧ some k_ ≠ (.slice AoZ26 t183.length coZ27 : Value).ownBlock ∧ some k_ ≠ (.slice AoZ80 t186.length coZ81 : Value).ownBlock ∧ some k_ ≠ (.slice AoZ47 t192.length coZ48 : Value).ownBlock ∧ some k_ ≠ (.slice AoZ77 t203.length coZ78 : Value).ownBlock ∧ some k_ ≠ (.slice AoZ88 t210.length coZ89 : Value).ownBlock ∧ some k_ ≠ (.slice AoZ97 t217.length coZ98 : Value).ownBlock) (Kd.R_keptB ((Kd.R_apart' HO201.out (Kd.R_typed HO191.out) (by decide))) hkp (fun k_ hk_ hs_ => Or.elim hs_ (fun e_ => (hk_.2) e_) (fun e_ => (hk_.1.1.1.1.2) e_))) (fun k_ hk_ => ⟨hk_.1.1.1.1.1.1.1.1.2, hk_.1.1.1.1.1.1.1.2, hk_.1.1.1.1.1.1.2, hk_.1.1.1.1.1.2, hk_.1.1.1.1.2, hk_.1.1.1.2, hk_.1.1.2⟩)); have n12_ := Aside0.mk (blk_kept (by st4_; exact BK202.out) hkp (fun hs_ => Or.elim hs_ (fun e_ => (fun e_ => (Kd.R_ne HO191.out BK202.out (by decide)) e_) e_) (fun e_ => (fun e_ => (Kd.R_ne HO194.out BK202.out (by decide)) e_) e_))); have n13_ := Aside0.mk (Kd.Q_mono (ok' := fun k_ => some k_ ≠ (.slice AoZ20 t177.length coZ21 : Value).ownBlock ∧ some k_ ≠ (.slice AoZ26 t183.length coZ27 : Value).ownBlock ∧ some k_ ≠ (.slice AoZ80 t186.length coZ81 : Value).ownBlock ∧ some k_ ≠ (.slice AoZ47 t192.length coZ48 : Value).ownBlock ∧ some k_ ≠ (.slice AoZ69 t199.length coZ70 : Value).ownBlock ∧ some k_ ≠ (.slice AoZ88 t210.length coZ89 : Value).ownBlock ∧ some k_ ≠ (.slice AoZ97 t217.length coZ98 : Value).ownBlock) (Kd.Q_keptB ((Kd.Q_apart' HO205.out (Kd.R_typed HO191.out) (by decide))) hkp (fun k_ hk_ hs_ => Or.elim hs_ (fun e_ => (hk_.2) e_) (fun e_ => (hk_.1.1.1.1.2) e_))) (fun k_ hk_ => ⟨hk_.1.1.1.1.1.1.1.1.2, hk_.1.1.1.1.1.1.1.2, hk_.1.1.1.1.1.1.2, hk_.1.1.1.1.1.2, hk_.1.1.1.1.2, hk_.1.1.1.2, hk_.1.1.2⟩)); have n14_ := Aside0.mk (Kd.R_mono (ok' := fun k_ => some k_ ≠ (.slice AoZ17 t174.length coZ18 : Value).ownBlock ∧ some k_ ≠ (.slice AoZ23 t180.length coZ24 : Value).ownBlock ∧ some k_ ≠ (.slice AoZ36 t189.length coZ37 : Value).ownBlock ∧ some k_ ≠ (.slice AoZ56 t196.length coZ57 : Value).ownBlock ∧ some k_ ≠ (.slice AoZ94 t214.length coZ95 : Value).ownBlock) (Kd.R_keptB ((Kd.R_apart' HO209.out (Kd.R_typed HO194.out) (by decide))) hkp (fun k_ hk_ hs_ => Or.elim hs_ (fun e_ => (hk_.1.1.1.2) e_) (fun e_ => (hk_.2) e_))) (fun k_ hk_ => ⟨hk_.1.1.1.1.1.1.2, hk_.1.1.1.1.1.2, hk_.1.1.1.1.2, hk_.1.1.1.2, hk_.1.1.2⟩)); have n15_ := Aside0.mk (Kd.R_mono (ok' := fun k_ => some k_ ≠ (.slice AoZ20 t177.length coZ21 : Value).ownBlock ∧ some k_ ≠ (.slice AoZ26 t183.length coZ27 : Value).ownBlock ∧ some k_ ≠ (.slice AoZ80 t186.length coZ81 : Value).ownBlock ∧ some k_ ≠ (.slice AoZ47 t192.length coZ48 : Value).ownBlock ∧ some k_ ≠ (.slice AoZ69 t199.length coZ70 : Value).ownBlock ∧ some k_ ≠ (.slice AoZ77 t203.length coZ78 : Value).ownBlock ∧ some k_ ≠ (.slice AoZ97 t217.length coZ98 : Value).ownBlock) (Kd.R_keptB ((Kd.R_apart' HO212.out (Kd.R_typed HO191.out) (by decide))) hkp (fun k_ hk_ hs_ => Or.elim hs_ (fun e_ => (hk_.2) e_) (fun e_ => (hk_.1.1.1.1.2) e_))) (fun k_ hk_ => ⟨hk_.1.1.1.1.1.1.1.1.2, hk_.1.1.1.1.1.1.1.2, hk_.1.1.1.1.1.1.2, hk_.1.1.1.1.1.2, hk_.1.1.1.1.2, hk_.1.1.1.2, hk_.1.1.2⟩)); have n16_ := Aside0.mk (Kd.R_mono (ok' := fun k_ => some k_ ≠ (.slice AoZ17 t174.length coZ18 : Value).ownBlock ∧ some k_ ≠ (.slice AoZ23 t180.length coZ24 : Value).ownBlock ∧ some k_ ≠ (.slice AoZ36 t189.length coZ37 : Value).ownBlock ∧ some k_ ≠ (.slice AoZ56 t196.length coZ57 : Value).ownBlock ∧ some k_ ≠ (.slice AoZ85 t207.length coZ86 : Value).ownBlock) (Kd.R_keptB ((Kd.R_apart' HO216.out (Kd.R_typed HO194.out) (by decide))) hkp (fun k_ hk_ hs_ => Or.elim hs_ (fun e_ => (hk_.1.1.1.2) e_) (fun e_ => (hk_.2) e_))) (fun k_ hk_ => ⟨hk_.1.1.1.1.1.1.2, hk_.1.1.1.1.1.2, hk_.1.1.1.1.2, hk_.1.1.1.2, hk_.1.1.2⟩)); have n17_ := Aside0.mk (Kd.R_mono (ok' := fun k_ => some k_ ≠ (.slice AoZ20 t177.length coZ21 : Value).ownBlock ∧ some k_ ≠ (.slice AoZ26 t183.length coZ27 : Value).ownBlock ∧ some k_ ≠ (.slice AoZ80 t186.length coZ81 : Value).ownBlock ∧ some k_ ≠ (.slice AoZ47 t192.length coZ48 : Value).ownBlock ∧ some k_ ≠ (.slice AoZ69 t199.length coZ70 : Value).ownBlock ∧ some k_ ≠ (.slice AoZ77 t203.length coZ78 : Value).ownBlock ∧ some k_ ≠ (.slice AoZ88 t210.length coZ89 : Value).ownBlock) (Kd.R_keptB ((Kd.R_apart' HO219.out (Kd.R_typed HO191.out) (by decide))) hkp (fun k_ hk_ hs_ => Or.elim hs_ (fun e_ => (hk_.2) e_) (fun e_ => (hk_.1.1.1.1.2) e_))) (fun k_ hk_ => ⟨hk_.1.1.1.1.1.1.1.1.2, hk_.1.1.1.1.1.1.1.2, hk_.1.1.1.1.1.1.2, hk_.1.1.1.1.1.2, hk_.1.1.1.1.2, hk_.1.1.1.2, hk_.1.1.2⟩)); have n18_ := Aside0.mk (hb); clear BK170; clear BK171; clear HO176; clear HO179; clear HO182; clear HO185; clear HO188; clear HO191; clear HO194; clear BK195; clear HO198; clear HO201; clear BK202; clear HO205; clear HO209; clear HO212; clear HO216; clear HO219; clear HB; have BK170 := n0_; have BK171 := n1_; have HO176 := n2_; have HO179 := n3_; have HO182 := n4_; have HO185 := n5_; have HO188 := n6_; have HO191 := n7_; have HO194 := n8_; have BK195 := n9_; have HO198 := n10_; have HO201 := n11_; have BK202 := n12_; have HO205 := n13_; have HO209 := n14_; have HO212 := n15_; have HO216 := n16_; have HO219 := n17_; have HB := n18_; clear n0_ n1_ n2_ n3_ n4_ n5_ n6_ n7_ n8_ n9_ n10_ n11_ n12_ n13_ n14_ n15_ n16_ n17_ n18_; (try clear hb); (try clear hkp); (try clear hy0); (try clear hy1); have hczZ106 : wZ105.cell? ⟨gb202, 0, none⟩ = some (.slice AoZ56 t196.length coZ57) := (blk_cell BK202.out 0).trans rfl; have hczZ107 : wZ105.cell? ⟨gb202, 1, none⟩ = some (.slice AoZ69 t199.length coZ70) := (blk_cell BK202.out 1).trans rfl; have hfzZ108 := blk_frozen BK202.out 0; have hfzZ109 := blk_frozen BK202.out 1) | ((with_reducible refine gate_callee (f := 60) rfl ?_); refine goesL_ (some 55) rfl rfl Try.func60 (by kernel_rfl) rfl #[.agg #[.slice AoZ56 t196.length coZ57, .slice AoZ69 t199.length coZ70], .int .i64 t221] rfl sq9_ ?_; (with_reducible refine (laws_markImage.calls k (fun k_ => some k_ = (.slice AoZ56 t196.length coZ57 : Value).ownBlock) (.slice AoZ56 t196.length coZ57) t196 (fun k_ => some k_ = (.slice AoZ69 t199.length coZ70 : Value).ownBlock) (.slice AoZ69 t199.length coZ70) t199 t221 t224 t225 t226 w _ ?side1 ?side2 ?side3 A34.out).mono ?_); (case side1 => repeat st5_); (case side2 => exact Kd.Q_tight rfl (Kd.Q_of_R (HO198.out))); (case side3 => exact Kd.Q_tight rfl (Kd.Q_of_R (HO201.out))); rintro e wZ110 ⟨rfl, hy0, hy1, hb, hkp⟩; refine ⟨_, rfl, ?_⟩; have n0_ := Aside0.mk (blk_kept (by st4_; exact BK170.out) hkp (fun hs_ => Or.elim hs_ (fun e_ => (fun e_ => (Kd.R_ne HO198.out BK170.out (by decide)) e_) e_) (fun e_ => (fun e_ => (Kd.R_ne HO201.out BK170.out (by decide)) e_) e_))); have n1_ := Aside0.mk (blk_kept (by st4_; exact BK171.out) hkp (fun hs_ => Or.elim hs_ (fun e_ => (fun e_ => (Kd.R_ne HO198.out BK171.out (by decide)) e_) e_) (fun e_ => (fun e_ => (Kd.R_ne HO201.out BK171.out (by decide)) e_) e_))); have n2_ := Aside0.mk (Kd.R_mono (ok' := fun k_ => some k_ ≠ (.slice AoZ23 t180.length coZ24 : Value).ownBlock ∧ some k_ ≠ (.slice AoZ36 t189.length coZ37 : Value).ownBlock ∧ some k_ ≠ (.slice AoZ56 t196.length coZ57 : Value).ownBlock ∧ some k_ ≠ (.slice AoZ85 t207.length coZ86 : Value).ownBlock ∧ some k_ ≠ (.slice AoZ94 t214.length coZ95 : Value).ownBlock) (Kd.R_keptB ((Kd.R_apart' HO176.out (Kd.R_typed HO201.out) (by decide))) hkp (fun k_ hk_ hs_ => Or.elim hs_ (fun e_ => (hk_.1.2.2.1) e_) (fun e_ => (hk_.2) e_))) (fun k_ hk_ => ⟨hk_.1.1.1, hk_.1.1.2.1, hk_.1.1.2.2.1, hk_.1.1.2.2.2.1, hk_.1.1.2.2.2.2⟩)); have n3_ := Aside0.mk (Kd.R_mono (ok' := fun k_ => some k_ ≠ (.slice AoZ26 t183.length coZ27 : Value).ownBlock ∧ some k_ ≠ (.slice AoZ80 t186.length coZ81 : Value).ownBlock ∧ some k_ ≠ (.slice AoZ47 t192.length coZ48 : Value).ownBlock ∧ some k_ ≠ (.slice AoZ69 t199.length coZ70 : Value).ownBlock ∧ some k_ ≠ (.slice AoZ77 t203.length coZ78 : Value).ownBlock ∧ some k_ ≠ (.slice AoZ88 t210.length coZ89 : Value).ownBlock ∧ some k_ ≠ (.slice AoZ97 t217.length coZ98 : Value).ownBlock) (Kd.R_keptB ((Kd.R_apart' HO179.out (Kd.R_typed HO198.out) (by decide))) hkp (fun k_ hk_ hs_ => Or.elim hs_ (fun e_ => (hk_.2) e_) (fun e_ => (hk_.1.2.2.2.1) e_))) (fun k_ hk_ => ⟨hk_.1.1.1, hk_.1.1.2.1, hk_.1.1.2.2.1, hk_.1.1.2.2.2.1, hk_.1.1.2.2.2.2.1, hk_.1.1.2.2.2.2.2.1, hk_.1.1.2.2.2.2.2.2⟩)); have n4_ := Aside0.mk (Kd.R_mono (ok' := fun k_ => some k_ ≠ (.slice AoZ17 t174.length coZ18 : Value).ownBlock ∧ some k_ ≠ (.slice AoZ36 t189.length coZ37 : Value).ownBlock ∧ some k_ ≠ (.slice AoZ56 t196.length coZ57 : Value).ownBlock ∧ some k_ ≠ (.slice AoZ85 t207.length coZ86 : Value).ownBlock ∧ some k_ ≠ (.slice AoZ94 t214.length coZ95 : Value).ownBlock) (Kd.R_keptB ((Kd.R_apart' HO182.out (Kd.R_typed HO201.out) (by decide))) hkp (fun k_ hk_ hs_ => Or.elim hs_ (fun e_ => (hk_.1.2.2.1) e_) (fun e_ => (hk_.2) e_))) (fun k_ hk_ => ⟨hk_.1.1.1, hk_.1.1.2.1, hk_.1.1.2.2.1, hk_.1.1.2.2.2.1, hk_.1.1.2.2.2.2⟩)); have n5_ := Aside0.mk (Kd.R_mono (ok' := fun k_ => some k_ ≠ (.slice AoZ20 t177.length coZ21 : Value).ownBlock ∧ some k_ ≠ (.slice AoZ80 t186.length coZ81 : Value).ownBlock ∧ some k_ ≠ (.slice AoZ47 t192.length coZ48 : Value).ownBlock ∧ some k_ ≠ (.slice AoZ69 t199.length coZ70 : Value).ownBlock ∧ some k_ ≠ (.slice AoZ77 t203.length coZ78 : Value).ownBlock ∧ some k_ ≠ (.slice AoZ88 t210.length coZ89 : Value).ownBlock ∧ some k_ ≠ (.slice AoZ97 t217.length coZ98 : Value).ownBlock) (Kd.R_keptB ((Kd.R_apart' HO185.out (Kd.R_typed HO198.out) (by decide))) hkp (fun k_ hk_ hs_ => Or.elim hs_ (fun e_ => (hk_.2) e_) (fun e_ => (hk_.1.2.2.2.1) e_))) (fun k_ hk_ => ⟨hk_.1.1.1, hk_.1.1.2.1, hk_.1.1.2.2.1, hk_.1.1.2.2.2.1, hk_.1.1.2.2.2.2.1, hk_.1.1.2.2.2.2.2.1, hk_.1.1.2.2.2.2.2.2⟩)); have n6_ := Aside0.mk (Kd.R_mono (ok' := fun k_ => some k_ ≠ (.slice AoZ20 t177.length coZ21 : Value).ownBlock ∧ some k_ ≠ (.slice AoZ26 t183.length coZ27 : Value).ownBlock ∧ some k_ ≠ (.slice AoZ47 t192.length coZ48 : Value).ownBlock ∧ some k_ ≠ (.slice AoZ69 t199.length coZ70 : Value).ownBlock ∧ some k_ ≠ (.slice AoZ77 t203.length coZ78 : Value).ownBlock ∧ some k_ ≠ (.slice AoZ88 t210.length coZ89 : Value).ownBlock ∧ some k_ ≠ (.slice AoZ97 t217.length coZ98 : Value).ownBlock) (Kd.R_keptB ((Kd.R_apart' HO188.out (Kd.R_typed HO198.out) (by decide))) hkp (fun k_ hk_ hs_ => Or.elim hs_ (fun e_ => (hk_.2) e_) (fun e_ => (hk_.1.2.2.2.1) e_))) (fun k_ hk_ => ⟨hk_.1.1.1, hk_.1.1.2.1, hk_.1.1.2.2.1, hk_.1.1.2.2.2.1, hk_.1.1.2.2.2.2.1, hk_.1.1.2.2.2.2.2.1, hk_.1.1.2.2.2.2.2.2⟩)); have n7_ := Aside0.mk (Kd.Q_mono (ok' := fun k_ => some k_ ≠ (.slice AoZ17 t174.length coZ18 : Value).ownBlock ∧ some k_ ≠ (.slice AoZ23 t180.length coZ24 : Value).ownBlock ∧ some k_ ≠ (.slice AoZ56 t196.length coZ57 : Value).ownBlock ∧ some k_ ≠ (.slice AoZ85 t207.length coZ86 : Value).ownBlock ∧ some k_ ≠ (.slice AoZ94 t214.length coZ95 : Value).ownBlock) (Kd.Q_keptB ((Kd.Q_apart' HO191.out (Kd.R_typed HO201.out) (by decide))) hkp (fun k_ hk_ hs_ => Or.elim hs_ (fun e_ => (hk_.1.1.1.2) e_) (fun e_ => (hk_.2) e_))) (fun k_ hk_ => ⟨hk_.1.1.1.1.1.1.2, hk_.1.1.1.1.1.2, hk_.1.1.1.1.2, hk_.1.1.1.2, hk_.1.1.2⟩)); have n8_ := Aside0.mk (Kd.Q_mono (ok' := fun k_ => some k_ ≠ (.slice AoZ20 t177.length coZ21 : Value).ownBlock ∧ some k_ ≠ (.slice AoZ26 t183.length coZ27 : Value).ownBlock ∧ some k_ ≠ (.slice AoZ80 t186.length coZ81 : Value).ownBlock ∧ some k_ ≠ (.slice AoZ69 t199.length coZ70 : Value).ownBlock ∧ some k_ ≠ (.slice AoZ77 t203.length coZ78 : Value).ownBlock ∧ some k_ ≠ (.slice AoZ88 t210.length coZ89 : Value).ownBlock ∧ some k_ ≠ (.slice AoZ97 t217.length coZ98 : Value).ownBlock) (Kd.Q_keptB ((Kd.Q_apart' HO194.out (Kd.R_typed HO198.out) (by decide))) hkp (fun k_ hk_ hs_ => Or.elim hs_ (fun e_ => (hk_.2) e_) (fun e_ => (hk_.1.1.1.1.2) e_))) (fun k_ hk_ => ⟨hk_.1.1.1.1.1.1.1.1.2, hk_.1.1.1.1.1.1.1.2, hk_.1.1.1.1.1.1.2, hk_.1.1.1.1.1.2, hk_.1.1.1.1.2, hk_.1.1.1.2, hk_.1.1.2⟩)); have n9_ := Aside0.mk (blk_kept (by st4_; exact BK195.out) hkp (fun hs_ => Or.elim hs_ (fun e_ => (fun e_ => (Kd.R_ne HO198.out BK195.out (by decide)) e_) e_) (fun e_ => (fun e_ => (Kd.R_ne HO201.out BK195.out (by decide)) e_) e_))); have n10_ := Aside0.mk (Kd.Q_reok rfl hy0 (fun k_ e_ => HO198.out.1 k_ e_)); have n11_ := Aside0.mk (Kd.Q_reok rfl hy1 (fun k_ e_ => HO201.out.1 k_ e_)); have n12_ := Aside0.mk (blk_kept (by st4_; exact BK202.out) hkp (fun hs_ => Or.elim hs_ (fun e_ => (fun e_ => (Kd.R_ne HO198.out BK202.out (by decide)) e_) e_) (fun e_ => (fun e_ => (Kd.R_ne HO201.out BK202.out (by decide)) e_) e_))); have n13_ := Aside0.mk (Kd.Q_mono (ok' := fun k_ => some k_ ≠ (.slice AoZ20 t177.length coZ21 : Value).ownBlock ∧ some k_ ≠ (.slice AoZ26 t183.length coZ27 : Value).ownBlock ∧ some k_ ≠ (.slice AoZ80 t186.length coZ81 : Value).ownBlock ∧ some k_ ≠ (.slice AoZ47 t192.length coZ48 : Value).ownBlock ∧ some k_ ≠ (.slice AoZ69 t199.length coZ70 : Value).ownBlock ∧ some k_ ≠ (.slice AoZ88 t210.length coZ89 : Value).ownBlock ∧ some k_ ≠ (.slice AoZ97 t217.length coZ98 : Value).ownBlock) (Kd.Q_keptB ((Kd.Q_apart' HO205.out (Kd.R_typed HO198.out) (by decide))) hkp (fun k_ hk_ hs_ => Or.elim hs_ (fun e_ => (hk_.2) e_) (fun e_ => (hk_.1.2.2.2.2.1) e_))) (fun k_ hk_ => ⟨hk_.1.1.1, hk_.1.1.2.1, hk_.1.1.2.2.1, hk_.1.1.2.2.2.1, hk_.1.1.2.2.2.2.1, hk_.1.1.2.2.2.2.2.1, hk_.1.1.2.2.2.2.2.2⟩)); have n14_ := Aside0.mk (Kd.R_mono (ok' := fun k_ => some k_ ≠ (.slice AoZ17 t174.length coZ18 : Value).ownBlock ∧ some k_ ≠ (.slice AoZ23 t180.length coZ24 : Value).ownBlock ∧ some k_ ≠ (.slice AoZ36 t189.length coZ37 : Value).ownBlock ∧ some k_ ≠ (.slice AoZ56 t196.length coZ57 : Value).ownBlock ∧ some k_ ≠ (.slice AoZ94 t214.length coZ95 : Value).ownBlock) (Kd.R_keptB ((Kd.R_apart' HO209.out (Kd.R_typed HO201.out) (by decide))) hkp (fun k_ hk_ hs_ => Or.elim hs_ (fun e_ => (hk_.1.2.2.2.1) e_) (fun e_ => (hk_.2) e_))) (fun k_ hk_ => ⟨hk_.1.1.1, hk_.1.1.2.1, hk_.1.1.2.2.1, hk_.1.1.2.2.2.1, hk_.1.1.2.2.2.2⟩)); have n15_ := Aside0.mk (Kd.R_mono (ok' := fun k_ => some k_ ≠ (.slice AoZ20 t177.length coZ21 : Value).ownBlock ∧ some k_ ≠ (.slice AoZ26 t183.length coZ27 : Value).ownBlock ∧ some k_ ≠ (.slice AoZ80 t186.length coZ81 : Value).ownBlock ∧ some k_ ≠ (.slice AoZ47 t192.length coZ48 : Value).ownBlock ∧ some k_ ≠ (.slice AoZ69 t199.length coZ70 : Value).ownBlock ∧ some k_ ≠ (.slice AoZ77 t203.length coZ78 : Value).ownBlock ∧ some k_ ≠ (.slice AoZ97 t217.length coZ98 : Value).ownBlock) (Kd.R_keptB ((Kd.R_apart' HO212.out (Kd.R_typed HO198.out) (by decide))) hkp (fun k_ hk_ hs_ => Or.elim hs_ (fun e_ => (hk_.2) e_) (fun e_ => (hk_.1.2.2.2.2.1) e_))) (fun k_ hk_ => ⟨hk_.1.1.1, hk_.1.1.2.1, hk_.1.1.2.2.1, hk_.1.1.2.2.2.1, hk_.1.1.2.2.2.2.1, hk_.1.1.2.2.2.2.2.1, hk_.1.1.2.2.2.2.2.2⟩)); have n16_ := Aside0.mk (Kd.R_mono (ok' := fun k_ => some k_ ≠ (.slice AoZ17 t174.length coZ18 : Value).ownBlock ∧ some k_ ≠ (.slice AoZ23 t180.length coZ24 : Value).ownBlock ∧ some k_ ≠ (.slice AoZ36 t189.length coZ37 : Value).ownBlock ∧ some k_ ≠ (.slice AoZ56 t196.length coZ57 : Value).ownBlock ∧ some k_ ≠ (.slice AoZ85 t207.length coZ86 : Value).ownBlock) (Kd.R_keptB ((Kd.R_apart' HO216.out (Kd.R_typed HO201.out) (by decide))) hkp (fun k_ hk_ hs_ => Or.elim hs_ (fun e_ => (hk_.1.2.2.2.1) e_) (fun e_ => (hk_.2) e_))) (fun k_ hk_ => ⟨hk_.1.1.1, hk_.1.1.2.1, hk_.1.1.2.2.1, hk_.1.1.2.2.2.1, hk_.1.1.2.2.2.2⟩)); have n17_ := Aside0.mk (Kd.R_mono (ok' := fun k_ => some k_ ≠ (.slice AoZ20 t177.length coZ21 : Value).ownBlock ∧ some k_ ≠ (.slice AoZ26 t183.length coZ27 : Value).ownBlock ∧ some k_ ≠ (.slice AoZ80 t186.length coZ81 : Value).ownBlock ∧ some k_ ≠ (.slice AoZ47 t192.length coZ48 : Value).ownBlock ∧ some k_ ≠ (.slice AoZ69 t199.length coZ70 : Value).ownBlock ∧ some k_ ≠ (.slice AoZ77 t203.length coZ78 : Value).ownBlock ∧ some k_ ≠ (.slice AoZ88 t210.length coZ89 : Value).ownBlock) (Kd.R_keptB ((Kd.R_apart' HO219.out (Kd.R_typed HO198.out) (by decide))) hkp (fun k_ hk_ hs_ => Or.elim hs_ (fun e_ => (hk_.2) e_) (fun e_ => (hk_.1.2.2.2.2.1) e_))) (fun k_ hk_ => ⟨hk_.1.1.1, hk_.1.1.2.1, hk_.1.1.2.2.1, hk_.1.1.2.2.2.1, hk_.1.1.2.2.2.2.1, hk_.1.1.2.2.2.2.2.1, hk_.1.1.2.2.2.2.2.2⟩)); have n18_ := Aside0.mk (hb); clear BK170; clear BK171; clear HO176; clear HO179; clear HO182; clear HO185; clear HO188; clear HO191; clear HO194; clear BK195; clear HO198; clear HO201; clear BK202; clear HO205; clear HO209; clear HO212; clear HO216; clear HO219; clear HB; have BK170 := n0_; have BK171 := n1_; have HO176 := n2_; have HO179 := n3_; have HO182 := n4_; have HO185 := n5_; have HO188 := n6_; have HO191 := n7_; have HO194 := n8_; have BK195 := n9_; have HO198 := n10_; have HO201 := n11_; have BK202 := n12_; have HO205 := n13_; have HO209 := n14_; have HO212 := n15_; have HO216 := n16_; have HO219 := n17_; have HB := n18_; clear n0_ n1_ n2_ n3_ n4_ n5_ n6_ n7_ n8_ n9_ n10_ n11_ n12_ n13_ n14_ n15_ n16_ n17_ n18_; (try clear hb); (try clear hkp); (try clear hy0); (try clear hy1)))
            (try simp only [Act.put, List.setIfInBounds_toArray, List.set_cons_zero, List.set_cons_succ])
            go_cut [63] (fun vZ111 wc => ∃ (kq : Nat) (x63_34 : Bool), vZ111 = .bool x63_34 ∧ Aside0 (laws_FnExactChangedBits.j0 kq t186 t203 x63_34 l0_0 l0_1 l1_0 l1_1 = some r) ∧ Aside0 (kq ≤ k) ∧ Aside0 (Kd.R (Kd.int .i64) 3 wc w.heap.size (fun k_ => some k_ ≠ ((.slice AoZ77 t203.length coZ78) : Value).ownBlock ∧ some k_ ≠ ((.slice AoZ47 t192.length coZ48) : Value).ownBlock ∧ some k_ ≠ ((.slice AoZ69 t199.length coZ70) : Value).ownBlock) (.slice AoZ80 t186.length coZ81) t186) ∧ Aside0 (Kd.Q (Kd.int .i64) 3 wc w.heap.size (fun k_ => some k_ ≠ ((.slice AoZ80 t186.length coZ81) : Value).ownBlock ∧ some k_ ≠ ((.slice AoZ47 t192.length coZ48) : Value).ownBlock ∧ some k_ ≠ ((.slice AoZ69 t199.length coZ70) : Value).ownBlock) (.slice AoZ77 t203.length coZ78) t203) ∧ Aside0 (Kd.Q Kd.bool 4 wc w.heap.size (fun k_ => some k_ ≠ ((.slice AoZ56 t196.length coZ57) : Value).ownBlock) (.slice AoZ36 t189.length coZ37) t222) ∧ Aside0 (Kd.Q (Kd.int .i64) 3 wc w.heap.size (fun k_ => some k_ ≠ ((.slice AoZ80 t186.length coZ81) : Value).ownBlock ∧ some k_ ≠ ((.slice AoZ77 t203.length coZ78) : Value).ownBlock ∧ some k_ ≠ ((.slice AoZ69 t199.length coZ70) : Value).ownBlock) (.slice AoZ47 t192.length coZ48) t223) ∧ Aside0 (Kd.Q Kd.bool 4 wc w.heap.size (fun k_ => some k_ ≠ ((.slice AoZ36 t189.length coZ37) : Value).ownBlock) (.slice AoZ56 t196.length coZ57) t225) ∧ Aside0 (Kd.Q (Kd.int .i64) 3 wc w.heap.size (fun k_ => some k_ ≠ ((.slice AoZ80 t186.length coZ81) : Value).ownBlock ∧ some k_ ≠ ((.slice AoZ77 t203.length coZ78) : Value).ownBlock ∧ some k_ ≠ ((.slice AoZ47 t192.length coZ48) : Value).ownBlock) (.slice AoZ69 t199.length coZ70) t226) ∧ Aside0 (wc.heap[gb170]? = some (.cells #[(.slice A0_0 l0_0.length c0_0), (.slice A0_1 l0_1.length c0_1)] 62 (0, 0))) ∧ Aside0 (wc.heap[gb171]? = some (.cells #[(.slice A1_0 l1_0.length c1_0), (.slice A1_1 l1_1.length c1_1)] 62 (0, 0))) ∧ Aside0 (wc.heap[gb195]? = some (.cells #[(.slice AoZ36 t189.length coZ37), (.slice AoZ47 t192.length coZ48)] 65 (0, 0))) ∧ Aside0 (wc.heap[gb202]? = some (.cells #[(.slice AoZ56 t196.length coZ57), (.slice AoZ69 t199.length coZ70)] 65 (0, 0))) ∧ Aside0 (Below w.heap.size w wc))
            case first =>
              have H := HC35.out
              clear HC35
              by_cases c86 : t224 < 0
              · rw [if_pos c86] at H
                have c86b0 : decide (t224 < 0) = true := decide_eq_true c86
                clear c86
                (first | rw [c86b0] | (simp only [i64_w, i32_w]; rw [c86b0]) | skip)
                have H' := Aside0.mk H
                clear H
                go_wp2
                go_meet
                case rel => exact ⟨_, (true), (by first | rfl | (simp; done) | (simp [*]; done)), H', ⟨by first | omega | exact Nat.le_refl _⟩, ⟨by st3_; exact Kd.R_mono HO188.out (fun _ hk => ⟨hk.2.2.2.2.1, ⟨hk.2.2.1, hk.2.2.2.1⟩⟩)⟩, ⟨by st6_; exact Kd.Q_mono HO205.out (fun _ hk => ⟨hk.2.2.1, ⟨hk.2.2.2.1, hk.2.2.2.2.1⟩⟩)⟩, ⟨by st6_; exact Kd.Q_mono HO191.out (fun _ hk => hk.2.2.1)⟩, ⟨by st6_; exact Kd.Q_mono HO194.out (fun _ hk => ⟨hk.2.2.1, ⟨hk.2.2.2.2.1, hk.2.2.2.1⟩⟩)⟩, ⟨by st6_; exact Kd.Q_mono HO198.out (fun _ hk => hk.2.2.1)⟩, ⟨by st6_; exact Kd.Q_mono HO201.out (fun _ hk => ⟨hk.2.2.1, ⟨hk.2.2.2.2.1, hk.2.2.2.1⟩⟩)⟩, ⟨by st4_; exact BK170.out⟩, ⟨by st4_; exact BK171.out⟩, ⟨by st4_; exact BK195.out⟩, ⟨by st4_; exact BK202.out⟩, ⟨by repeat st5_⟩⟩
              · rw [if_neg c86] at H
                have c86b0 : decide (t224 < 0) = false := decide_eq_false c86
                clear c86
                (first | rw [c86b0] | (simp only [i64_w, i32_w]; rw [c86b0]) | skip)
                st36_
                obtain ⟨t227, A870, H⟩ := H
                replace H : (laws_FnExactChangedBits.j0 k t186 t203 (!t227) l0_0 l0_1 l1_0 l1_1) = some r := H
                have A87 := Aside0.mk A870
                clear A870
                have H' := Aside0.mk H
                clear H
                go_wp2_with (first | (go_at_call 19; (with_reducible refine (laws_eqIntS.calls k _ _ t203 _ _ t186 t227 _ ?side1 ?side2 ?side3 ?side4 A87.out).mono ?_); (case side1 => repeat (first | exact (Kd.Q_reads' HO205.out).2.2 | (with_reducible refine Kd.C_alloc ?_ _) | (with_reducible refine Kd.C_drewN ?_ _) | (with_reducible refine Kd.C_drew ?_))); (case side2 => exact (Kd.Q_reads' HO205.out).2.1); (case side3 => repeat (first | exact (Kd.R_reads' HO188.out).2.2 | (with_reducible refine Kd.C_alloc ?_ _) | (with_reducible refine Kd.C_drewN ?_ _) | (with_reducible refine Kd.C_drew ?_))); (case side4 => exact (Kd.R_reads' HO188.out).2.1); rintro e w' ⟨rfl, ⟨nd, rfl⟩⟩))
                go_meet
                case rel => exact ⟨_, (!t227), (by first | rfl | (simp; done) | (simp [*]; done)), H', ⟨by first | omega | exact Nat.le_refl _⟩, ⟨by st3_; exact Kd.R_mono HO188.out (fun _ hk => ⟨hk.2.2.2.2.1, ⟨hk.2.2.1, hk.2.2.2.1⟩⟩)⟩, ⟨by st6_; exact Kd.Q_mono HO205.out (fun _ hk => ⟨hk.2.2.1, ⟨hk.2.2.2.1, hk.2.2.2.2.1⟩⟩)⟩, ⟨by st6_; exact Kd.Q_mono HO191.out (fun _ hk => hk.2.2.1)⟩, ⟨by st6_; exact Kd.Q_mono HO194.out (fun _ hk => ⟨hk.2.2.1, ⟨hk.2.2.2.2.1, hk.2.2.2.1⟩⟩)⟩, ⟨by st6_; exact Kd.Q_mono HO198.out (fun _ hk => hk.2.2.1)⟩, ⟨by st6_; exact Kd.Q_mono HO201.out (fun _ hk => ⟨hk.2.2.1, ⟨hk.2.2.2.2.1, hk.2.2.2.1⟩⟩)⟩, ⟨by st4_; exact BK170.out⟩, ⟨by st4_; exact BK171.out⟩, ⟨by st4_; exact BK195.out⟩, ⟨by st4_; exact BK202.out⟩, ⟨by repeat st5_⟩⟩
            case rest =>
              clear HC35
              try clear c1
              try clear p2
              try clear c5
              try clear c6
              try clear c8
              try clear c19
              try clear c53
              try clear c55
              try clear c56
              try clear c58
              try clear c59
              try clear c60
              try clear c63
              try clear c64
              try clear c65
              try clear c86
              try clear c86b0
              try clear hczZ30
              try clear hczZ31
              try clear hczZ43
              try clear hczZ44
              try clear hczZ50
              try clear hczZ51
              try clear hczZ65
              try clear hczZ66
              try clear hczZ72
              try clear hczZ73
              try clear hczZ101
              try clear hczZ102
              try clear hczZ106
              try clear hczZ107
              try clear hfzZ32
              try clear hfzZ33
              try clear hfzZ45
              try clear hfzZ46
              try clear hfzZ52
              try clear hfzZ53
              try clear hfzZ67
              try clear hfzZ68
              try clear hfzZ74
              try clear hfzZ75
              try clear hfzZ103
              try clear hfzZ104
              try clear hfzZ108
              try clear hfzZ109
              obtain ⟨kq, x63_34, rfl, HA, HJ34, HO_6, HO_9, HO_196000, HO_196001, HO_203000, HO_203001, BK170, BK171, BK195, BK202, HB⟩ := hcut
              have hl196000_34 := (Kd.Q_reads' HO_196000.out).1
              rw [hl196000_34] at HO_196000
              (try simp only [hl196000_34])
              (try simp only [hl196000_34] at BK170)
              (try simp only [hl196000_34] at BK171)
              (try simp only [hl196000_34] at BK195)
              (try simp only [hl196000_34] at BK202)
              (try simp only [hl196000_34] at HO_6)
              (try simp only [hl196000_34] at HO_9)
              (try simp only [hl196000_34] at HO_196001)
              (try simp only [hl196000_34] at HO_203000)
              (try simp only [hl196000_34] at HO_203001)
              have hl196001_34 := (Kd.Q_reads' HO_196001.out).1
              rw [hl196001_34] at HO_196001
              (try simp only [hl196001_34])
              (try simp only [hl196001_34] at BK170)
              (try simp only [hl196001_34] at BK171)
              (try simp only [hl196001_34] at BK195)
              (try simp only [hl196001_34] at BK202)
              (try simp only [hl196001_34] at HO_6)
              (try simp only [hl196001_34] at HO_9)
              (try simp only [hl196001_34] at HO_196000)
              (try simp only [hl196001_34] at HO_203000)
              (try simp only [hl196001_34] at HO_203001)
              have hl203000_34 := (Kd.Q_reads' HO_203000.out).1
              rw [hl203000_34] at HO_203000
              (try simp only [hl203000_34])
              (try simp only [hl203000_34] at BK170)
              (try simp only [hl203000_34] at BK171)
              (try simp only [hl203000_34] at BK195)
              (try simp only [hl203000_34] at BK202)
              (try simp only [hl203000_34] at HO_6)
              (try simp only [hl203000_34] at HO_9)
              (try simp only [hl203000_34] at HO_196000)
              (try simp only [hl203000_34] at HO_196001)
              (try simp only [hl203000_34] at HO_203001)
              have hl203001_34 := (Kd.Q_reads' HO_203001.out).1
              rw [hl203001_34] at HO_203001
              (try simp only [hl203001_34])
              (try simp only [hl203001_34] at BK170)
              (try simp only [hl203001_34] at BK171)
              (try simp only [hl203001_34] at BK195)
              (try simp only [hl203001_34] at BK202)
              (try simp only [hl203001_34] at HO_6)
              (try simp only [hl203001_34] at HO_9)
              (try simp only [hl203001_34] at HO_196000)
              (try simp only [hl203001_34] at HO_196001)
              (try simp only [hl203001_34] at HO_203000)
              cases kq with
              | zero => exact absurd HA.out (by simp [laws_FnExactChangedBits.j0])
              | succ kj34 =>
                have H := HA.out
                clear HA
                simp only [laws_FnExactChangedBits.j0] at H
                by_cases c88 : x63_34 = true
                · subst c88
                  have H1 : (some false) = some r := by rw [if_pos rfl] at H; exact H
                  clear H
                  have H := H1
                  clear H1
                  obtain rfl := Option.some.inj H
                  go_wp2
                  go_ret
                  st39_
                · replace c88 := Bool.eq_false_iff.mpr c88
                  subst c88
                  have H1 : ((laws_markIntS.f kj34 t203 1).bind fun bt228 => ((laws_heldIntS.f kj34 bt228.2 1).bind fun t230 => (if t230 < 0 then (some false) else (if t230 = bt228.1 then ((laws_toImage.f kj34 l0_0 l0_1).bind fun bt231 => ((laws_toImage.f kj34 l1_0 l1_1).bind fun bt237 => ((impl_ChangedBits.f kj34 bt231.1 bt231.2 bt237.1 bt237.2).bind fun t243 => ((laws_eqIntS.f kj34 t243 t186).bind fun t246 => (if t246 = true then ((laws_heldIntS.f kj34 bt228.2 1).bind fun t247 => (if t247 < 0 then (some false) else (if t247 = bt228.1 then (some true) else (some false)))) else (some false)))))) else (some false))))) = some r := by rw [if_neg (show ¬ (false = true) by decide)] at H; exact H
                  clear H
                  have H := H1
                  clear H1
                  st36_
                  obtain ⟨⟨t228, t229⟩, A890, H⟩ := H
                  replace H : ((laws_heldIntS.f kj34 t229 1).bind fun t230 => (if t230 < 0 then (some false) else (if t230 = t228 then ((laws_toImage.f kj34 l0_0 l0_1).bind fun bt231 => ((laws_toImage.f kj34 l1_0 l1_1).bind fun bt237 => ((impl_ChangedBits.f kj34 bt231.1 bt231.2 bt237.1 bt237.2).bind fun t243 => ((laws_eqIntS.f kj34 t243 t186).bind fun t246 => (if t246 = true then ((laws_heldIntS.f kj34 t229 1).bind fun t247 => (if t247 < 0 then (some false) else (if t247 = t228 then (some true) else (some false)))) else (some false)))))) else (some false)))) = some r := H
                  have A89 := Aside0.mk A890
                  clear A890
                  st36_
                  obtain ⟨t230, A900, H⟩ := H
                  replace H : (if t230 < 0 then (some false) else (if t230 = t228 then ((laws_toImage.f kj34 l0_0 l0_1).bind fun bt231 => ((laws_toImage.f kj34 l1_0 l1_1).bind fun bt237 => ((impl_ChangedBits.f kj34 bt231.1 bt231.2 bt237.1 bt237.2).bind fun t243 => ((laws_eqIntS.f kj34 t243 t186).bind fun t246 => (if t246 = true then ((laws_heldIntS.f kj34 t229 1).bind fun t247 => (if t247 < 0 then (some false) else (if t247 = t228 then (some true) else (some false)))) else (some false)))))) else (some false))) = some r := H
                  have A90 := Aside0.mk A900
                  clear A900
                  by_cases c91 : t230 < 0
                  · rw [if_pos c91] at H
                    have c91b0 : decide (t230 < 0) = true := decide_eq_true c91
                    clear c91
                    obtain rfl := Option.some.inj H
                    go_wp2_with (first | ((with_reducible refine gate_callee (f := 22) rfl ?_); refine goesL_ (some 66) rfl rfl Try.func22 (by kernel_rfl) rfl #[.slice AoZ77 t203.length coZ78, .int .i64 1] rfl sq9_ ?_; st17_; (case side1 => repeat st5_); (case side2 => exact Kd.Q_tight rfl HO_9.out); rintro e wZ112 ⟨rfl, hy0, hb, hkp⟩; refine ⟨_, rfl, ?_⟩; have n0_ := Aside0.mk (Kd.R_mono (ok' := fun k_ => some k_ ≠ (.slice AoZ77 t203.length coZ78 : Value).ownBlock ∧ some k_ ≠ (.slice AoZ47 t223.length coZ48 : Value).ownBlock ∧ some k_ ≠ (.slice AoZ69 t226.length coZ70 : Value).ownBlock) (Kd.R_keptB (HO_6.out) hkp (fun k_ hk_ hs_ => (hk_.1) hs_)) (fun k_ hk_ => ⟨hk_.1.1, hk_.1.2.1, hk_.1.2.2⟩)); have n1_ := Aside0.mk (Kd.Q_reok rfl hy0 (fun k_ e_ => HO_9.out.1 k_ e_)); have n2_ := Aside0.mk (Kd.Q_mono (ok' := fun k_ => some k_ ≠ (.slice AoZ56 t225.length coZ57 : Value).ownBlock) (Kd.Q_keptB ((Kd.Q_apart' HO_196000.out (Kd.Q_typed HO_9.out) (by decide))) hkp (fun k_ hk_ hs_ => (hk_.2) hs_)) (fun k_ hk_ => hk_.1.1)); have n3_ := Aside0.mk (Kd.Q_mono (ok' := fun k_ => some k_ ≠ (.slice AoZ80 t186.length coZ81 : Value).ownBlock ∧ some k_ ≠ (.slice AoZ77 t203.length coZ78 : Value).ownBlock ∧ some k_ ≠ (.slice AoZ69 t226.length coZ70 : Value).ownBlock) (Kd.Q_keptB (HO_196001.out) hkp (fun k_ hk_ hs_ => (hk_.2.1) hs_)) (fun k_ hk_ => ⟨hk_.1.1, hk_.1.2.1, hk_.1.2.2⟩)); have n4_ := Aside0.mk (Kd.Q_mono (ok' := fun k_ => some k_ ≠ (.slice AoZ36 t222.length coZ37 : Value).ownBlock) (Kd.Q_keptB ((Kd.Q_apart' HO_203000.out (Kd.Q_typed HO_9.out) (by decide))) hkp (fun k_ hk_ hs_ => (hk_.2) hs_)) (fun k_ hk_ => hk_.1.1)); have n5_ := Aside0.mk (Kd.Q_mono (ok' := fun k_ => some k_ ≠ (.slice AoZ80 t186.length coZ81 : Value).ownBlock ∧ some k_ ≠ (.slice AoZ77 t203.length coZ78 : Value).ownBlock ∧ some k_ ≠ (.slice AoZ47 t223.length coZ48 : Value).ownBlock) (Kd.Q_keptB (HO_203001.out) hkp (fun k_ hk_ hs_ => (hk_.2.1) hs_)) (fun k_ hk_ => ⟨hk_.1.1, hk_.1.2.1, hk_.1.2.2⟩)); have n6_ := Aside0.mk (blk_kept (by st4_; exact BK170.out) hkp (fun hs_ => (fun e_ => (Kd.Q_ne HO_9.out BK170.out (by decide)) e_) hs_)); have n7_ := Aside0.mk (blk_kept (by st4_; exact BK171.out) hkp (fun hs_ => (fun e_ => (Kd.Q_ne HO_9.out BK171.out (by decide)) e_) hs_)); have n8_ := Aside0.mk (blk_kept (by st4_; exact BK195.out) hkp (fun hs_ => (fun e_ => (Kd.Q_ne HO_9.out BK195.out (by decide)) e_) hs_)); have n9_ := Aside0.mk (blk_kept (by st4_; exact BK202.out) hkp (fun hs_ => (fun e_ => (Kd.Q_ne HO_9.out BK202.out (by decide)) e_) hs_)); have n10_ := Aside0.mk (hb); clear HO_6; clear HO_9; clear HO_196000; clear HO_196001; clear HO_203000; clear HO_203001; clear BK170; clear BK171; clear BK195; clear BK202; clear HB; have HO_6 := n0_; have HO_9 := n1_; have HO_196000 := n2_; have HO_196001 := n3_; have HO_203000 := n4_; have HO_203001 := n5_; have BK170 := n6_; have BK171 := n7_; have BK195 := n8_; have BK202 := n9_; have HB := n10_; clear n0_ n1_ n2_ n3_ n4_ n5_ n6_ n7_ n8_ n9_ n10_; (try clear hb); (try clear hkp); (try clear hy0)) | st10_)
                    go_ret
                    st39_
                  · rw [if_neg c91] at H
                    have c91b0 : decide (t230 < 0) = false := decide_eq_false c91
                    clear c91
                    by_cases c93 : t230 = t228
                    · rw [if_pos c93] at H
                      have c93b0 : (t230 == t228) = true := beq_iff_eq.mpr c93
                      have c93b1 : (t230 != t228) = false := bne_eq_false_iff_eq.mpr c93
                      clear c93
                      st36_
                      obtain ⟨⟨t231, t234⟩, A940, H⟩ := H
                      replace H : ((laws_toImage.f kj34 l1_0 l1_1).bind fun bt237 => ((impl_ChangedBits.f kj34 t231 t234 bt237.1 bt237.2).bind fun t243 => ((laws_eqIntS.f kj34 t243 t186).bind fun t246 => (if t246 = true then ((laws_heldIntS.f kj34 t229 1).bind fun t247 => (if t247 < 0 then (some false) else (if t247 = t228 then (some true) else (some false)))) else (some false))))) = some r := H
                      have A94 := Aside0.mk A940
                      clear A940
                      st36_
                      obtain ⟨⟨t237, t240⟩, A950, H⟩ := H
                      replace H : ((impl_ChangedBits.f kj34 t231 t234 t237 t240).bind fun t243 => ((laws_eqIntS.f kj34 t243 t186).bind fun t246 => (if t246 = true then ((laws_heldIntS.f kj34 t229 1).bind fun t247 => (if t247 < 0 then (some false) else (if t247 = t228 then (some true) else (some false)))) else (some false)))) = some r := H
                      have A95 := Aside0.mk A950
                      clear A950
                      st36_
                      obtain ⟨t243, A960, H⟩ := H
                      replace H : ((laws_eqIntS.f kj34 t243 t186).bind fun t246 => (if t246 = true then ((laws_heldIntS.f kj34 t229 1).bind fun t247 => (if t247 < 0 then (some false) else (if t247 = t228 then (some true) else (some false)))) else (some false))) = some r := H
                      have A96 := Aside0.mk A960
                      clear A960
                      st36_
                      obtain ⟨t246, A970, H⟩ := H
                      replace H : (if t246 = true then ((laws_heldIntS.f kj34 t229 1).bind fun t247 => (if t247 < 0 then (some false) else (if t247 = t228 then (some true) else (some false)))) else (some false)) = some r := H
                      have A97 := Aside0.mk A970
                      clear A970
                      by_cases c98 : t246 = true
                      · subst c98
                        have H1 : ((laws_heldIntS.f kj34 t229 1).bind fun t247 => (if t247 < 0 then (some false) else (if t247 = t228 then (some true) else (some false)))) = some r := by rw [if_pos rfl] at H; exact H
                        clear H
                        have H := H1
                        clear H1
                        st36_
                        obtain ⟨t247, A990, H⟩ := H
                        replace H : (if t247 < 0 then (some false) else (if t247 = t228 then (some true) else (some false))) = some r := H
                        have A99 := Aside0.mk A990
                        clear A990
                        by_cases c100 : t247 < 0
                        · rw [if_pos c100] at H
                          have c100b0 : decide (t247 < 0) = true := decide_eq_true c100
                          clear c100
                          obtain rfl := Option.some.inj H
                          try go_wp2_with (first | ((with_reducible refine gate_callee (f := 22) rfl ?_); refine goesL_ (some 66) rfl rfl Try.func22 (by kernel_rfl) rfl #[.slice AoZ77 t203.length coZ78, .int .i64 1] rfl sq9_ ?_; st17_; (case side1 => repeat st5_); (case side2 => exact Kd.Q_tight rfl HO_9.out); rintro e wZ113 ⟨rfl, hy0, hb, hkp⟩; refine ⟨_, rfl, ?_⟩; have n0_ := Aside0.mk (Kd.R_mono (ok' := fun k_ => some k_ ≠ (.slice AoZ77 t203.length coZ78 : Value).ownBlock ∧ some k_ ≠ (.slice AoZ47 t223.length coZ48 : Value).ownBlock ∧ some k_ ≠ (.slice AoZ69 t226.length coZ70 : Value).ownBlock) (Kd.R_keptB (HO_6.out) hkp (fun k_ hk_ hs_ => (hk_.1) hs_)) (fun k_ hk_ => ⟨hk_.1.1, hk_.1.2.1, hk_.1.2.2⟩)); have n1_ := Aside0.mk (Kd.Q_reok rfl hy0 (fun k_ e_ => HO_9.out.1 k_ e_)); have n2_ := Aside0.mk (Kd.Q_mono (ok' := fun k_ => some k_ ≠ (.slice AoZ56 t225.length coZ57 : Value).ownBlock) (Kd.Q_keptB ((Kd.Q_apart' HO_196000.out (Kd.Q_typed HO_9.out) (by decide))) hkp (fun k_ hk_ hs_ => (hk_.2) hs_)) (fun k_ hk_ => hk_.1.1)); have n3_ := Aside0.mk (Kd.Q_mono (ok' := fun k_ => some k_ ≠ (.slice AoZ80 t186.length coZ81 : Value).ownBlock ∧ some k_ ≠ (.slice AoZ77 t203.length coZ78 : Value).ownBlock ∧ some k_ ≠ (.slice AoZ69 t226.length coZ70 : Value).ownBlock) (Kd.Q_keptB (HO_196001.out) hkp (fun k_ hk_ hs_ => (hk_.2.1) hs_)) (fun k_ hk_ => ⟨hk_.1.1, hk_.1.2.1, hk_.1.2.2⟩)); have n4_ := Aside0.mk (Kd.Q_mono (ok' := fun k_ => some k_ ≠ (.slice AoZ36 t222.length coZ37 : Value).ownBlock) (Kd.Q_keptB ((Kd.Q_apart' HO_203000.out (Kd.Q_typed HO_9.out) (by decide))) hkp (fun k_ hk_ hs_ => (hk_.2) hs_)) (fun k_ hk_ => hk_.1.1)); have n5_ := Aside0.mk (Kd.Q_mono (ok' := fun k_ => some k_ ≠ (.slice AoZ80 t186.length coZ81 : Value).ownBlock ∧ some k_ ≠ (.slice AoZ77 t203.length coZ78 : Value).ownBlock ∧ some k_ ≠ (.slice AoZ47 t223.length coZ48 : Value).ownBlock) (Kd.Q_keptB (HO_203001.out) hkp (fun k_ hk_ hs_ => (hk_.2.1) hs_)) (fun k_ hk_ => ⟨hk_.1.1, hk_.1.2.1, hk_.1.2.2⟩)); have n6_ := Aside0.mk (blk_kept (by st4_; exact BK170.out) hkp (fun hs_ => (fun e_ => (Kd.Q_ne HO_9.out BK170.out (by decide)) e_) hs_)); have n7_ := Aside0.mk (blk_kept (by st4_; exact BK171.out) hkp (fun hs_ => (fun e_ => (Kd.Q_ne HO_9.out BK171.out (by decide)) e_) hs_)); have n8_ := Aside0.mk (blk_kept (by st4_; exact BK195.out) hkp (fun hs_ => (fun e_ => (Kd.Q_ne HO_9.out BK195.out (by decide)) e_) hs_)); have n9_ := Aside0.mk (blk_kept (by st4_; exact BK202.out) hkp (fun hs_ => (fun e_ => (Kd.Q_ne HO_9.out BK202.out (by decide)) e_) hs_)); have n10_ := Aside0.mk (hb); clear HO_6; clear HO_9; clear HO_196000; clear HO_196001; clear HO_203000; clear HO_203001; clear BK170; clear BK171; clear BK195; clear BK202; clear HB; have HO_6 := n0_; have HO_9 := n1_; have HO_196000 := n2_; have HO_196001 := n3_; have HO_203000 := n4_; have HO_203001 := n5_; have BK170 := n6_; have BK171 := n7_; have BK195 := n8_; have BK202 := n9_; have HB := n10_; clear n0_ n1_ n2_ n3_ n4_ n5_ n6_ n7_ n8_ n9_ n10_; (try clear hb); (try clear hkp); (try clear hy0)) | st10_)
                          (try (rw [drewN_self wZ113]; generalize hq_ : World.drewN wZ113 _ = wZ113; have n0_ : Aside0 (Kd.Q Kd.bool 4 wZ113 w.heap.size (fun k_ => some k_ ≠ (.slice AoZ56 t225.length coZ57 : Value).ownBlock) (.slice AoZ36 t222.length coZ37) t222) := ⟨by rw [← hq_]; exact (by st6_; exact HO_196000.out)⟩; have n1_ : Aside0 (Kd.Q (Kd.int .i64) 3 wZ113 w.heap.size (fun k_ => (some k_ ≠ (.slice AoZ80 t186.length coZ81 : Value).ownBlock ∧ (some k_ ≠ (.slice AoZ77 t203.length coZ78 : Value).ownBlock ∧ some k_ ≠ (.slice AoZ69 t226.length coZ70 : Value).ownBlock))) (.slice AoZ47 t223.length coZ48) t223) := ⟨by rw [← hq_]; exact (by st6_; exact HO_196001.out)⟩; have n2_ : Aside0 (Kd.Q Kd.bool 4 wZ113 w.heap.size (fun k_ => some k_ ≠ (.slice AoZ36 t222.length coZ37 : Value).ownBlock) (.slice AoZ56 t225.length coZ57) t225) := ⟨by rw [← hq_]; exact (by st6_; exact HO_203000.out)⟩; have n3_ : Aside0 (Kd.Q (Kd.int .i64) 3 wZ113 w.heap.size (fun k_ => (some k_ ≠ (.slice AoZ80 t186.length coZ81 : Value).ownBlock ∧ (some k_ ≠ (.slice AoZ77 t203.length coZ78 : Value).ownBlock ∧ some k_ ≠ (.slice AoZ47 t223.length coZ48 : Value).ownBlock))) (.slice AoZ69 t226.length coZ70) t226) := ⟨by rw [← hq_]; exact (by st6_; exact HO_203001.out)⟩; have n4_ : Aside0 (Kd.R (Kd.int .i64) 3 wZ113 w.heap.size (fun k_ => (some k_ ≠ (.slice AoZ77 t203.length coZ78 : Value).ownBlock ∧ (some k_ ≠ (.slice AoZ47 t223.length coZ48 : Value).ownBlock ∧ some k_ ≠ (.slice AoZ69 t226.length coZ70 : Value).ownBlock))) (.slice AoZ80 t186.length coZ81) t186) := ⟨by rw [← hq_]; exact (by st3_; exact HO_6.out)⟩; have n5_ : Aside0 (Kd.Q (Kd.int .i64) 3 wZ113 w.heap.size (fun k_ => (some k_ ≠ (.slice AoZ80 t186.length coZ81 : Value).ownBlock ∧ (some k_ ≠ (.slice AoZ47 t223.length coZ48 : Value).ownBlock ∧ some k_ ≠ (.slice AoZ69 t226.length coZ70 : Value).ownBlock))) (.slice AoZ77 t203.length coZ78) t229) := ⟨by rw [← hq_]; exact (by st6_; exact HO_9.out)⟩; have n6_ : Aside0 (wZ113.heap[gb170]? = some (.cells #[.slice A0_0 l0_0.length c0_0, .slice A0_1 l0_1.length c0_1] 62 (0, 0))) := ⟨by rw [← hq_]; exact (by st4_; exact BK170.out)⟩; have n7_ : Aside0 (wZ113.heap[gb171]? = some (.cells #[.slice A1_0 l1_0.length c1_0, .slice A1_1 l1_1.length c1_1] 62 (0, 0))) := ⟨by rw [← hq_]; exact (by st4_; exact BK171.out)⟩; have n8_ : Aside0 (wZ113.heap[gb195]? = some (.cells #[.slice AoZ36 t222.length coZ37, .slice AoZ47 t223.length coZ48] 65 (0, 0))) := ⟨by rw [← hq_]; exact (by st4_; exact BK195.out)⟩; have n9_ : Aside0 (wZ113.heap[gb202]? = some (.cells #[.slice AoZ56 t225.length coZ57, .slice AoZ69 t226.length coZ70] 65 (0, 0))) := ⟨by rw [← hq_]; exact (by st4_; exact BK202.out)⟩; have n10_ : Aside0 (Below w.heap.size w wZ113) := ⟨by rw [← hq_]; exact (by repeat st5_)⟩; clear HO_196000 HO_196001 HO_203000 HO_203001 HO_6 HO_9 BK170 BK171 BK195 BK202 HB hq_; have HO_196000 := n0_; have HO_196001 := n1_; have HO_203000 := n2_; have HO_203001 := n3_; have HO_6 := n4_; have HO_9 := n5_; have BK170 := n6_; have BK171 := n7_; have BK195 := n8_; have BK202 := n9_; have HB := n10_; clear n0_ n1_ n2_ n3_ n4_ n5_ n6_ n7_ n8_ n9_ n10_))
                          st59_
                          st40_
                          generalize wZ113.drew = wZ114 at HO_6 HO_9 HO_196000 HO_196001 HO_203000 HO_203001 BK170 BK171 BK195 BK202 HB hHeld ⊢
                          st60_
                          rotate_left
                          · rintro w' ⟨s0, s1, s2, s3⟩
                            go_simp
                            with_reducible rfl
                          rotate_left
                          · st34_
                            rfl
                          st61_
                          rotate_left
                          · rintro w' ⟨s0, s1, s2, s3⟩
                            go_simp
                            with_reducible rfl
                          rotate_left
                          · st34_
                            rfl
                          st62_
                          st37_
                          st63_
                          st11_
                          (case side2 => exact HC0_0.out)
                          st12_
                          (case side4 => exact HC0_1.out)
                          rintro e wZ115 ⟨vZ116, vZ117, rfl, ho0, ho1, hb⟩
                          refine ⟨_, rfl, ?_⟩
                          st64_
                          st65_
                          st35_
                          clear hK K
                          refine norm_ (a' := ?_) ?_ ?_
                          rotate_left
                          · show Act.put _ (some 76) _ = _
                            st34_
                            rfl
                          st66_
                          st38_
                          st67_
                          st14_
                          (case side2 => exact HC1_0.out)
                          st15_
                          (case side4 => exact HC1_1.out)
                          rintro e wZ118 ⟨vZ119, vZ120, rfl, ho0, ho1, hb⟩
                          refine ⟨_, rfl, ?_⟩
                          st68_
                          st69_
                          obtain ⟨AoZ121, coZ122, eoZ123⟩ := Kd.R_slice HO233.out
                          (first | subst eoZ123 | (injection eoZ123 with f1_ f2_ f3_; have f4_ := f1_.symm; have f5_ := f3_.symm; clear f1_ f2_ f3_; subst f4_; subst f5_))
                          obtain ⟨AoZ124, coZ125, eoZ126⟩ := Kd.R_slice HO236.out
                          (first | subst eoZ126 | (injection eoZ126 with f1_ f2_ f3_; have f4_ := f1_.symm; have f5_ := f3_.symm; clear f1_ f2_ f3_; subst f4_; subst f5_))
                          obtain ⟨AoZ127, coZ128, eoZ129⟩ := Kd.R_slice HO239.out
                          (first | subst eoZ129 | (injection eoZ129 with f1_ f2_ f3_; have f4_ := f1_.symm; have f5_ := f3_.symm; clear f1_ f2_ f3_; subst f4_; subst f5_))
                          obtain ⟨AoZ130, coZ131, eoZ132⟩ := Kd.R_slice HO242.out
                          (first | subst eoZ132 | (injection eoZ132 with f1_ f2_ f3_; have f4_ := f1_.symm; have f5_ := f3_.symm; clear f1_ f2_ f3_; subst f4_; subst f5_))
                          st35_
                          clear hK K
                          refine norm_ (a' := ?_) ?_ ?_
                          rotate_left
                          · show Act.put _ (some 78) _ = _
                            st34_
                            rfl
                          st70_
                          refine goes_ Try.func59 (by kernel_rfl) rfl #[.agg #[.slice AoZ121 t231.length coZ122, .slice AoZ124 t234.length coZ125], .agg #[.slice AoZ127 t237.length coZ128, .slice AoZ130 t240.length coZ131]] (by rfl) rfl rfl sq9_ ?_
                          st71_
                          st22_
                          (case side2 => exact (Kd.R_reads' HO233.out).2.1)
                          st23_
                          (case side4 => exact (Kd.R_reads' HO236.out).2.1)
                          st24_
                          (case side6 => exact (Kd.R_reads' HO239.out).2.1)
                          st25_
                          (case side8 => exact (Kd.R_reads' HO242.out).2.1)
                          rintro e wZ133 ⟨vZ134, rfl, ho0, hb⟩
                          refine ⟨_, rfl, ?_⟩
                          st87_
                          st88_
                          st35_
                          clear hK K
                          refine norm_ (a' := ?_) ?_ ?_
                          rotate_left
                          · show Act.put _ (some 79) _ = _
                            st34_
                            rfl
                          st72_
                          rotate_left
                          · intro w'
                            go_simp
                            with_reducible rfl
                          rotate_left
                          · st34_
                            rfl
                          refine done_ (by kernel_rfl) ?_
                          obtain ⟨AoZ135, coZ136, eoZ137, _⟩ := Kd.Q_slice HO245.out
                          subst eoZ137
                          try go_wp2_with (first | ((with_reducible refine gate_callee (f := 19) rfl ?_); refine goesL_ (some 82) rfl rfl Try.func19 (by kernel_rfl) rfl #[.slice AoZ135 t243.length coZ136, .slice AoZ80 t186.length coZ81] rfl sq9_ ?_; (with_reducible refine (laws_eqIntS.calls kj34 _ _ t243 _ _ t186 true _ ?side1 ?side2 ?side3 ?side4 A97.out).mono ?_); st26_; (case side2 => exact (Kd.Q_reads' HO245.out).2.1); st27_; (case side4 => exact (Kd.R_reads' HO_6.out).2.1); rintro e w' ⟨rfl, ⟨nd, rfl⟩⟩; refine ⟨_, rfl, ?_⟩) | st13_)
                          go_ret
                          st39_
                        · rw [if_neg c100] at H
                          have c100b0 : decide (t247 < 0) = false := decide_eq_false c100
                          clear c100
                          by_cases c111 : t247 = t228
                          · rw [if_pos c111] at H
                            have c111b0 : (t247 == t228) = true := beq_iff_eq.mpr c111
                            have c111b1 : (t247 != t228) = false := bne_eq_false_iff_eq.mpr c111
                            clear c111
                            obtain rfl := Option.some.inj H
                            try go_wp2_with (first | ((with_reducible refine gate_callee (f := 22) rfl ?_); refine goesL_ (some 66) rfl rfl Try.func22 (by kernel_rfl) rfl #[.slice AoZ77 t203.length coZ78, .int .i64 1] rfl sq9_ ?_; st17_; (case side1 => repeat st5_); (case side2 => exact Kd.Q_tight rfl HO_9.out); rintro e wZ138 ⟨rfl, hy0, hb, hkp⟩; refine ⟨_, rfl, ?_⟩; have n0_ := Aside0.mk (Kd.R_mono (ok' := fun k_ => some k_ ≠ (.slice AoZ77 t203.length coZ78 : Value).ownBlock ∧ some k_ ≠ (.slice AoZ47 t223.length coZ48 : Value).ownBlock ∧ some k_ ≠ (.slice AoZ69 t226.length coZ70 : Value).ownBlock) (Kd.R_keptB (HO_6.out) hkp (fun k_ hk_ hs_ => (hk_.1) hs_)) (fun k_ hk_ => ⟨hk_.1.1, hk_.1.2.1, hk_.1.2.2⟩)); have n1_ := Aside0.mk (Kd.Q_reok rfl hy0 (fun k_ e_ => HO_9.out.1 k_ e_)); have n2_ := Aside0.mk (Kd.Q_mono (ok' := fun k_ => some k_ ≠ (.slice AoZ56 t225.length coZ57 : Value).ownBlock) (Kd.Q_keptB ((Kd.Q_apart' HO_196000.out (Kd.Q_typed HO_9.out) (by decide))) hkp (fun k_ hk_ hs_ => (hk_.2) hs_)) (fun k_ hk_ => hk_.1.1)); have n3_ := Aside0.mk (Kd.Q_mono (ok' := fun k_ => some k_ ≠ (.slice AoZ80 t186.length coZ81 : Value).ownBlock ∧ some k_ ≠ (.slice AoZ77 t203.length coZ78 : Value).ownBlock ∧ some k_ ≠ (.slice AoZ69 t226.length coZ70 : Value).ownBlock) (Kd.Q_keptB (HO_196001.out) hkp (fun k_ hk_ hs_ => (hk_.2.1) hs_)) (fun k_ hk_ => ⟨hk_.1.1, hk_.1.2.1, hk_.1.2.2⟩)); have n4_ := Aside0.mk (Kd.Q_mono (ok' := fun k_ => some k_ ≠ (.slice AoZ36 t222.length coZ37 : Value).ownBlock) (Kd.Q_keptB ((Kd.Q_apart' HO_203000.out (Kd.Q_typed HO_9.out) (by decide))) hkp (fun k_ hk_ hs_ => (hk_.2) hs_)) (fun k_ hk_ => hk_.1.1)); have n5_ := Aside0.mk (Kd.Q_mono (ok' := fun k_ => some k_ ≠ (.slice AoZ80 t186.length coZ81 : Value).ownBlock ∧ some k_ ≠ (.slice AoZ77 t203.length coZ78 : Value).ownBlock ∧ some k_ ≠ (.slice AoZ47 t223.length coZ48 : Value).ownBlock) (Kd.Q_keptB (HO_203001.out) hkp (fun k_ hk_ hs_ => (hk_.2.1) hs_)) (fun k_ hk_ => ⟨hk_.1.1, hk_.1.2.1, hk_.1.2.2⟩)); have n6_ := Aside0.mk (blk_kept (by st4_; exact BK170.out) hkp (fun hs_ => (fun e_ => (Kd.Q_ne HO_9.out BK170.out (by decide)) e_) hs_)); have n7_ := Aside0.mk (blk_kept (by st4_; exact BK171.out) hkp (fun hs_ => (fun e_ => (Kd.Q_ne HO_9.out BK171.out (by decide)) e_) hs_)); have n8_ := Aside0.mk (blk_kept (by st4_; exact BK195.out) hkp (fun hs_ => (fun e_ => (Kd.Q_ne HO_9.out BK195.out (by decide)) e_) hs_)); have n9_ := Aside0.mk (blk_kept (by st4_; exact BK202.out) hkp (fun hs_ => (fun e_ => (Kd.Q_ne HO_9.out BK202.out (by decide)) e_) hs_)); have n10_ := Aside0.mk (hb); clear HO_6; clear HO_9; clear HO_196000; clear HO_196001; clear HO_203000; clear HO_203001; clear BK170; clear BK171; clear BK195; clear BK202; clear HB; have HO_6 := n0_; have HO_9 := n1_; have HO_196000 := n2_; have HO_196001 := n3_; have HO_203000 := n4_; have HO_203001 := n5_; have BK170 := n6_; have BK171 := n7_; have BK195 := n8_; have BK202 := n9_; have HB := n10_; clear n0_ n1_ n2_ n3_ n4_ n5_ n6_ n7_ n8_ n9_ n10_; (try clear hb); (try clear hkp); (try clear hy0)) | st10_)
                            (try (rw [drewN_self wZ138]; generalize hq_ : World.drewN wZ138 _ = wZ138; have n0_ : Aside0 (Kd.Q Kd.bool 4 wZ138 w.heap.size (fun k_ => some k_ ≠ (.slice AoZ56 t225.length coZ57 : Value).ownBlock) (.slice AoZ36 t222.length coZ37) t222) := ⟨by rw [← hq_]; exact (by st6_; exact HO_196000.out)⟩; have n1_ : Aside0 (Kd.Q (Kd.int .i64) 3 wZ138 w.heap.size (fun k_ => (some k_ ≠ (.slice AoZ80 t186.length coZ81 : Value).ownBlock ∧ (some k_ ≠ (.slice AoZ77 t203.length coZ78 : Value).ownBlock ∧ some k_ ≠ (.slice AoZ69 t226.length coZ70 : Value).ownBlock))) (.slice AoZ47 t223.length coZ48) t223) := ⟨by rw [← hq_]; exact (by st6_; exact HO_196001.out)⟩; have n2_ : Aside0 (Kd.Q Kd.bool 4 wZ138 w.heap.size (fun k_ => some k_ ≠ (.slice AoZ36 t222.length coZ37 : Value).ownBlock) (.slice AoZ56 t225.length coZ57) t225) := ⟨by rw [← hq_]; exact (by st6_; exact HO_203000.out)⟩; have n3_ : Aside0 (Kd.Q (Kd.int .i64) 3 wZ138 w.heap.size (fun k_ => (some k_ ≠ (.slice AoZ80 t186.length coZ81 : Value).ownBlock ∧ (some k_ ≠ (.slice AoZ77 t203.length coZ78 : Value).ownBlock ∧ some k_ ≠ (.slice AoZ47 t223.length coZ48 : Value).ownBlock))) (.slice AoZ69 t226.length coZ70) t226) := ⟨by rw [← hq_]; exact (by st6_; exact HO_203001.out)⟩; have n4_ : Aside0 (Kd.R (Kd.int .i64) 3 wZ138 w.heap.size (fun k_ => (some k_ ≠ (.slice AoZ77 t203.length coZ78 : Value).ownBlock ∧ (some k_ ≠ (.slice AoZ47 t223.length coZ48 : Value).ownBlock ∧ some k_ ≠ (.slice AoZ69 t226.length coZ70 : Value).ownBlock))) (.slice AoZ80 t186.length coZ81) t186) := ⟨by rw [← hq_]; exact (by st3_; exact HO_6.out)⟩; have n5_ : Aside0 (Kd.Q (Kd.int .i64) 3 wZ138 w.heap.size (fun k_ => (some k_ ≠ (.slice AoZ80 t186.length coZ81 : Value).ownBlock ∧ (some k_ ≠ (.slice AoZ47 t223.length coZ48 : Value).ownBlock ∧ some k_ ≠ (.slice AoZ69 t226.length coZ70 : Value).ownBlock))) (.slice AoZ77 t203.length coZ78) t229) := ⟨by rw [← hq_]; exact (by st6_; exact HO_9.out)⟩; have n6_ : Aside0 (wZ138.heap[gb170]? = some (.cells #[.slice A0_0 l0_0.length c0_0, .slice A0_1 l0_1.length c0_1] 62 (0, 0))) := ⟨by rw [← hq_]; exact (by st4_; exact BK170.out)⟩; have n7_ : Aside0 (wZ138.heap[gb171]? = some (.cells #[.slice A1_0 l1_0.length c1_0, .slice A1_1 l1_1.length c1_1] 62 (0, 0))) := ⟨by rw [← hq_]; exact (by st4_; exact BK171.out)⟩; have n8_ : Aside0 (wZ138.heap[gb195]? = some (.cells #[.slice AoZ36 t222.length coZ37, .slice AoZ47 t223.length coZ48] 65 (0, 0))) := ⟨by rw [← hq_]; exact (by st4_; exact BK195.out)⟩; have n9_ : Aside0 (wZ138.heap[gb202]? = some (.cells #[.slice AoZ56 t225.length coZ57, .slice AoZ69 t226.length coZ70] 65 (0, 0))) := ⟨by rw [← hq_]; exact (by st4_; exact BK202.out)⟩; have n10_ : Aside0 (Below w.heap.size w wZ138) := ⟨by rw [← hq_]; exact (by repeat st5_)⟩; clear HO_196000 HO_196001 HO_203000 HO_203001 HO_6 HO_9 BK170 BK171 BK195 BK202 HB hq_; have HO_196000 := n0_; have HO_196001 := n1_; have HO_203000 := n2_; have HO_203001 := n3_; have HO_6 := n4_; have HO_9 := n5_; have BK170 := n6_; have BK171 := n7_; have BK195 := n8_; have BK202 := n9_; have HB := n10_; clear n0_ n1_ n2_ n3_ n4_ n5_ n6_ n7_ n8_ n9_ n10_))
                            st59_
                            st40_
                            generalize wZ138.drew = wZ139 at HO_6 HO_9 HO_196000 HO_196001 HO_203000 HO_203001 BK170 BK171 BK195 BK202 HB hHeld ⊢
                            st60_
                            rotate_left
                            · rintro w' ⟨s0, s1, s2, s3⟩
                              go_simp
                              with_reducible rfl
                            rotate_left
                            · st34_
                              rfl
                            st61_
                            rotate_left
                            · rintro w' ⟨s0, s1, s2, s3⟩
                              go_simp
                              with_reducible rfl
                            rotate_left
                            · st34_
                              rfl
                            st62_
                            st37_
                            st63_
                            st11_
                            (case side2 => exact HC0_0.out)
                            st12_
                            (case side4 => exact HC0_1.out)
                            rintro e wZ140 ⟨vZ116, vZ117, rfl, ho0, ho1, hb⟩
                            refine ⟨_, rfl, ?_⟩
                            st64_
                            st65_
                            st35_
                            clear hK K
                            refine norm_ (a' := ?_) ?_ ?_
                            rotate_left
                            · show Act.put _ (some 76) _ = _
                              st34_
                              rfl
                            st66_
                            st38_
                            st67_
                            st14_
                            (case side2 => exact HC1_0.out)
                            st15_
                            (case side4 => exact HC1_1.out)
                            rintro e wZ141 ⟨vZ119, vZ120, rfl, ho0, ho1, hb⟩
                            refine ⟨_, rfl, ?_⟩
                            st68_
                            st69_
                            obtain ⟨AoZ142, coZ143, eoZ144⟩ := Kd.R_slice HO233.out
                            (first | subst eoZ144 | (injection eoZ144 with f1_ f2_ f3_; have f4_ := f1_.symm; have f5_ := f3_.symm; clear f1_ f2_ f3_; subst f4_; subst f5_))
                            obtain ⟨AoZ145, coZ146, eoZ147⟩ := Kd.R_slice HO236.out
                            (first | subst eoZ147 | (injection eoZ147 with f1_ f2_ f3_; have f4_ := f1_.symm; have f5_ := f3_.symm; clear f1_ f2_ f3_; subst f4_; subst f5_))
                            obtain ⟨AoZ148, coZ149, eoZ150⟩ := Kd.R_slice HO239.out
                            (first | subst eoZ150 | (injection eoZ150 with f1_ f2_ f3_; have f4_ := f1_.symm; have f5_ := f3_.symm; clear f1_ f2_ f3_; subst f4_; subst f5_))
                            obtain ⟨AoZ151, coZ152, eoZ153⟩ := Kd.R_slice HO242.out
                            (first | subst eoZ153 | (injection eoZ153 with f1_ f2_ f3_; have f4_ := f1_.symm; have f5_ := f3_.symm; clear f1_ f2_ f3_; subst f4_; subst f5_))
                            st35_
                            clear hK K
                            refine norm_ (a' := ?_) ?_ ?_
                            rotate_left
                            · show Act.put _ (some 78) _ = _
                              st34_
                              rfl
                            st70_
                            refine goes_ Try.func59 (by kernel_rfl) rfl #[.agg #[.slice AoZ142 t231.length coZ143, .slice AoZ145 t234.length coZ146], .agg #[.slice AoZ148 t237.length coZ149, .slice AoZ151 t240.length coZ152]] (by rfl) rfl rfl sq9_ ?_
                            st71_
                            st22_
                            (case side2 => exact (Kd.R_reads' HO233.out).2.1)
                            st23_
                            (case side4 => exact (Kd.R_reads' HO236.out).2.1)
                            st24_
                            (case side6 => exact (Kd.R_reads' HO239.out).2.1)
                            st25_
                            (case side8 => exact (Kd.R_reads' HO242.out).2.1)
                            rintro e wZ154 ⟨vZ134, rfl, ho0, hb⟩
                            refine ⟨_, rfl, ?_⟩
                            st87_
                            st88_
                            st35_
                            clear hK K
                            refine norm_ (a' := ?_) ?_ ?_
                            rotate_left
                            · show Act.put _ (some 79) _ = _
                              st34_
                              rfl
                            st72_
                            rotate_left
                            · intro w'
                              go_simp
                              with_reducible rfl
                            rotate_left
                            · st34_
                              rfl
                            refine done_ (by kernel_rfl) ?_
                            obtain ⟨AoZ155, coZ156, eoZ157, _⟩ := Kd.Q_slice HO245.out
                            subst eoZ157
                            try go_wp2_with (first | ((with_reducible refine gate_callee (f := 19) rfl ?_); refine goesL_ (some 82) rfl rfl Try.func19 (by kernel_rfl) rfl #[.slice AoZ155 t243.length coZ156, .slice AoZ80 t186.length coZ81] rfl sq9_ ?_; (with_reducible refine (laws_eqIntS.calls kj34 _ _ t243 _ _ t186 true _ ?side1 ?side2 ?side3 ?side4 A97.out).mono ?_); st26_; (case side2 => exact (Kd.Q_reads' HO245.out).2.1); st27_; (case side4 => exact (Kd.R_reads' HO_6.out).2.1); rintro e w' ⟨rfl, ⟨nd, rfl⟩⟩; refine ⟨_, rfl, ?_⟩) | st13_)
                            go_ret
                            st39_
                          · rw [if_neg c111] at H
                            have c111b0 : (t247 == t228) = false := beq_eq_false_iff_ne.mpr c111
                            have c111b1 : (t247 != t228) = true := bne_iff_ne.mpr c111
                            obtain rfl := Option.some.inj H
                            try go_wp2_with (first | ((with_reducible refine gate_callee (f := 22) rfl ?_); refine goesL_ (some 66) rfl rfl Try.func22 (by kernel_rfl) rfl #[.slice AoZ77 t203.length coZ78, .int .i64 1] rfl sq9_ ?_; st17_; (case side1 => repeat st5_); (case side2 => exact Kd.Q_tight rfl HO_9.out); rintro e wZ158 ⟨rfl, hy0, hb, hkp⟩; refine ⟨_, rfl, ?_⟩; have n0_ := Aside0.mk (Kd.R_mono (ok' := fun k_ => some k_ ≠ (.slice AoZ77 t203.length coZ78 : Value).ownBlock ∧ some k_ ≠ (.slice AoZ47 t223.length coZ48 : Value).ownBlock ∧ some k_ ≠ (.slice AoZ69 t226.length coZ70 : Value).ownBlock) (Kd.R_keptB (HO_6.out) hkp (fun k_ hk_ hs_ => (hk_.1) hs_)) (fun k_ hk_ => ⟨hk_.1.1, hk_.1.2.1, hk_.1.2.2⟩)); have n1_ := Aside0.mk (Kd.Q_reok rfl hy0 (fun k_ e_ => HO_9.out.1 k_ e_)); have n2_ := Aside0.mk (Kd.Q_mono (ok' := fun k_ => some k_ ≠ (.slice AoZ56 t225.length coZ57 : Value).ownBlock) (Kd.Q_keptB ((Kd.Q_apart' HO_196000.out (Kd.Q_typed HO_9.out) (by decide))) hkp (fun k_ hk_ hs_ => (hk_.2) hs_)) (fun k_ hk_ => hk_.1.1)); have n3_ := Aside0.mk (Kd.Q_mono (ok' := fun k_ => some k_ ≠ (.slice AoZ80 t186.length coZ81 : Value).ownBlock ∧ some k_ ≠ (.slice AoZ77 t203.length coZ78 : Value).ownBlock ∧ some k_ ≠ (.slice AoZ69 t226.length coZ70 : Value).ownBlock) (Kd.Q_keptB (HO_196001.out) hkp (fun k_ hk_ hs_ => (hk_.2.1) hs_)) (fun k_ hk_ => ⟨hk_.1.1, hk_.1.2.1, hk_.1.2.2⟩)); have n4_ := Aside0.mk (Kd.Q_mono (ok' := fun k_ => some k_ ≠ (.slice AoZ36 t222.length coZ37 : Value).ownBlock) (Kd.Q_keptB ((Kd.Q_apart' HO_203000.out (Kd.Q_typed HO_9.out) (by decide))) hkp (fun k_ hk_ hs_ => (hk_.2) hs_)) (fun k_ hk_ => hk_.1.1)); have n5_ := Aside0.mk (Kd.Q_mono (ok' := fun k_ => some k_ ≠ (.slice AoZ80 t186.length coZ81 : Value).ownBlock ∧ some k_ ≠ (.slice AoZ77 t203.length coZ78 : Value).ownBlock ∧ some k_ ≠ (.slice AoZ47 t223.length coZ48 : Value).ownBlock) (Kd.Q_keptB (HO_203001.out) hkp (fun k_ hk_ hs_ => (hk_.2.1) hs_)) (fun k_ hk_ => ⟨hk_.1.1, hk_.1.2.1, hk_.1.2.2⟩)); have n6_ := Aside0.mk (blk_kept (by st4_; exact BK170.out) hkp (fun hs_ => (fun e_ => (Kd.Q_ne HO_9.out BK170.out (by decide)) e_) hs_)); have n7_ := Aside0.mk (blk_kept (by st4_; exact BK171.out) hkp (fun hs_ => (fun e_ => (Kd.Q_ne HO_9.out BK171.out (by decide)) e_) hs_)); have n8_ := Aside0.mk (blk_kept (by st4_; exact BK195.out) hkp (fun hs_ => (fun e_ => (Kd.Q_ne HO_9.out BK195.out (by decide)) e_) hs_)); have n9_ := Aside0.mk (blk_kept (by st4_; exact BK202.out) hkp (fun hs_ => (fun e_ => (Kd.Q_ne HO_9.out BK202.out (by decide)) e_) hs_)); have n10_ := Aside0.mk (hb); clear HO_6; clear HO_9; clear HO_196000; clear HO_196001; clear HO_203000; clear HO_203001; clear BK170; clear BK171; clear BK195; clear BK202; clear HB; have HO_6 := n0_; have HO_9 := n1_; have HO_196000 := n2_; have HO_196001 := n3_; have HO_203000 := n4_; have HO_203001 := n5_; have BK170 := n6_; have BK171 := n7_; have BK195 := n8_; have BK202 := n9_; have HB := n10_; clear n0_ n1_ n2_ n3_ n4_ n5_ n6_ n7_ n8_ n9_ n10_; (try clear hb); (try clear hkp); (try clear hy0)) | st10_)
                            (try (rw [drewN_self wZ158]; generalize hq_ : World.drewN wZ158 _ = wZ158; have n0_ : Aside0 (Kd.Q Kd.bool 4 wZ158 w.heap.size (fun k_ => some k_ ≠ (.slice AoZ56 t225.length coZ57 : Value).ownBlock) (.slice AoZ36 t222.length coZ37) t222) := ⟨by rw [← hq_]; exact (by st6_; exact HO_196000.out)⟩; have n1_ : Aside0 (Kd.Q (Kd.int .i64) 3 wZ158 w.heap.size (fun k_ => (some k_ ≠ (.slice AoZ80 t186.length coZ81 : Value).ownBlock ∧ (some k_ ≠ (.slice AoZ77 t203.length coZ78 : Value).ownBlock ∧ some k_ ≠ (.slice AoZ69 t226.length coZ70 : Value).ownBlock))) (.slice AoZ47 t223.length coZ48) t223) := ⟨by rw [← hq_]; exact (by st6_; exact HO_196001.out)⟩; have n2_ : Aside0 (Kd.Q Kd.bool 4 wZ158 w.heap.size (fun k_ => some k_ ≠ (.slice AoZ36 t222.length coZ37 : Value).ownBlock) (.slice AoZ56 t225.length coZ57) t225) := ⟨by rw [← hq_]; exact (by st6_; exact HO_203000.out)⟩; have n3_ : Aside0 (Kd.Q (Kd.int .i64) 3 wZ158 w.heap.size (fun k_ => (some k_ ≠ (.slice AoZ80 t186.length coZ81 : Value).ownBlock ∧ (some k_ ≠ (.slice AoZ77 t203.length coZ78 : Value).ownBlock ∧ some k_ ≠ (.slice AoZ47 t223.length coZ48 : Value).ownBlock))) (.slice AoZ69 t226.length coZ70) t226) := ⟨by rw [← hq_]; exact (by st6_; exact HO_203001.out)⟩; have n4_ : Aside0 (Kd.R (Kd.int .i64) 3 wZ158 w.heap.size (fun k_ => (some k_ ≠ (.slice AoZ77 t203.length coZ78 : Value).ownBlock ∧ (some k_ ≠ (.slice AoZ47 t223.length coZ48 : Value).ownBlock ∧ some k_ ≠ (.slice AoZ69 t226.length coZ70 : Value).ownBlock))) (.slice AoZ80 t186.length coZ81) t186) := ⟨by rw [← hq_]; exact (by st3_; exact HO_6.out)⟩; have n5_ : Aside0 (Kd.Q (Kd.int .i64) 3 wZ158 w.heap.size (fun k_ => (some k_ ≠ (.slice AoZ80 t186.length coZ81 : Value).ownBlock ∧ (some k_ ≠ (.slice AoZ47 t223.length coZ48 : Value).ownBlock ∧ some k_ ≠ (.slice AoZ69 t226.length coZ70 : Value).ownBlock))) (.slice AoZ77 t203.length coZ78) t229) := ⟨by rw [← hq_]; exact (by st6_; exact HO_9.out)⟩; have n6_ : Aside0 (wZ158.heap[gb170]? = some (.cells #[.slice A0_0 l0_0.length c0_0, .slice A0_1 l0_1.length c0_1] 62 (0, 0))) := ⟨by rw [← hq_]; exact (by st4_; exact BK170.out)⟩; have n7_ : Aside0 (wZ158.heap[gb171]? = some (.cells #[.slice A1_0 l1_0.length c1_0, .slice A1_1 l1_1.length c1_1] 62 (0, 0))) := ⟨by rw [← hq_]; exact (by st4_; exact BK171.out)⟩; have n8_ : Aside0 (wZ158.heap[gb195]? = some (.cells #[.slice AoZ36 t222.length coZ37, .slice AoZ47 t223.length coZ48] 65 (0, 0))) := ⟨by rw [← hq_]; exact (by st4_; exact BK195.out)⟩; have n9_ : Aside0 (wZ158.heap[gb202]? = some (.cells #[.slice AoZ56 t225.length coZ57, .slice AoZ69 t226.length coZ70] 65 (0, 0))) := ⟨by rw [← hq_]; exact (by st4_; exact BK202.out)⟩; have n10_ : Aside0 (Below w.heap.size w wZ158) := ⟨by rw [← hq_]; exact (by repeat st5_)⟩; clear HO_196000 HO_196001 HO_203000 HO_203001 HO_6 HO_9 BK170 BK171 BK195 BK202 HB hq_; have HO_196000 := n0_; have HO_196001 := n1_; have HO_203000 := n2_; have HO_203001 := n3_; have HO_6 := n4_; have HO_9 := n5_; have BK170 := n6_; have BK171 := n7_; have BK195 := n8_; have BK202 := n9_; have HB := n10_; clear n0_ n1_ n2_ n3_ n4_ n5_ n6_ n7_ n8_ n9_ n10_))
                            st59_
                            st40_
                            generalize wZ158.drew = wZ159 at HO_6 HO_9 HO_196000 HO_196001 HO_203000 HO_203001 BK170 BK171 BK195 BK202 HB hHeld ⊢
                            st60_
                            rotate_left
                            · rintro w' ⟨s0, s1, s2, s3⟩
                              go_simp
                              with_reducible rfl
                            rotate_left
                            · st34_
                              rfl
                            st61_
                            rotate_left
                            · rintro w' ⟨s0, s1, s2, s3⟩
                              go_simp
                              with_reducible rfl
                            rotate_left
                            · st34_
                              rfl
                            st62_
                            st37_
                            st63_
                            st11_
                            (case side2 => exact HC0_0.out)
                            st12_
                            (case side4 => exact HC0_1.out)
                            rintro e wZ160 ⟨vZ116, vZ117, rfl, ho0, ho1, hb⟩
                            refine ⟨_, rfl, ?_⟩
                            st64_
                            st65_
                            st35_
                            clear hK K
                            refine norm_ (a' := ?_) ?_ ?_
                            rotate_left
                            · show Act.put _ (some 76) _ = _
                              st34_
                              rfl
                            st66_
                            st38_
                            st67_
                            st14_
                            (case side2 => exact HC1_0.out)
                            st15_
                            (case side4 => exact HC1_1.out)
                            rintro e wZ161 ⟨vZ119, vZ120, rfl, ho0, ho1, hb⟩
                            refine ⟨_, rfl, ?_⟩
                            st68_
                            st69_
                            obtain ⟨AoZ162, coZ163, eoZ164⟩ := Kd.R_slice HO233.out
                            (first | subst eoZ164 | (injection eoZ164 with f1_ f2_ f3_; have f4_ := f1_.symm; have f5_ := f3_.symm; clear f1_ f2_ f3_; subst f4_; subst f5_))
                            obtain ⟨AoZ165, coZ166, eoZ167⟩ := Kd.R_slice HO236.out
                            (first | subst eoZ167 | (injection eoZ167 with f1_ f2_ f3_; have f4_ := f1_.symm; have f5_ := f3_.symm; clear f1_ f2_ f3_; subst f4_; subst f5_))
                            obtain ⟨AoZ168, coZ169, eoZ170⟩ := Kd.R_slice HO239.out
                            (first | subst eoZ170 | (injection eoZ170 with f1_ f2_ f3_; have f4_ := f1_.symm; have f5_ := f3_.symm; clear f1_ f2_ f3_; subst f4_; subst f5_))
                            obtain ⟨AoZ171, coZ172, eoZ173⟩ := Kd.R_slice HO242.out
                            (first | subst eoZ173 | (injection eoZ173 with f1_ f2_ f3_; have f4_ := f1_.symm; have f5_ := f3_.symm; clear f1_ f2_ f3_; subst f4_; subst f5_))
                            st35_
                            clear hK K
                            refine norm_ (a' := ?_) ?_ ?_
                            rotate_left
                            · show Act.put _ (some 78) _ = _
                              st34_
                              rfl
                            st70_
                            refine goes_ Try.func59 (by kernel_rfl) rfl #[.agg #[.slice AoZ162 t231.length coZ163, .slice AoZ165 t234.length coZ166], .agg #[.slice AoZ168 t237.length coZ169, .slice AoZ171 t240.length coZ172]] (by rfl) rfl rfl sq9_ ?_
                            st71_
                            st22_
                            (case side2 => exact (Kd.R_reads' HO233.out).2.1)
                            st23_
                            (case side4 => exact (Kd.R_reads' HO236.out).2.1)
                            st24_
                            (case side6 => exact (Kd.R_reads' HO239.out).2.1)
                            st25_
                            (case side8 => exact (Kd.R_reads' HO242.out).2.1)
                            rintro e wZ174 ⟨vZ134, rfl, ho0, hb⟩
                            refine ⟨_, rfl, ?_⟩
                            st87_
                            st88_
                            st35_
                            clear hK K
                            refine norm_ (a' := ?_) ?_ ?_
                            rotate_left
                            · show Act.put _ (some 79) _ = _
                              st34_
                              rfl
                            st72_
                            rotate_left
                            · intro w'
                              go_simp
                              with_reducible rfl
                            rotate_left
                            · st34_
                              rfl
                            refine done_ (by kernel_rfl) ?_
                            obtain ⟨AoZ175, coZ176, eoZ177, _⟩ := Kd.Q_slice HO245.out
                            subst eoZ177
                            try go_wp2_with (first | ((with_reducible refine gate_callee (f := 19) rfl ?_); refine goesL_ (some 82) rfl rfl Try.func19 (by kernel_rfl) rfl #[.slice AoZ175 t243.length coZ176, .slice AoZ80 t186.length coZ81] rfl sq9_ ?_; (with_reducible refine (laws_eqIntS.calls kj34 _ _ t243 _ _ t186 true _ ?side1 ?side2 ?side3 ?side4 A97.out).mono ?_); st26_; (case side2 => exact (Kd.Q_reads' HO245.out).2.1); st27_; (case side4 => exact (Kd.R_reads' HO_6.out).2.1); rintro e w' ⟨rfl, ⟨nd, rfl⟩⟩; refine ⟨_, rfl, ?_⟩) | st13_)
                            go_ret
                            st39_
                      · replace c98 := Bool.eq_false_iff.mpr c98
                        subst c98
                        have H1 : (some false) = some r := by rw [if_neg (show ¬ (false = true) by decide)] at H; exact H
                        clear H
                        have H := H1
                        clear H1
                        obtain rfl := Option.some.inj H
                        try go_wp2_with (first | ((with_reducible refine gate_callee (f := 22) rfl ?_); refine goesL_ (some 66) rfl rfl Try.func22 (by kernel_rfl) rfl #[.slice AoZ77 t203.length coZ78, .int .i64 1] rfl sq9_ ?_; st17_; (case side1 => repeat st5_); (case side2 => exact Kd.Q_tight rfl HO_9.out); rintro e wZ178 ⟨rfl, hy0, hb, hkp⟩; refine ⟨_, rfl, ?_⟩; have n0_ := Aside0.mk (Kd.R_mono (ok' := fun k_ => some k_ ≠ (.slice AoZ77 t203.length coZ78 : Value).ownBlock ∧ some k_ ≠ (.slice AoZ47 t223.length coZ48 : Value).ownBlock ∧ some k_ ≠ (.slice AoZ69 t226.length coZ70 : Value).ownBlock) (Kd.R_keptB (HO_6.out) hkp (fun k_ hk_ hs_ => (hk_.1) hs_)) (fun k_ hk_ => ⟨hk_.1.1, hk_.1.2.1, hk_.1.2.2⟩)); have n1_ := Aside0.mk (Kd.Q_reok rfl hy0 (fun k_ e_ => HO_9.out.1 k_ e_)); have n2_ := Aside0.mk (Kd.Q_mono (ok' := fun k_ => some k_ ≠ (.slice AoZ56 t225.length coZ57 : Value).ownBlock) (Kd.Q_keptB ((Kd.Q_apart' HO_196000.out (Kd.Q_typed HO_9.out) (by decide))) hkp (fun k_ hk_ hs_ => (hk_.2) hs_)) (fun k_ hk_ => hk_.1.1)); have n3_ := Aside0.mk (Kd.Q_mono (ok' := fun k_ => some k_ ≠ (.slice AoZ80 t186.length coZ81 : Value).ownBlock ∧ some k_ ≠ (.slice AoZ77 t203.length coZ78 : Value).ownBlock ∧ some k_ ≠ (.slice AoZ69 t226.length coZ70 : Value).ownBlock) (Kd.Q_keptB (HO_196001.out) hkp (fun k_ hk_ hs_ => (hk_.2.1) hs_)) (fun k_ hk_ => ⟨hk_.1.1, hk_.1.2.1, hk_.1.2.2⟩)); have n4_ := Aside0.mk (Kd.Q_mono (ok' := fun k_ => some k_ ≠ (.slice AoZ36 t222.length coZ37 : Value).ownBlock) (Kd.Q_keptB ((Kd.Q_apart' HO_203000.out (Kd.Q_typed HO_9.out) (by decide))) hkp (fun k_ hk_ hs_ => (hk_.2) hs_)) (fun k_ hk_ => hk_.1.1)); have n5_ := Aside0.mk (Kd.Q_mono (ok' := fun k_ => some k_ ≠ (.slice AoZ80 t186.length coZ81 : Value).ownBlock ∧ some k_ ≠ (.slice AoZ77 t203.length coZ78 : Value).ownBlock ∧ some k_ ≠ (.slice AoZ47 t223.length coZ48 : Value).ownBlock) (Kd.Q_keptB (HO_203001.out) hkp (fun k_ hk_ hs_ => (hk_.2.1) hs_)) (fun k_ hk_ => ⟨hk_.1.1, hk_.1.2.1, hk_.1.2.2⟩)); have n6_ := Aside0.mk (blk_kept (by st4_; exact BK170.out) hkp (fun hs_ => (fun e_ => (Kd.Q_ne HO_9.out BK170.out (by decide)) e_) hs_)); have n7_ := Aside0.mk (blk_kept (by st4_; exact BK171.out) hkp (fun hs_ => (fun e_ => (Kd.Q_ne HO_9.out BK171.out (by decide)) e_) hs_)); have n8_ := Aside0.mk (blk_kept (by st4_; exact BK195.out) hkp (fun hs_ => (fun e_ => (Kd.Q_ne HO_9.out BK195.out (by decide)) e_) hs_)); have n9_ := Aside0.mk (blk_kept (by st4_; exact BK202.out) hkp (fun hs_ => (fun e_ => (Kd.Q_ne HO_9.out BK202.out (by decide)) e_) hs_)); have n10_ := Aside0.mk (hb); clear HO_6; clear HO_9; clear HO_196000; clear HO_196001; clear HO_203000; clear HO_203001; clear BK170; clear BK171; clear BK195; clear BK202; clear HB; have HO_6 := n0_; have HO_9 := n1_; have HO_196000 := n2_; have HO_196001 := n3_; have HO_203000 := n4_; have HO_203001 := n5_; have BK170 := n6_; have BK171 := n7_; have BK195 := n8_; have BK202 := n9_; have HB := n10_; clear n0_ n1_ n2_ n3_ n4_ n5_ n6_ n7_ n8_ n9_ n10_; (try clear hb); (try clear hkp); (try clear hy0)) | st10_)
                        (try (rw [drewN_self wZ178]; generalize hq_ : World.drewN wZ178 _ = wZ178; have n0_ : Aside0 (Kd.Q Kd.bool 4 wZ178 w.heap.size (fun k_ => some k_ ≠ (.slice AoZ56 t225.length coZ57 : Value).ownBlock) (.slice AoZ36 t222.length coZ37) t222) := ⟨by rw [← hq_]; exact (by st6_; exact HO_196000.out)⟩; have n1_ : Aside0 (Kd.Q (Kd.int .i64) 3 wZ178 w.heap.size (fun k_ => (some k_ ≠ (.slice AoZ80 t186.length coZ81 : Value).ownBlock ∧ (some k_ ≠ (.slice AoZ77 t203.length coZ78 : Value).ownBlock ∧ some k_ ≠ (.slice AoZ69 t226.length coZ70 : Value).ownBlock))) (.slice AoZ47 t223.length coZ48) t223) := ⟨by rw [← hq_]; exact (by st6_; exact HO_196001.out)⟩; have n2_ : Aside0 (Kd.Q Kd.bool 4 wZ178 w.heap.size (fun k_ => some k_ ≠ (.slice AoZ36 t222.length coZ37 : Value).ownBlock) (.slice AoZ56 t225.length coZ57) t225) := ⟨by rw [← hq_]; exact (by st6_; exact HO_203000.out)⟩; have n3_ : Aside0 (Kd.Q (Kd.int .i64) 3 wZ178 w.heap.size (fun k_ => (some k_ ≠ (.slice AoZ80 t186.length coZ81 : Value).ownBlock ∧ (some k_ ≠ (.slice AoZ77 t203.length coZ78 : Value).ownBlock ∧ some k_ ≠ (.slice AoZ47 t223.length coZ48 : Value).ownBlock))) (.slice AoZ69 t226.length coZ70) t226) := ⟨by rw [← hq_]; exact (by st6_; exact HO_203001.out)⟩; have n4_ : Aside0 (Kd.R (Kd.int .i64) 3 wZ178 w.heap.size (fun k_ => (some k_ ≠ (.slice AoZ77 t203.length coZ78 : Value).ownBlock ∧ (some k_ ≠ (.slice AoZ47 t223.length coZ48 : Value).ownBlock ∧ some k_ ≠ (.slice AoZ69 t226.length coZ70 : Value).ownBlock))) (.slice AoZ80 t186.length coZ81) t186) := ⟨by rw [← hq_]; exact (by st3_; exact HO_6.out)⟩; have n5_ : Aside0 (Kd.Q (Kd.int .i64) 3 wZ178 w.heap.size (fun k_ => (some k_ ≠ (.slice AoZ80 t186.length coZ81 : Value).ownBlock ∧ (some k_ ≠ (.slice AoZ47 t223.length coZ48 : Value).ownBlock ∧ some k_ ≠ (.slice AoZ69 t226.length coZ70 : Value).ownBlock))) (.slice AoZ77 t203.length coZ78) t229) := ⟨by rw [← hq_]; exact (by st6_; exact HO_9.out)⟩; have n6_ : Aside0 (wZ178.heap[gb170]? = some (.cells #[.slice A0_0 l0_0.length c0_0, .slice A0_1 l0_1.length c0_1] 62 (0, 0))) := ⟨by rw [← hq_]; exact (by st4_; exact BK170.out)⟩; have n7_ : Aside0 (wZ178.heap[gb171]? = some (.cells #[.slice A1_0 l1_0.length c1_0, .slice A1_1 l1_1.length c1_1] 62 (0, 0))) := ⟨by rw [← hq_]; exact (by st4_; exact BK171.out)⟩; have n8_ : Aside0 (wZ178.heap[gb195]? = some (.cells #[.slice AoZ36 t222.length coZ37, .slice AoZ47 t223.length coZ48] 65 (0, 0))) := ⟨by rw [← hq_]; exact (by st4_; exact BK195.out)⟩; have n9_ : Aside0 (wZ178.heap[gb202]? = some (.cells #[.slice AoZ56 t225.length coZ57, .slice AoZ69 t226.length coZ70] 65 (0, 0))) := ⟨by rw [← hq_]; exact (by st4_; exact BK202.out)⟩; have n10_ : Aside0 (Below w.heap.size w wZ178) := ⟨by rw [← hq_]; exact (by repeat st5_)⟩; clear HO_196000 HO_196001 HO_203000 HO_203001 HO_6 HO_9 BK170 BK171 BK195 BK202 HB hq_; have HO_196000 := n0_; have HO_196001 := n1_; have HO_203000 := n2_; have HO_203001 := n3_; have HO_6 := n4_; have HO_9 := n5_; have BK170 := n6_; have BK171 := n7_; have BK195 := n8_; have BK202 := n9_; have HB := n10_; clear n0_ n1_ n2_ n3_ n4_ n5_ n6_ n7_ n8_ n9_ n10_))
                        st59_
                        st40_
                        generalize wZ178.drew = wZ179 at HO_6 HO_9 HO_196000 HO_196001 HO_203000 HO_203001 BK170 BK171 BK195 BK202 HB hHeld ⊢
                        st60_
                        rotate_left
                        · rintro w' ⟨s0, s1, s2, s3⟩
                          go_simp
                          with_reducible rfl
                        rotate_left
                        · st34_
                          rfl
                        st61_
                        rotate_left
                        · rintro w' ⟨s0, s1, s2, s3⟩
                          go_simp
                          with_reducible rfl
                        rotate_left
                        · st34_
                          rfl
                        st62_
                        st37_
                        st63_
                        st11_
                        (case side2 => exact HC0_0.out)
                        st12_
                        (case side4 => exact HC0_1.out)
                        rintro e wZ180 ⟨vZ116, vZ117, rfl, ho0, ho1, hb⟩
                        refine ⟨_, rfl, ?_⟩
                        st64_
                        st65_
                        st35_
                        clear hK K
                        refine norm_ (a' := ?_) ?_ ?_
                        rotate_left
                        · show Act.put _ (some 76) _ = _
                          st34_
                          rfl
                        st66_
                        st38_
                        st67_
                        st14_
                        (case side2 => exact HC1_0.out)
                        st15_
                        (case side4 => exact HC1_1.out)
                        rintro e wZ181 ⟨vZ119, vZ120, rfl, ho0, ho1, hb⟩
                        refine ⟨_, rfl, ?_⟩
                        st68_
                        st69_
                        obtain ⟨AoZ182, coZ183, eoZ184⟩ := Kd.R_slice HO233.out
                        (first | subst eoZ184 | (injection eoZ184 with f1_ f2_ f3_; have f4_ := f1_.symm; have f5_ := f3_.symm; clear f1_ f2_ f3_; subst f4_; subst f5_))
                        obtain ⟨AoZ185, coZ186, eoZ187⟩ := Kd.R_slice HO236.out
                        (first | subst eoZ187 | (injection eoZ187 with f1_ f2_ f3_; have f4_ := f1_.symm; have f5_ := f3_.symm; clear f1_ f2_ f3_; subst f4_; subst f5_))
                        obtain ⟨AoZ188, coZ189, eoZ190⟩ := Kd.R_slice HO239.out
                        (first | subst eoZ190 | (injection eoZ190 with f1_ f2_ f3_; have f4_ := f1_.symm; have f5_ := f3_.symm; clear f1_ f2_ f3_; subst f4_; subst f5_))
                        obtain ⟨AoZ191, coZ192, eoZ193⟩ := Kd.R_slice HO242.out
                        (first | subst eoZ193 | (injection eoZ193 with f1_ f2_ f3_; have f4_ := f1_.symm; have f5_ := f3_.symm; clear f1_ f2_ f3_; subst f4_; subst f5_))
                        st35_
                        clear hK K
                        refine norm_ (a' := ?_) ?_ ?_
                        rotate_left
                        · show Act.put _ (some 78) _ = _
                          st34_
                          rfl
                        st70_
                        refine goes_ Try.func59 (by kernel_rfl) rfl #[.agg #[.slice AoZ182 t231.length coZ183, .slice AoZ185 t234.length coZ186], .agg #[.slice AoZ188 t237.length coZ189, .slice AoZ191 t240.length coZ192]] (by rfl) rfl rfl sq9_ ?_
                        st71_
                        st22_
                        (case side2 => exact (Kd.R_reads' HO233.out).2.1)
                        st23_
                        (case side4 => exact (Kd.R_reads' HO236.out).2.1)
                        st24_
                        (case side6 => exact (Kd.R_reads' HO239.out).2.1)
                        st25_
                        (case side8 => exact (Kd.R_reads' HO242.out).2.1)
                        rintro e wZ194 ⟨vZ134, rfl, ho0, hb⟩
                        refine ⟨_, rfl, ?_⟩
                        have n0_ := Aside0.mk (Kd.R_elder' (by st3_; exact HO_6.out) (Kd.Q_base ho0) hb); have n1_ := Aside0.mk (Kd.Q_elder' (by st6_; exact HO_9.out) (Kd.Q_base ho0) hb); have n2_ := Aside0.mk (Kd.Q_below (by st6_; exact HO_196000.out) hb); have n3_ := Aside0.mk (Kd.Q_elder' (by st6_; exact HO_196001.out) (Kd.Q_base ho0) hb); have n4_ := Aside0.mk (Kd.Q_below (by st6_; exact HO_203000.out) hb); have n5_ := Aside0.mk (Kd.Q_elder' (by st6_; exact HO_203001.out) (Kd.Q_base ho0) hb); have n6_ := Aside0.mk (Kd.R_below (by st3_; exact HO233.out) hb); have n7_ := Aside0.mk (Kd.R_elder' (by st3_; exact HO236.out) (Kd.Q_base ho0) hb); have n8_ := Aside0.mk (Kd.R_below (by st3_; exact HO239.out) hb); have n9_ := Aside0.mk (Kd.R_elder' (by st3_; exact HO242.out) (Kd.Q_base ho0) hb); have n10_ := Aside0.mk (Kd.Q_lower (Kd.Q_new' (Kd.Q_new' (Kd.Q_new' (Kd.Q_new' (Kd.Q_new' (Kd.Q_new' ho0 (Kd.R_lt (by st3_; exact HO_6.out))) (Kd.Q_lt (by st6_; exact HO_9.out))) (Kd.Q_lt (by st6_; exact HO_196001.out))) (Kd.Q_lt (by st6_; exact HO_203001.out))) (Kd.R_lt (by st3_; exact HO236.out))) (Kd.R_lt (by st3_; exact HO242.out))) (below_size (by repeat st5_))); have n11_ := Aside0.mk (blk_below (g := gb170) (o := .cells #[.slice A0_0 l0_0.length c0_0, .slice A0_1 l0_1.length c0_1] 62 (0, 0)) (by st4_; exact BK170.out) hb); have n12_ := Aside0.mk (blk_below (g := gb171) (o := .cells #[.slice A1_0 l1_0.length c1_0, .slice A1_1 l1_1.length c1_1] 62 (0, 0)) (by st4_; exact BK171.out) hb); have n13_ := Aside0.mk (blk_below (g := gb195) (o := .cells #[.slice AoZ36 t222.length coZ37, .slice AoZ47 t223.length coZ48] 65 (0, 0)) (by st4_; exact BK195.out) hb)
                        have n14_ := Aside0.mk (blk_below (g := gb202) (o := .cells #[.slice AoZ56 t225.length coZ57, .slice AoZ69 t226.length coZ70] 65 (0, 0)) (by st4_; exact BK202.out) hb); have n15_ := Aside0.mk (below_step (by repeat st5_) hb); clear HO_6; clear HO_9; clear HO_196000; clear HO_196001; clear HO_203000; clear HO_203001; clear HO233; clear HO236; clear HO239; clear HO242; clear BK170; clear BK171; clear BK195; clear BK202; clear HB; have HO_6 := n0_; have HO_9 := n1_; have HO_196000 := n2_; have HO_196001 := n3_; have HO_203000 := n4_; have HO_203001 := n5_; have HO233 := n6_; have HO236 := n7_; have HO239 := n8_; have HO242 := n9_; have HO245 := n10_; have BK170 := n11_; have BK171 := n12_; have BK195 := n13_; have BK202 := n14_; have HB := n15_; clear n0_ n1_ n2_ n3_ n4_ n5_ n6_ n7_ n8_ n9_ n10_ n11_ n12_ n13_ n14_ n15_; (try clear hb); (try clear hb2); (try clear hk); (try clear hi); (try clear ho0)
                        st35_
                        clear hK K
                        refine norm_ (a' := ?_) ?_ ?_
                        rotate_left
                        · show Act.put _ (some 79) _ = _
                          st34_
                          rfl
                        st72_
                        rotate_left
                        · intro w'
                          go_simp
                          with_reducible rfl
                        rotate_left
                        · st34_
                          rfl
                        refine done_ (by kernel_rfl) ?_
                        obtain ⟨AoZ195, coZ196, eoZ197, _⟩ := Kd.Q_slice HO245.out
                        subst eoZ197
                        try go_wp2_with (first | ((with_reducible refine gate_callee (f := 19) rfl ?_); refine goesL_ (some 82) rfl rfl Try.func19 (by kernel_rfl) rfl #[.slice AoZ195 t243.length coZ196, .slice AoZ80 t186.length coZ81] rfl sq9_ ?_; (with_reducible refine (laws_eqIntS.calls kj34 _ _ t243 _ _ t186 false _ ?side1 ?side2 ?side3 ?side4 A97.out).mono ?_); st26_; (case side2 => exact (Kd.Q_reads' HO245.out).2.1); st27_; (case side4 => exact (Kd.R_reads' HO_6.out).2.1); rintro e w' ⟨rfl, ⟨nd, rfl⟩⟩; refine ⟨_, rfl, ?_⟩))
                        go_ret
                        st39_
                    · rw [if_neg c93] at H
                      have c93b0 : (t230 == t228) = false := beq_eq_false_iff_ne.mpr c93
                      have c93b1 : (t230 != t228) = true := bne_iff_ne.mpr c93
                      obtain rfl := Option.some.inj H
                      go_wp2_with (first | ((with_reducible refine gate_callee (f := 22) rfl ?_); refine goesL_ (some 66) rfl rfl Try.func22 (by kernel_rfl) rfl #[.slice AoZ77 t203.length coZ78, .int .i64 1] rfl sq9_ ?_; st17_; (case side1 => repeat st5_); (case side2 => exact Kd.Q_tight rfl HO_9.out); rintro e wZ198 ⟨rfl, hy0, hb, hkp⟩; refine ⟨_, rfl, ?_⟩; have n0_ := Aside0.mk (Kd.R_mono (ok' := fun k_ => some k_ ≠ (.slice AoZ77 t203.length coZ78 : Value).ownBlock ∧ some k_ ≠ (.slice AoZ47 t223.length coZ48 : Value).ownBlock ∧ some k_ ≠ (.slice AoZ69 t226.length coZ70 : Value).ownBlock) (Kd.R_keptB (HO_6.out) hkp (fun k_ hk_ hs_ => (hk_.1) hs_)) (fun k_ hk_ => ⟨hk_.1.1, hk_.1.2.1, hk_.1.2.2⟩)); have n1_ := Aside0.mk (Kd.Q_reok rfl hy0 (fun k_ e_ => HO_9.out.1 k_ e_)); have n2_ := Aside0.mk (Kd.Q_mono (ok' := fun k_ => some k_ ≠ (.slice AoZ56 t225.length coZ57 : Value).ownBlock) (Kd.Q_keptB ((Kd.Q_apart' HO_196000.out (Kd.Q_typed HO_9.out) (by decide))) hkp (fun k_ hk_ hs_ => (hk_.2) hs_)) (fun k_ hk_ => hk_.1.1)); have n3_ := Aside0.mk (Kd.Q_mono (ok' := fun k_ => some k_ ≠ (.slice AoZ80 t186.length coZ81 : Value).ownBlock ∧ some k_ ≠ (.slice AoZ77 t203.length coZ78 : Value).ownBlock ∧ some k_ ≠ (.slice AoZ69 t226.length coZ70 : Value).ownBlock) (Kd.Q_keptB (HO_196001.out) hkp (fun k_ hk_ hs_ => (hk_.2.1) hs_)) (fun k_ hk_ => ⟨hk_.1.1, hk_.1.2.1, hk_.1.2.2⟩)); have n4_ := Aside0.mk (Kd.Q_mono (ok' := fun k_ => some k_ ≠ (.slice AoZ36 t222.length coZ37 : Value).ownBlock) (Kd.Q_keptB ((Kd.Q_apart' HO_203000.out (Kd.Q_typed HO_9.out) (by decide))) hkp (fun k_ hk_ hs_ => (hk_.2) hs_)) (fun k_ hk_ => hk_.1.1)); have n5_ := Aside0.mk (Kd.Q_mono (ok' := fun k_ => some k_ ≠ (.slice AoZ80 t186.length coZ81 : Value).ownBlock ∧ some k_ ≠ (.slice AoZ77 t203.length coZ78 : Value).ownBlock ∧ some k_ ≠ (.slice AoZ47 t223.length coZ48 : Value).ownBlock) (Kd.Q_keptB (HO_203001.out) hkp (fun k_ hk_ hs_ => (hk_.2.1) hs_)) (fun k_ hk_ => ⟨hk_.1.1, hk_.1.2.1, hk_.1.2.2⟩)); have n6_ := Aside0.mk (blk_kept (by st4_; exact BK170.out) hkp (fun hs_ => (fun e_ => (Kd.Q_ne HO_9.out BK170.out (by decide)) e_) hs_)); have n7_ := Aside0.mk (blk_kept (by st4_; exact BK171.out) hkp (fun hs_ => (fun e_ => (Kd.Q_ne HO_9.out BK171.out (by decide)) e_) hs_)); have n8_ := Aside0.mk (blk_kept (by st4_; exact BK195.out) hkp (fun hs_ => (fun e_ => (Kd.Q_ne HO_9.out BK195.out (by decide)) e_) hs_)); have n9_ := Aside0.mk (blk_kept (by st4_; exact BK202.out) hkp (fun hs_ => (fun e_ => (Kd.Q_ne HO_9.out BK202.out (by decide)) e_) hs_)); have n10_ := Aside0.mk (hb); clear HO_6; clear HO_9; clear HO_196000; clear HO_196001; clear HO_203000; clear HO_203001; clear BK170; clear BK171; clear BK195; clear BK202; clear HB; have HO_6 := n0_; have HO_9 := n1_; have HO_196000 := n2_; have HO_196001 := n3_; have HO_203000 := n4_; have HO_203001 := n5_; have BK170 := n6_; have BK171 := n7_; have BK195 := n8_; have BK202 := n9_; have HB := n10_; clear n0_ n1_ n2_ n3_ n4_ n5_ n6_ n7_ n8_ n9_ n10_; (try clear hb); (try clear hkp); (try clear hy0)) | st10_)
                      go_ret
                      st39_
          · replace c32 := Bool.eq_false_iff.mpr c32
            subst c32
            have H1 : (some false) = some r := by rw [if_neg (show ¬ (false = true) by decide)] at H; exact H
            clear H
            have H := H1
            clear H1
            obtain rfl := Option.some.inj H
            go_enter Try.func14, Try.ntmps14
            try go_wp2_with st2_
            st42_
            st40_
            generalize wZ13.drew = wZ14 at BK170 BK171 HB hHeld ⊢
            st43_
            rotate_left
            · rintro w' ⟨s0, s1, s2, s3⟩
              go_simp
              with_reducible rfl
            rotate_left
            · st34_
              rfl
            st44_
            rotate_left
            · rintro w' ⟨s0, s1, s2, s3⟩
              go_simp
              with_reducible rfl
            rotate_left
            · st34_
              rfl
            st45_
            st37_
            st46_
            st11_
            (case side2 => exact HC0_0.out)
            st12_
            (case side4 => exact HC0_1.out)
            rintro e wZ15 ⟨v175, v178, rfl, ho0, ho1, hb⟩
            refine ⟨_, rfl, ?_⟩
            st47_
            st35_
            clear hK K
            refine norm_ (a' := ?_) ?_ ?_
            rotate_left
            · show Act.put _ (some 25) _ = _
              st34_
              rfl
            st48_
            st38_
            st49_
            st14_
            (case side2 => exact HC1_0.out)
            st15_
            (case side4 => exact HC1_1.out)
            rintro e wZ16 ⟨v181, v184, rfl, ho0, ho1, hb⟩
            refine ⟨_, rfl, ?_⟩
            st50_
            obtain ⟨AoZ17, coZ18, eoZ19⟩ := Kd.R_slice HO176.out
            st30_
            obtain ⟨AoZ20, coZ21, eoZ22⟩ := Kd.R_slice HO179.out
            st31_
            obtain ⟨AoZ23, coZ24, eoZ25⟩ := Kd.R_slice HO182.out
            st32_
            obtain ⟨AoZ26, coZ27, eoZ28⟩ := Kd.R_slice HO185.out
            st33_
            st35_
            clear hK K
            refine norm_ (a' := ?_) ?_ ?_
            rotate_left
            · show Act.put _ (some 27) _ = _
              st34_
              rfl
            st51_
            st52_
            st53_
            st18_
            (case side2 => exact (Kd.R_reads' HO176.out).2.1)
            st19_
            (case side4 => exact (Kd.R_reads' HO179.out).2.1)
            st20_
            (case side6 => exact (Kd.R_reads' HO182.out).2.1)
            st21_
            (case side8 => exact (Kd.R_reads' HO185.out).2.1)
            rintro e wZ29 ⟨v187, rfl, ho0, hb⟩
            refine ⟨_, rfl, ?_⟩
            st54_
            st35_
            clear hK K
            refine norm_ (a' := ?_) ?_ ?_
            rotate_left
            · show Act.put _ (some 28) _ = _
              st34_
              rfl
            st55_
            rotate_left
            · intro w'
              go_simp
              with_reducible rfl
            rotate_left
            · st34_
              rfl
            refine done_ (by kernel_rfl) ?_
            st56_
            st57_
            have hfzZ32 := blk_frozen BK170.out 0
            have hfzZ33 := blk_frozen BK170.out 1
            try go_wp2_with st1_
            st7_
            st73_
            st74_
            generalize wZ76.drew = wZ83 at HO176 HO179 HO182 HO185 HO188 HO191 HO194 HO198 HO201 HO205 BK170 BK171 BK195 BK202 HB hHeld ⊢
            st75_
            rotate_left
            · rintro w' ⟨s0, s1, s2, s3⟩
              go_simp
              with_reducible rfl
            rotate_left
            · st34_
              rfl
            st76_
            rotate_left
            · rintro w' ⟨s0, s1, s2, s3⟩
              go_simp
              with_reducible rfl
            rotate_left
            · st34_
              rfl
            refine one_ (i := 2) (N := some 42) #[true, true, true, false, false] rfl rfl (by kernel_rfl) (by decide) (fun K hK => ?_)
            st37_
            with_reducible refine (laws_toImage.calls k _ _ l0_0 _ _ l0_1 t207 t210 _ ?side1 ?side2 ?side3 ?side4 A27.out).mono ?_
            st11_
            (case side2 => exact HC0_0.out)
            st12_
            (case side4 => exact HC0_1.out)
            rintro e wZ84 ⟨v208, v211, rfl, ho0, ho1, hb⟩
            refine ⟨_, rfl, ?_⟩
            st77_
            st78_
            obtain ⟨AoZ85, coZ86, eoZ87⟩ := Kd.R_slice HO209.out
            (first | subst eoZ87 | (injection eoZ87 with f1_ f2_ f3_; have f4_ := f1_.symm; have f5_ := f3_.symm; clear f1_ f2_ f3_; subst f4_; subst f5_))
            obtain ⟨AoZ88, coZ89, eoZ90⟩ := Kd.R_slice HO212.out
            (first | subst eoZ90 | (injection eoZ90 with f1_ f2_ f3_; have f4_ := f1_.symm; have f5_ := f3_.symm; clear f1_ f2_ f3_; subst f4_; subst f5_))
            st41_
            clear hK K
            refine norm_ (a' := ?_) ?_ ?_
            rotate_left
            · show Act.put _ (some 42) _ = _
              st34_
              rfl
            refine one_ (i := 3) (N := some 43) #[true, true, true, true, false] rfl rfl (by kernel_rfl) (by decide) (fun K hK => ?_)
            st79_
            with_reducible refine (laws_eqImage.calls k _ _ t189 _ _ t192 _ _ t207 _ _ t210 true _ ?side1 ?side2 ?side3 ?side4 ?side5 ?side6 ?side7 ?side8 A28.out).mono ?_
            st80_
            (case side2 => exact (Kd.R_reads' HO191.out).2.1)
            st81_
            (case side4 => exact (Kd.R_reads' HO194.out).2.1)
            st82_
            (case side6 => exact (Kd.R_reads' HO209.out).2.1)
            st83_
            (case side8 => exact (Kd.R_reads' HO212.out).2.1)
            rintro e wZ91 ⟨rfl, hb⟩
            refine ⟨_, rfl, ?_⟩
            st84_
            st85_
            st41_
            clear hK K
            refine norm_ (a' := ?_) ?_ ?_
            rotate_left
            · show Act.put _ (some 43) _ = _
              st34_
              rfl
            st86_
            rotate_left
            · intro w'
              go_simp
              with_reducible rfl
            rotate_left
            · st34_
              rfl
            refine done_ (by kernel_rfl) ?_
            try go_wp2
            st90_
            st91_
            generalize wZ91.drew = wZ92 at HO176 HO179 HO182 HO185 HO188 HO191 HO194 HO198 HO201 HO205 HO209 HO212 BK170 BK171 BK195 BK202 HB hHeld ⊢
            refine take_ (i := 0) (N := some 45) (v := ?_) (a' := ?_) #[true, false, false, false, false] rfl rfl (by kernel_rfl) (fun _ _ _ h => h) (Or.inl ⟨by rfl, ?_⟩) hHeld ?_ ?_
            rotate_left
            · rintro w' ⟨s0, s1, s2, s3⟩
              go_simp
              with_reducible rfl
            rotate_left
            · st34_
              rfl
            refine take_ (i := 1) (N := some 46) (v := ?_) (a' := ?_) #[true, true, false, false, false] rfl rfl (by kernel_rfl) (fun _ _ _ h => h) (Or.inl ⟨by rfl, ?_⟩) hHeld ?_ ?_
            rotate_left
            · rintro w' ⟨s0, s1, s2, s3⟩
              go_simp
              with_reducible rfl
            rotate_left
            · st34_
              rfl
            refine one_ (i := 2) (N := some 47) #[true, true, true, false, false] rfl rfl (by kernel_rfl) (by decide) (fun K hK => ?_)
            st38_
            with_reducible refine (laws_toImage.calls k _ _ l1_0 _ _ l1_1 t214 t217 _ ?side1 ?side2 ?side3 ?side4 A30.out).mono ?_
            st14_
            (case side2 => exact HC1_0.out)
            st15_
            (case side4 => exact HC1_1.out)
            rintro e wZ93 ⟨v215, v218, rfl, ho0, ho1, hb⟩
            refine ⟨_, rfl, ?_⟩
            st92_
            st93_
            obtain ⟨AoZ94, coZ95, eoZ96⟩ := Kd.R_slice HO216.out
            (first | subst eoZ96 | (injection eoZ96 with f1_ f2_ f3_; have f4_ := f1_.symm; have f5_ := f3_.symm; clear f1_ f2_ f3_; subst f4_; subst f5_))
            obtain ⟨AoZ97, coZ98, eoZ99⟩ := Kd.R_slice HO219.out
            (first | subst eoZ99 | (injection eoZ99 with f1_ f2_ f3_; have f4_ := f1_.symm; have f5_ := f3_.symm; clear f1_ f2_ f3_; subst f4_; subst f5_))
            st58_
            clear hK K
            refine norm_ (a' := ?_) ?_ ?_
            rotate_left
            · show Act.put _ (some 47) _ = _
              st34_
              rfl
            refine one_ (i := 3) (N := some 48) #[true, true, true, true, false] rfl rfl (by kernel_rfl) (by decide) (fun K hK => ?_)
            refine goes_ Try.func55 (by kernel_rfl) rfl #[.agg #[.slice AoZ56 t196.length coZ57, .slice AoZ69 t199.length coZ70], .agg #[.slice AoZ94 t214.length coZ95, .slice AoZ97 t217.length coZ98]] (by rfl) rfl rfl sq9_ ?_
            with_reducible refine (laws_eqImage.calls k _ _ t196 _ _ t199 _ _ t214 _ _ t217 false _ ?side1 ?side2 ?side3 ?side4 ?side5 ?side6 ?side7 ?side8 A31.out).mono ?_
            (case side1 => repeat (first | exact (Kd.R_reads' HO198.out).2.2 | (with_reducible refine Kd.C_alloc ?_ _) | (with_reducible refine Kd.C_drewN ?_ _) | (with_reducible refine Kd.C_drew ?_)))
            (case side2 => exact (Kd.R_reads' HO198.out).2.1)
            (case side3 => repeat (first | exact (Kd.R_reads' HO201.out).2.2 | (with_reducible refine Kd.C_alloc ?_ _) | (with_reducible refine Kd.C_drewN ?_ _) | (with_reducible refine Kd.C_drew ?_)))
            (case side4 => exact (Kd.R_reads' HO201.out).2.1)
            (case side5 => repeat (first | exact (Kd.R_reads' HO216.out).2.2 | (with_reducible refine Kd.C_alloc ?_ _) | (with_reducible refine Kd.C_drewN ?_ _) | (with_reducible refine Kd.C_drew ?_)))
            (case side6 => exact (Kd.R_reads' HO216.out).2.1)
            (case side7 => repeat (first | exact (Kd.R_reads' HO219.out).2.2 | (with_reducible refine Kd.C_alloc ?_ _) | (with_reducible refine Kd.C_drewN ?_ _) | (with_reducible refine Kd.C_drew ?_)))
            (case side8 => exact (Kd.R_reads' HO219.out).2.1)
            rintro e wZ100 ⟨rfl, hb⟩
            refine ⟨_, rfl, ?_⟩
            st94_
            st95_
            st58_
            clear hK K
            refine norm_ (a' := ?_) ?_ ?_
            rotate_left
            · show Act.put _ (some 48) _ = _
              st34_
              rfl
            refine pure_ (i := 4) (N := some 49) (v := ?_) (a' := ?_) #[true, true, true, true, true] rfl rfl (by kernel_rfl) (fun _ _ _ h => h) (Or.inl ⟨by rfl, ?_⟩) ?_ ?_
            rotate_left
            · intro w'
              go_simp
              with_reducible rfl
            rotate_left
            · st34_
              rfl
            refine done_ (by kernel_rfl) ?_
            try go_wp2
            go_ret
            st39_
        · replace c29 := Bool.eq_false_iff.mpr c29
          subst c29
          have H1 : (some false) = some r := by rw [if_neg (show ¬ (false = true) by decide)] at H; exact H
          clear H
          have H := H1
          clear H1
          obtain rfl := Option.some.inj H
          go_enter Try.func14, Try.ntmps14
          try go_wp2_with st2_
          st42_
          st40_
          generalize wZ13.drew = wZ14 at BK170 BK171 HB hHeld ⊢
          st43_
          rotate_left
          · rintro w' ⟨s0, s1, s2, s3⟩
            go_simp
            with_reducible rfl
          rotate_left
          · st34_
            rfl
          st44_
          rotate_left
          · rintro w' ⟨s0, s1, s2, s3⟩
            go_simp
            with_reducible rfl
          rotate_left
          · st34_
            rfl
          st45_
          st37_
          st46_
          st11_
          (case side2 => exact HC0_0.out)
          st12_
          (case side4 => exact HC0_1.out)
          rintro e wZ15 ⟨v175, v178, rfl, ho0, ho1, hb⟩
          refine ⟨_, rfl, ?_⟩
          st47_
          st35_
          clear hK K
          refine norm_ (a' := ?_) ?_ ?_
          rotate_left
          · show Act.put _ (some 25) _ = _
            st34_
            rfl
          st48_
          st38_
          st49_
          st14_
          (case side2 => exact HC1_0.out)
          st15_
          (case side4 => exact HC1_1.out)
          rintro e wZ16 ⟨v181, v184, rfl, ho0, ho1, hb⟩
          refine ⟨_, rfl, ?_⟩
          st50_
          obtain ⟨AoZ17, coZ18, eoZ19⟩ := Kd.R_slice HO176.out
          st30_
          obtain ⟨AoZ20, coZ21, eoZ22⟩ := Kd.R_slice HO179.out
          st31_
          obtain ⟨AoZ23, coZ24, eoZ25⟩ := Kd.R_slice HO182.out
          st32_
          obtain ⟨AoZ26, coZ27, eoZ28⟩ := Kd.R_slice HO185.out
          st33_
          st35_
          clear hK K
          refine norm_ (a' := ?_) ?_ ?_
          rotate_left
          · show Act.put _ (some 27) _ = _
            st34_
            rfl
          st51_
          st52_
          st53_
          st18_
          (case side2 => exact (Kd.R_reads' HO176.out).2.1)
          st19_
          (case side4 => exact (Kd.R_reads' HO179.out).2.1)
          st20_
          (case side6 => exact (Kd.R_reads' HO182.out).2.1)
          st21_
          (case side8 => exact (Kd.R_reads' HO185.out).2.1)
          rintro e wZ29 ⟨v187, rfl, ho0, hb⟩
          refine ⟨_, rfl, ?_⟩
          st54_
          st35_
          clear hK K
          refine norm_ (a' := ?_) ?_ ?_
          rotate_left
          · show Act.put _ (some 28) _ = _
            st34_
            rfl
          st55_
          rotate_left
          · intro w'
            go_simp
            with_reducible rfl
          rotate_left
          · st34_
            rfl
          refine done_ (by kernel_rfl) ?_
          st56_
          st57_
          have hfzZ32 := blk_frozen BK170.out 0
          have hfzZ33 := blk_frozen BK170.out 1
          try go_wp2_with st1_
          st7_
          st73_
          st74_
          generalize wZ76.drew = wZ83 at HO176 HO179 HO182 HO185 HO188 HO191 HO194 HO198 HO201 HO205 BK170 BK171 BK195 BK202 HB hHeld ⊢
          st75_
          rotate_left
          · rintro w' ⟨s0, s1, s2, s3⟩
            go_simp
            with_reducible rfl
          rotate_left
          · st34_
            rfl
          st76_
          rotate_left
          · rintro w' ⟨s0, s1, s2, s3⟩
            go_simp
            with_reducible rfl
          rotate_left
          · st34_
            rfl
          refine one_ (i := 2) (N := some 42) #[true, true, true, false, false] rfl rfl (by kernel_rfl) (by decide) (fun K hK => ?_)
          st37_
          with_reducible refine (laws_toImage.calls k _ _ l0_0 _ _ l0_1 t207 t210 _ ?side1 ?side2 ?side3 ?side4 A27.out).mono ?_
          st11_
          (case side2 => exact HC0_0.out)
          st12_
          (case side4 => exact HC0_1.out)
          rintro e wZ84 ⟨v208, v211, rfl, ho0, ho1, hb⟩
          refine ⟨_, rfl, ?_⟩
          st77_
          st78_
          obtain ⟨AoZ85, coZ86, eoZ87⟩ := Kd.R_slice HO209.out
          (first | subst eoZ87 | (injection eoZ87 with f1_ f2_ f3_; have f4_ := f1_.symm; have f5_ := f3_.symm; clear f1_ f2_ f3_; subst f4_; subst f5_))
          obtain ⟨AoZ88, coZ89, eoZ90⟩ := Kd.R_slice HO212.out
          (first | subst eoZ90 | (injection eoZ90 with f1_ f2_ f3_; have f4_ := f1_.symm; have f5_ := f3_.symm; clear f1_ f2_ f3_; subst f4_; subst f5_))
          st41_
          clear hK K
          refine norm_ (a' := ?_) ?_ ?_
          rotate_left
          · show Act.put _ (some 42) _ = _
            st34_
            rfl
          refine one_ (i := 3) (N := some 43) #[true, true, true, true, false] rfl rfl (by kernel_rfl) (by decide) (fun K hK => ?_)
          st79_
          with_reducible refine (laws_eqImage.calls k _ _ t189 _ _ t192 _ _ t207 _ _ t210 false _ ?side1 ?side2 ?side3 ?side4 ?side5 ?side6 ?side7 ?side8 A28.out).mono ?_
          st80_
          (case side2 => exact (Kd.R_reads' HO191.out).2.1)
          st81_
          (case side4 => exact (Kd.R_reads' HO194.out).2.1)
          st82_
          (case side6 => exact (Kd.R_reads' HO209.out).2.1)
          st83_
          (case side8 => exact (Kd.R_reads' HO212.out).2.1)
          rintro e wZ91 ⟨rfl, hb⟩
          refine ⟨_, rfl, ?_⟩
          st84_
          st85_
          st41_
          clear hK K
          refine norm_ (a' := ?_) ?_ ?_
          rotate_left
          · show Act.put _ (some 43) _ = _
            st34_
            rfl
          st86_
          rotate_left
          · intro w'
            go_simp
            with_reducible rfl
          rotate_left
          · st34_
            rfl
          refine done_ (by kernel_rfl) ?_
          try go_wp2
          go_ret
          st39_
      · replace c26 := Bool.eq_false_iff.mpr c26
        subst c26
        have H1 : (some false) = some r := by rw [if_neg (show ¬ (false = true) by decide)] at H; exact H
        clear H
        have H := H1
        clear H1
        obtain rfl := Option.some.inj H
        go_enter Try.func14, Try.ntmps14
        try go_wp2_with st2_
        st42_
        st40_
        generalize wZ13.drew = wZ14 at BK170 BK171 HB hHeld ⊢
        st43_
        rotate_left
        · rintro w' ⟨s0, s1, s2, s3⟩
          go_simp
          with_reducible rfl
        rotate_left
        · st34_
          rfl
        st44_
        rotate_left
        · rintro w' ⟨s0, s1, s2, s3⟩
          go_simp
          with_reducible rfl
        rotate_left
        · st34_
          rfl
        st45_
        st37_
        st46_
        st11_
        (case side2 => exact HC0_0.out)
        st12_
        (case side4 => exact HC0_1.out)
        rintro e wZ15 ⟨v175, v178, rfl, ho0, ho1, hb⟩
        refine ⟨_, rfl, ?_⟩
        st47_
        st35_
        clear hK K
        refine norm_ (a' := ?_) ?_ ?_
        rotate_left
        · show Act.put _ (some 25) _ = _
          st34_
          rfl
        st48_
        st38_
        st49_
        st14_
        (case side2 => exact HC1_0.out)
        st15_
        (case side4 => exact HC1_1.out)
        rintro e wZ16 ⟨v181, v184, rfl, ho0, ho1, hb⟩
        refine ⟨_, rfl, ?_⟩
        st50_
        obtain ⟨AoZ17, coZ18, eoZ19⟩ := Kd.R_slice HO176.out
        st30_
        obtain ⟨AoZ20, coZ21, eoZ22⟩ := Kd.R_slice HO179.out
        st31_
        obtain ⟨AoZ23, coZ24, eoZ25⟩ := Kd.R_slice HO182.out
        st32_
        obtain ⟨AoZ26, coZ27, eoZ28⟩ := Kd.R_slice HO185.out
        st33_
        st35_
        clear hK K
        refine norm_ (a' := ?_) ?_ ?_
        rotate_left
        · show Act.put _ (some 27) _ = _
          st34_
          rfl
        st51_
        st52_
        st53_
        st18_
        (case side2 => exact (Kd.R_reads' HO176.out).2.1)
        st19_
        (case side4 => exact (Kd.R_reads' HO179.out).2.1)
        st20_
        (case side6 => exact (Kd.R_reads' HO182.out).2.1)
        st21_
        (case side8 => exact (Kd.R_reads' HO185.out).2.1)
        rintro e wZ29 ⟨v187, rfl, ho0, hb⟩
        refine ⟨_, rfl, ?_⟩
        st54_
        st35_
        clear hK K
        refine norm_ (a' := ?_) ?_ ?_
        rotate_left
        · show Act.put _ (some 28) _ = _
          st34_
          rfl
        st55_
        rotate_left
        · intro w'
          go_simp
          with_reducible rfl
        rotate_left
        · st34_
          rfl
        refine done_ (by kernel_rfl) ?_
        st56_
        st57_
        have hfzZ32 := blk_frozen BK170.out 0
        have hfzZ33 := blk_frozen BK170.out 1
        try go_wp2_with (first | ((with_reducible refine gate_callee (f := 53) rfl ?_); refine goesL_ (some 30) rfl rfl Try.func53 (by kernel_rfl) rfl #[.agg #[.slice A0_0 l0_0.length c0_0, .slice A0_1 l0_1.length c0_1]] rfl sq9_ ?_; (with_reducible refine (laws_toImage.calls k _ _ l0_0 _ _ l0_1 t189 t192 _ ?side1 ?side2 ?side3 ?side4 A22.out).mono ?_); st11_; (case side2 => exact HC0_0.out); st12_; (case side4 => exact HC0_1.out); rintro e wZ34 ⟨v190, v193, rfl, ho0, ho1, hb⟩; refine ⟨_, rfl, ?_⟩; have n0_ := Aside0.mk (Kd.R_elder' (by st3_; exact HO176.out) (Kd.R_base ho0) hb); have n1_ := Aside0.mk (Kd.R_elder' (by st3_; exact HO179.out) (Kd.R_base ho1) hb); have n2_ := Aside0.mk (Kd.R_elder' (by st3_; exact HO182.out) (Kd.R_base ho0) hb); have n3_ := Aside0.mk (Kd.R_elder' (by st3_; exact HO185.out) (Kd.R_base ho1) hb); have n4_ := Aside0.mk (Kd.R_elder' (by st3_; exact HO188.out) (Kd.R_base ho1) hb); have n5_ := Aside0.mk (Kd.R_lower (Kd.R_new' (Kd.R_new' ho0 (Kd.R_lt (by st3_; exact HO176.out))) (Kd.R_lt (by st3_; exact HO182.out))) (below_size sq8_)); have n6_ := Aside0.mk (Kd.R_lower (Kd.R_new' (Kd.R_new' (Kd.R_new' ho1 (Kd.R_lt (by st3_; exact HO179.out))) (Kd.R_lt (by st3_; exact HO185.out))) (Kd.R_lt (by st3_; exact HO188.out))) (below_size sq8_)); have n7_ := Aside0.mk (blk_below (g := gb170) (o := .cells #[.slice A0_0 l0_0.length c0_0, .slice A0_1 l0_1.length c0_1] 62 (0, 0)) (by st4_; exact BK170.out) hb); have n8_ := Aside0.mk (blk_below (g := gb171) (o := .cells #[.slice A1_0 l1_0.length c1_0, .slice A1_1 l1_1.length c1_1] 62 (0, 0)) (by st4_; exact BK171.out) hb); have n9_ := Aside0.mk (below_step sq8_ hb); clear HO176; clear HO179; clear HO182; clear HO185; clear HO188; clear BK170; clear BK171; clear HB; have HO176 := n0_; have HO179 := n1_; have HO182 := n2_; have HO185 := n3_; have HO188 := n4_; have HO191 := n5_; have HO194 := n6_; have BK170 := n7_; have BK171 := n8_; have HB := n9_; clear n0_ n1_ n2_ n3_ n4_ n5_ n6_ n7_ n8_ n9_; (try clear hb); (try clear hb2); (try clear hk); (try clear hi); (try clear ho0); (try clear ho1)) | ((with_reducible refine gate_dst (N := 7) rfl ?_); refine box_event ?hg (N := 7) ?hd (cs := #[.slice none 0 0, .slice none 0 0]) (t := 65) ?hr ?_; (case hd => rfl); (case hg => rfl); (case hr => first | (go_simp; done) | (go_simp; rfl)); intro gb195 hg wZ35 hbox hb; have n0_ := Aside0.mk (Kd.R_below (by st3_; exact HO176.out) hb); have n1_ := Aside0.mk (Kd.R_below (by st3_; exact HO179.out) hb); have n2_ := Aside0.mk (Kd.R_below (by st3_; exact HO182.out) hb); have n3_ := Aside0.mk (Kd.R_below (by st3_; exact HO185.out) hb); have n4_ := Aside0.mk (Kd.R_below (by st3_; exact HO188.out) hb); have n5_ := Aside0.mk (Kd.R_below (by st3_; exact HO191.out) hb); have n6_ := Aside0.mk (Kd.R_below (by st3_; exact HO194.out) hb); have n7_ := Aside0.mk (blk_below (g := gb170) (o := .cells #[.slice A0_0 l0_0.length c0_0, .slice A0_1 l0_1.length c0_1] 62 (0, 0)) (by st4_; exact BK170.out) hb); have n8_ := Aside0.mk (blk_below (g := gb171) (o := .cells #[.slice A1_0 l1_0.length c1_0, .slice A1_1 l1_1.length c1_1] 62 (0, 0)) (by st4_; exact BK171.out) hb); have n9_ := Aside0.mk (below_step sq8_ hb); have n10_ := Aside0.mk (hbox); have n11_ := Aside0.mk ((by rw [hg]; exact (below_size sq8_) : w.heap.size ≤ gb195)); have n12_ := Aside0.mk ((by rw [hg]; exact (below_size sq8_) : w.heap.size ≤ gb195)); have n13_ := Aside0.mk ((by rw [hg]; exact Nat.ne_of_lt (blk_lt (g := gb170) (o := .cells #[.slice A0_0 l0_0.length c0_0, .slice A0_1 l0_1.length c0_1] 62 (0, 0)) (by st4_; exact BK170.out)) : gb170 ≠ gb195)); have n14_ := Aside0.mk ((by rw [hg]; exact Nat.ne_of_gt (blk_lt (g := gb170) (o := .cells #[.slice A0_0 l0_0.length c0_0, .slice A0_1 l0_1.length c0_1] 62 (0, 0)) (by st4_; exact BK170.out)) : gb195 ≠ gb170)); have n15_ := Aside0.mk ((by rw [hg]; exact Nat.ne_of_lt (blk_lt (g := gb171) (o := .cells #[.slice A1_0 l1_0.length c1_0, .slice A1_1 l1_1.length c1_1] 62 (0, 0)) (by st4_; exact BK171.out)) : gb171 ≠ gb195)); have n16_ := Aside0.mk ((by rw [hg]; exact Nat.ne_of_gt (blk_lt (g := gb171) (o := .cells #[.slice A1_0 l1_0.length c1_0, .slice A1_1 l1_1.length c1_1] 62 (0, 0)) (by st4_; exact BK171.out)) : gb195 ≠ gb171)); clear HO176; clear HO179; clear HO182; clear HO185; clear HO188; clear HO191; clear HO194; clear BK170; clear BK171; clear HB; have HO176 := n0_; have HO179 := n1_; have HO182 := n2_; have HO185 := n3_; have HO188 := n4_; have HO191 := n5_; have HO194 := n6_; have BK170 := n7_; have BK171 := n8_; have HB := n9_; have BK195 := n10_; have GW195 := n11_; have GE195 := n12_; have NB170_195 := n13_; have NB195_170 := n14_; have NB171_195 := n15_; have NB195_171 := n16_; clear n0_ n1_ n2_ n3_ n4_ n5_ n6_ n7_ n8_ n9_ n10_ n11_ n12_ n13_ n14_ n15_ n16_; clear hb hbox hg; obtain ⟨AoZ36, coZ37, eoZ38⟩ := Kd.R_slice HO191.out; subst eoZ38; have hnbZ39 := NB195_170.out; have hncZ40 := NB170_195.out; have hnbZ41 := NB195_171.out; have hncZ42 := NB171_195.out; have hczZ43 : wZ35.cell? ⟨gb195, 0, none⟩ = some (.slice none 0 0) := (blk_cell BK195.out 0).trans rfl; have hczZ44 : wZ35.cell? ⟨gb195, 1, none⟩ = some (.slice none 0 0) := (blk_cell BK195.out 1).trans rfl; have hfzZ45 := blk_frozen BK195.out 0; have hfzZ46 := blk_frozen BK195.out 1; obtain ⟨AoZ47, coZ48, eoZ49⟩ := Kd.R_slice HO194.out; subst eoZ49; have hczZ50 : wZ35.cell? ⟨gb171, 0, none⟩ = some (.slice A1_0 l1_0.length c1_0) := (blk_cell BK171.out 0).trans rfl; have hczZ51 : wZ35.cell? ⟨gb171, 1, none⟩ = some (.slice A1_1 l1_1.length c1_1) := (blk_cell BK171.out 1).trans rfl; have hfzZ52 := blk_frozen BK171.out 0; have hfzZ53 := blk_frozen BK171.out 1) | ((with_reducible refine gate_callee (f := 53) rfl ?_); refine goesL_ (some 32) rfl rfl Try.func53 (by kernel_rfl) rfl #[.agg #[.slice A1_0 l1_0.length c1_0, .slice A1_1 l1_1.length c1_1]] rfl sq9_ ?_; (with_reducible refine (laws_toImage.calls k _ _ l1_0 _ _ l1_1 t196 t199 _ ?side1 ?side2 ?side3 ?side4 A23.out).mono ?_); (case side1 => exact Kd.C_below HR1_0.out sq16_); (case side2 => exact HC1_0.out); (case side3 => exact Kd.C_below HR1_1.out sq16_); (case side4 => exact HC1_1.out); rintro e wZ54 ⟨v197, v200, rfl, ho0, ho1, hb⟩; refine ⟨_, rfl, ?_⟩; have n0_ := Aside0.mk (Kd.R_elder' (by st3_; exact (Kd.R_mono (Kd.R_far (p := ⟨gb195, 1, none⟩) (Kd.R_far (p := ⟨gb195, 0, none⟩) (Kd.R_types HO176.out BK195.out (by decide)) (fun _ hk => hk.2) (.slice AoZ36 t189.length coZ37)) (fun _ hk => hk.2) (.slice AoZ47 t192.length coZ48)) (fun _ h_ => h_.1))) (Kd.R_base ho0) hb); have n1_ := Aside0.mk (Kd.R_elder' (by st3_; exact (Kd.R_mono (Kd.R_far (p := ⟨gb195, 1, none⟩) (Kd.R_far (p := ⟨gb195, 0, none⟩) (Kd.R_types HO179.out BK195.out (by decide)) (fun _ hk => hk.2) (.slice AoZ36 t189.length coZ37)) (fun _ hk => hk.2) (.slice AoZ47 t192.length coZ48)) (fun _ h_ => h_.1))) (Kd.R_base ho1) hb); have n2_ := Aside0.mk (Kd.R_elder' (by st3_; exact (Kd.R_mono (Kd.R_far (p := ⟨gb195, 1, none⟩) (Kd.R_far (p := ⟨gb195, 0, none⟩) (Kd.R_types HO182.out BK195.out (by decide)) (fun _ hk => hk.2) (.slice AoZ36 t189.length coZ37)) (fun _ hk => hk.2) (.slice AoZ47 t192.length coZ48)) (fun _ h_ => h_.1))) (Kd.R_base ho0) hb); have n3_ := Aside0.mk (Kd.R_elder' (by st3_; exact (Kd.R_mono (Kd.R_far (p := ⟨gb195, 1, none⟩) (Kd.R_far (p := ⟨gb195, 0, none⟩) (Kd.R_types HO185.out BK195.out (by decide)) (fun _ hk => hk.2) (.slice AoZ36 t189.length coZ37)) (fun _ hk => hk.2) (.slice AoZ47 t192.length coZ48)) (fun _ h_ => h_.1))) (Kd.R_base ho1) hb); have n4_ := Aside0.mk (Kd.R_elder' (by st3_; exact (Kd.R_mono (Kd.R_far (p := ⟨gb195, 1, none⟩) (Kd.R_far (p := ⟨gb195, 0, none⟩) (Kd.R_types HO188.out BK195.out (by decide)) (fun _ hk => hk.2) (.slice AoZ36 t189.length coZ37)) (fun _ hk => hk.2) (.slice AoZ47 t192.length coZ48)) (fun _ h_ => h_.1))) (Kd.R_base ho1) hb); have n5_ := Aside0.mk (Kd.R_elder' (by st3_; exact (Kd.R_mono (Kd.R_far (p := ⟨gb195, 1, none⟩) (Kd.R_far (p := ⟨gb195, 0, none⟩) (Kd.R_types HO191.out BK195.out (by decide)) (fun _ hk => hk.2) (.slice AoZ36 t189.length coZ37)) (fun _ hk => hk.2) (.slice AoZ47 t192.length coZ48)) (fun _ h_ => h_.1))) (Kd.R_base ho0) hb); have n6_ := Aside0.mk (Kd.R_elder' (by st3_; exact (Kd.R_mono (Kd.R_far (p := ⟨gb195, 1, none⟩) (Kd.R_far (p := ⟨gb195, 0, none⟩) (Kd.R_types HO194.out BK195.out (by decide)) (fun _ hk => hk.2) (.slice AoZ36 t189.length coZ37)) (fun _ hk => hk.2) (.slice AoZ47 t192.length coZ48)) (fun _ h_ => h_.1))) (Kd.R_base ho1) hb); have n7_ := Aside0.mk (Kd.R_lower (Kd.R_new' (Kd.R_new' (Kd.R_new' ho0 (Kd.R_lt (by st3_; exact (Kd.R_mono (Kd.R_far (p := ⟨gb195, 1, none⟩) (Kd.R_far (p := ⟨gb195, 0, none⟩) (Kd.R_types HO176.out BK195.out (by decide)) (fun _ hk => hk.2) (.slice AoZ36 t189.length coZ37)) (fun _ hk => hk.2) (.slice AoZ47 t192.length coZ48)) (fun _ h_ => h_.1))))) (Kd.R_lt (by st3_; exact (Kd.R_mono (Kd.R_far (p := ⟨gb195, 1, none⟩) (Kd.R_far (p := ⟨gb195, 0, none⟩) (Kd.R_types HO182.out BK195.out (by decide)) (fun _ hk => hk.2) (.slice AoZ36 t189.length coZ37)) (fun _ hk => hk.2) (.slice AoZ47 t192.length coZ48)) (fun _ h_ => h_.1))))) (Kd.R_lt (by st3_; exact (Kd.R_mono (Kd.R_far (p := ⟨gb195, 1, none⟩) (Kd.R_far (p := ⟨gb195, 0, none⟩) (Kd.R_types HO191.out BK195.out (by decide)) (fun _ hk => hk.2) (.slice AoZ36 t189.length coZ37)) (fun _ hk => hk.2) (.slice AoZ47 t192.length coZ48)) (fun _ h_ => h_.1))))) (below_size sq16_)); have n8_ := Aside0.mk (Kd.R_lower (Kd.R_new' (Kd.R_new' (Kd.R_new' (Kd.R_new' ho1 (Kd.R_lt (by st3_; exact (Kd.R_mono (Kd.R_far (p := ⟨gb195, 1, none⟩) (Kd.R_far (p := ⟨gb195, 0, none⟩) (Kd.R_types HO179.out BK195.out (by decide)) (fun _ hk => hk.2) (.slice AoZ36 t189.length coZ37)) (fun _ hk => hk.2) (.slice AoZ47 t192.length coZ48)) (fun _ h_ => h_.1))))) (Kd.R_lt (by st3_; exact (Kd.R_mono (Kd.R_far (p := ⟨gb195, 1, none⟩) (Kd.R_far (p := ⟨gb195, 0, none⟩) (Kd.R_types HO185.out BK195.out (by decide)) (fun _ hk => hk.2) (.slice AoZ36 t189.length coZ37)) (fun _ hk => hk.2) (.slice AoZ47 t192.length coZ48)) (fun _ h_ => h_.1))))) (Kd.R_lt (by st3_; exact (Kd.R_mono (Kd.R_far (p := ⟨gb195, 1, none⟩) (Kd.R_far (p := ⟨gb195, 0, none⟩) (Kd.R_types HO188.out BK195.out (by decide)) (fun _ hk => hk.2) (.slice AoZ36 t189.length coZ37)) (fun _ hk => hk.2) (.slice AoZ47 t192.length coZ48)) (fun _ h_ => h_.1))))) (Kd.R_lt (by st3_; exact (Kd.R_mono (Kd.R_far (p := ⟨gb195, 1, none⟩) (Kd.R_far (p := ⟨gb195, 0, none⟩) (Kd.R_types HO194.out BK195.out (by decide)) (fun _ hk => hk.2) (.slice AoZ36 t189.length coZ37)) (fun _ hk => hk.2) (.slice AoZ47 t192.length coZ48)) (fun _ h_ => h_.1))))) (below_size sq16_)); have n9_ := Aside0.mk (blk_below (g := gb170) (o := .cells #[.slice A0_0 l0_0.length c0_0, .slice A0_1 l0_1.length c0_1] 62 (0, 0)) (by st4_; refine blk_far ?_ NB170_195.out _; st4_; refine blk_far ?_ NB170_195.out _; st4_; exact BK170.out) hb); have n10_ := Aside0.mk (blk_below (g := gb171) (o := .cells #[.slice A1_0 l1_0.length c1_0, .slice A1_1 l1_1.length c1_1] 62 (0, 0)) (by st4_; refine blk_far ?_ NB171_195.out _; st4_; refine blk_far ?_ NB171_195.out _; st4_; exact BK171.out) hb); have n11_ := Aside0.mk (blk_below (g := gb195) (o := .cells #[.slice AoZ36 t189.length coZ37, .slice AoZ47 t192.length coZ48] 65 (0, 0)) (by st4_; refine blk_put (cs := #[.slice AoZ36 t189.length coZ37, .slice none 0 0]) ?_ 1 _ rfl; st4_; refine blk_put (cs := #[.slice none 0 0, .slice none 0 0]) ?_ 0 _ rfl; st4_; exact BK195.out) hb); have n12_ := Aside0.mk (below_step sq16_ hb); clear HO176; clear HO179; clear HO182; clear HO185; clear HO188; clear HO191; clear HO194; clear BK170; clear BK171; clear BK195; clear HB; have HO176 := n0_; have HO179 := n1_; have HO182 := n2_; have HO185 := n3_; have HO188 := n4_; have HO191 := n5_; have HO194 := n6_; have HO198 := n7_; have HO201 := n8_; have BK170 := n9_; have BK171 := n10_; have BK195 := n11_; have HB := n12_; clear n0_ n1_ n2_ n3_ n4_ n5_ n6_ n7_ n8_ n9_ n10_ n11_ n12_; (try clear hb); (try clear hb2); (try clear hk); (try clear hi); (try clear ho0); (try clear ho1)) | ((with_reducible refine gate_dst (N := 8) rfl ?_); refine box_event ?hg (N := 8) ?hd (cs := #[.slice none 0 0, .slice none 0 0]) (t := 65) ?hr ?_; (case hd => rfl); (case hg => rfl); (case hr => first | (go_simp; done) | (go_simp; rfl)); intro gb202 hg wZ55 hbox hb; have n0_ := Aside0.mk (Kd.R_below (by st3_; exact HO176.out) hb); have n1_ := Aside0.mk (Kd.R_below (by st3_; exact HO179.out) hb); have n2_ := Aside0.mk (Kd.R_below (by st3_; exact HO182.out) hb); have n3_ := Aside0.mk (Kd.R_below (by st3_; exact HO185.out) hb); have n4_ := Aside0.mk (Kd.R_below (by st3_; exact HO188.out) hb); have n5_ := Aside0.mk (Kd.R_below (by st3_; exact HO191.out) hb); have n6_ := Aside0.mk (Kd.R_below (by st3_; exact HO194.out) hb); have n7_ := Aside0.mk (Kd.R_below (by st3_; exact HO198.out) hb); have n8_ := Aside0.mk (Kd.R_below (by st3_; exact HO201.out) hb); have n9_ := Aside0.mk (blk_below (g := gb170) (o := .cells #[.slice A0_0 l0_0.length c0_0, .slice A0_1 l0_1.length c0_1] 62 (0, 0)) (by st4_; exact BK170.out) hb); have n10_ := Aside0.mk (blk_below (g := gb171) (o := .cells #[.slice A1_0 l1_0.length c1_0, .slice A1_1 l1_1.length c1_1] 62 (0, 0)) (by st4_; exact BK171.out) hb); have n11_ := Aside0.mk (blk_below (g := gb195) (o := .cells #[.slice AoZ36 t189.length coZ37, .slice AoZ47 t192.length coZ48] 65 (0, 0)) (by st4_; exact BK195.out) hb); have n12_ := Aside0.mk (below_step sq16_ hb); have n13_ := Aside0.mk (hbox); have n14_ := Aside0.mk ((by rw [hg]; exact (below_size sq16_) : w.heap.size ≤ gb202)); have n15_ := Aside0.mk ((by rw [hg]; exact (below_size sq16_) : w.heap.size ≤ gb202)); have n16_ := Aside0.mk ((by rw [hg]; exact Nat.ne_of_lt (blk_lt (g := gb170) (o := .cells #[.slice A0_0 l0_0.length c0_0, .slice A0_1 l0_1.length c0_1] 62 (0, 0)) (by st4_; exact BK170.out)) : gb170 ≠ gb202)); have n17_ := Aside0.mk ((by rw [hg]; exact Nat.ne_of_gt (blk_lt (g := gb170) (o := .cells #[.slice A0_0 l0_0.length c0_0, .slice A0_1 l0_1.length c0_1] 62 (0, 0)) (by st4_; exact BK170.out)) : gb202 ≠ gb170)); have n18_ := Aside0.mk ((by rw [hg]; exact Nat.ne_of_lt (blk_lt (g := gb171) (o := .cells #[.slice A1_0 l1_0.length c1_0, .slice A1_1 l1_1.length c1_1] 62 (0, 0)) (by st4_; exact BK171.out)) : gb171 ≠ gb202)); have n19_ := Aside0.mk ((by rw [hg]; exact Nat.ne_of_gt (blk_lt (g := gb171) (o := .cells #[.slice A1_0 l1_0.length c1_0, .slice A1_1 l1_1.length c1_1] 62 (0, 0)) (by st4_; exact BK171.out)) : gb202 ≠ gb171)); have n20_ := Aside0.mk ((by rw [hg]; exact Nat.ne_of_lt (blk_lt (g := gb195) (o := .cells #[.slice AoZ36 t189.length coZ37, .slice AoZ47 t192.length coZ48] 65 (0, 0)) (by st4_; exact BK195.out)) : gb195 ≠ gb202)); have n21_ := Aside0.mk ((by rw [hg]; exact Nat.ne_of_gt (blk_lt (g := gb195) (o := .cells #[.slice AoZ36 t189.length coZ37, .slice AoZ47 t192.length coZ48] 65 (0, 0)) (by st4_; exact BK195.out)) : gb202 ≠ gb195)); clear HO176; clear HO179; clear HO182; clear HO185; clear HO188; clear HO191; clear HO194; clear HO198; clear HO201; clear BK170; clear BK171; clear BK195; clear HB; have HO176 := n0_; have HO179 := n1_; have HO182 := n2_; have HO185 := n3_; have HO188 := n4_; have HO191 := n5_; have HO194 := n6_; have HO198 := n7_; have HO201 := n8_; have BK170 := n9_; have BK171 := n10_; have BK195 := n11_; have HB := n12_; have BK202 := n13_; have GW202 := n14_; have GE202 := n15_; have NB170_202 := n16_; have NB202_170 := n17_; have NB171_202 := n18_; have NB202_171 := n19_; have NB195_202 := n20_; have NB202_195 := n21_; clear n0_ n1_ n2_ n3_ n4_ n5_ n6_ n7_ n8_ n9_ n10_ n11_ n12_ n13_ n14_ n15_ n16_ n17_ n18_ n19_ n20_ n21_; clear hb hbox hg; obtain ⟨AoZ56, coZ57, eoZ58⟩ := Kd.R_slice HO198.out; subst eoZ58; have hnbZ59 := NB202_170.out; have hncZ60 := NB170_202.out; have hnbZ61 := NB202_171.out; have hncZ62 := NB171_202.out; have hnbZ63 := NB202_195.out; have hncZ64 := NB195_202.out; have hczZ65 : wZ55.cell? ⟨gb202, 0, none⟩ = some (.slice none 0 0) := (blk_cell BK202.out 0).trans rfl; have hczZ66 : wZ55.cell? ⟨gb202, 1, none⟩ = some (.slice none 0 0) := (blk_cell BK202.out 1).trans rfl; have hfzZ67 := blk_frozen BK202.out 0; have hfzZ68 := blk_frozen BK202.out 1; obtain ⟨AoZ69, coZ70, eoZ71⟩ := Kd.R_slice HO201.out; subst eoZ71; have hczZ72 : wZ55.cell? ⟨gb195, 0, none⟩ = some (.slice AoZ36 t189.length coZ37) := (blk_cell BK195.out 0).trans rfl; have hczZ73 : wZ55.cell? ⟨gb195, 1, none⟩ = some (.slice AoZ47 t192.length coZ48) := (blk_cell BK195.out 1).trans rfl; have hfzZ74 := blk_frozen BK195.out 0; have hfzZ75 := blk_frozen BK195.out 1) | ((with_reducible refine gate_callee (f := 59) rfl ?_); refine goesL_ (some 35) rfl rfl Try.func59 (by kernel_rfl) rfl #[.agg #[.slice AoZ36 t189.length coZ37, .slice AoZ47 t192.length coZ48], .agg #[.slice AoZ56 t196.length coZ57, .slice AoZ69 t199.length coZ70]] rfl sq9_ ?_; (with_reducible refine (impl_ChangedBits.calls k _ _ t189 _ _ t192 _ _ t196 _ _ t199 t203 _ ?side1 ?side2 ?side3 ?side4 ?side5 ?side6 ?side7 ?side8 A24.out).mono ?_); (case side1 => refine (Kd.R_reads' (e := 4) (base := w.heap.size) (ok := fun k_ => (((True ∧ some k_ ≠ (.slice AoZ17 t174.length coZ18 : Value).ownBlock) ∧ some k_ ≠ (.slice AoZ23 t180.length coZ24 : Value).ownBlock) ∧ some k_ ≠ (.slice AoZ56 t196.length coZ57 : Value).ownBlock)) (n := t189.length) (c := coZ37) ?_).2.2; exact (by st3_; exact (Kd.R_mono (Kd.R_far (p := ⟨gb202, 1, none⟩) (Kd.R_far (p := ⟨gb202, 0, none⟩) (Kd.R_types HO191.out BK202.out (by decide)) (fun _ hk => hk.2) (.slice AoZ56 t196.length coZ57)) (fun _ hk => hk.2) (.slice AoZ69 t199.length coZ70)) (fun _ h_ => h_.1)))); (case side2 => exact (Kd.R_reads' HO191.out).2.1); (case side3 => refine (Kd.R_reads' (e := 3) (base := w.heap.size) (ok := fun k_ => ((((True ∧ some k_ ≠ (.slice AoZ20 t177.length coZ21 : Value).ownBlock) ∧ some k_ ≠ (.slice AoZ26 t183.length coZ27 : Value).ownBlock) ∧ some k_ ≠ (v187 : Value).ownBlock) ∧ some k_ ≠ (.slice AoZ69 t199.length coZ70 : Value).ownBlock)) (n := t192.length) (c := coZ48) ?_).2.2; exact sq28_); (case side4 => exact (Kd.R_reads' HO194.out).2.1); (case side5 => refine (Kd.R_reads' (e := 4) (base := w.heap.size) (ok := fun k_ => (((True ∧ some k_ ≠ (.slice AoZ17 t174.length coZ18 : Value).ownBlock) ∧ some k_ ≠ (.slice AoZ23 t180.length coZ24 : Value).ownBlock) ∧ some k_ ≠ (.slice AoZ36 t189.length coZ37 : Value).ownBlock)) (n := t196.length) (c := coZ57) ?_).2.2; exact (by st3_; exact (Kd.R_mono (Kd.R_far (p := ⟨gb202, 1, none⟩) (Kd.R_far (p := ⟨gb202, 0, none⟩) (Kd.R_types HO198.out BK202.out (by decide)) (fun _ hk => hk.2) (.slice AoZ56 t196.length coZ57)) (fun _ hk => hk.2) (.slice AoZ69 t199.length coZ70)) (fun _ h_ => h_.1)))); (case side6 => exact (Kd.R_reads' HO198.out).2.1); (case side7 => refine (Kd.R_reads' (e := 3) (base := w.heap.size) (ok := fun k_ => ((((True ∧ some k_ ≠ (.slice AoZ20 t177.length coZ21 : Value).ownBlock) ∧ some k_ ≠ (.slice AoZ26 t183.length coZ27 : Value).ownBlock) ∧ some k_ ≠ (v187 : Value).ownBlock) ∧ some k_ ≠ (.slice AoZ47 t192.length coZ48 : Value).ownBlock)) (n := t199.length) (c := coZ70) ?_).2.2; exact sq29_); (case side8 => exact (Kd.R_reads' HO201.out).2.1); rintro e wZ76 ⟨v204, rfl, ho0, hb⟩; refine ⟨_, rfl, ?_⟩; have n0_ := Aside0.mk (Kd.R_below (by st3_; exact (Kd.R_mono (Kd.R_far (p := ⟨gb202, 1, none⟩) (Kd.R_far (p := ⟨gb202, 0, none⟩) (Kd.R_types HO176.out BK202.out (by decide)) (fun _ hk => hk.2) (.slice AoZ56 t196.length coZ57)) (fun _ hk => hk.2) (.slice AoZ69 t199.length coZ70)) (fun _ h_ => h_.1))) hb); have n1_ := Aside0.mk (Kd.R_elder' (by st3_; exact (Kd.R_mono (Kd.R_far (p := ⟨gb202, 1, none⟩) (Kd.R_far (p := ⟨gb202, 0, none⟩) (Kd.R_types HO179.out BK202.out (by decide)) (fun _ hk => hk.2) (.slice AoZ56 t196.length coZ57)) (fun _ hk => hk.2) (.slice AoZ69 t199.length coZ70)) (fun _ h_ => h_.1))) (Kd.Q_base ho0) hb); have n2_ := Aside0.mk (Kd.R_below (by st3_; exact (Kd.R_mono (Kd.R_far (p := ⟨gb202, 1, none⟩) (Kd.R_far (p := ⟨gb202, 0, none⟩) (Kd.R_types HO182.out BK202.out (by decide)) (fun _ hk => hk.2) (.slice AoZ56 t196.length coZ57)) (fun _ hk => hk.2) (.slice AoZ69 t199.length coZ70)) (fun _ h_ => h_.1))) hb); have n3_ := Aside0.mk (Kd.R_elder' (by st3_; exact (Kd.R_mono (Kd.R_far (p := ⟨gb202, 1, none⟩) (Kd.R_far (p := ⟨gb202, 0, none⟩) (Kd.R_types HO185.out BK202.out (by decide)) (fun _ hk => hk.2) (.slice AoZ56 t196.length coZ57)) (fun _ hk => hk.2) (.slice AoZ69 t199.length coZ70)) (fun _ h_ => h_.1))) (Kd.Q_base ho0) hb); have n4_ := Aside0.mk (Kd.R_elder' (by st3_; exact (Kd.R_mono (Kd.R_far (p := ⟨gb202, 1, none⟩) (Kd.R_far (p := ⟨gb202, 0, none⟩) (Kd.R_types HO188.out BK202.out (by decide)) (fun _ hk => hk.2) (.slice AoZ56 t196.length coZ57)) (fun _ hk => hk.2) (.slice AoZ69 t199.length coZ70)) (fun _ h_ => h_.1))) (Kd.Q_base ho0) hb); have n5_ := Aside0.mk (Kd.R_below (by st3_; exact (Kd.R_mono (Kd.R_far (p := ⟨gb202, 1, none⟩) (Kd.R_far (p := ⟨gb202, 0, none⟩) (Kd.R_types HO191.out BK202.out (by decide)) (fun _ hk => hk.2) (.slice AoZ56 t196.length coZ57)) (fun _ hk => hk.2) (.slice AoZ69 t199.length coZ70)) (fun _ h_ => h_.1))) hb); have n6_ := Aside0.mk (Kd.R_elder' sq28_ (Kd.Q_base ho0) hb); have n7_ := Aside0.mk (Kd.R_below (by st3_; exact (Kd.R_mono (Kd.R_far (p := ⟨gb202, 1, none⟩) (Kd.R_far (p := ⟨gb202, 0, none⟩) (Kd.R_types HO198.out BK202.out (by decide)) (fun _ hk => hk.2) (.slice AoZ56 t196.length coZ57)) (fun _ hk => hk.2) (.slice AoZ69 t199.length coZ70)) (fun _ h_ => h_.1))) hb); have n8_ := Aside0.mk (Kd.R_elder' sq29_ (Kd.Q_base ho0) hb); have n9_ := Aside0.mk (Kd.Q_lower (Kd.Q_new' (Kd.Q_new' (Kd.Q_new' (Kd.Q_new' (Kd.Q_new' ho0 (Kd.R_lt (by st3_; exact (Kd.R_mono (Kd.R_far (p := ⟨gb202, 1, none⟩) (Kd.R_far (p := ⟨gb202, 0, none⟩) (Kd.R_types HO179.out BK202.out (by decide)) (fun _ hk => hk.2) (.slice AoZ56 t196.length coZ57)) (fun _ hk => hk.2) (.slice AoZ69 t199.length coZ70)) (fun _ h_ => h_.1))))) (Kd.R_lt (by st3_; exact (Kd.R_mono (Kd.R_far (p := ⟨gb202, 1, none⟩) (Kd.R_far (p := ⟨gb202, 0, none⟩) (Kd.R_types HO185.out BK202.out (by decide)) (fun _ hk => hk.2) (.slice AoZ56 t196.length coZ57)) (fun _ hk => hk.2) (.slice AoZ69 t199.length coZ70)) (fun _ h_ => h_.1))))) (Kd.R_lt (by st3_; exact (Kd.R_mono (Kd.R_far (p := ⟨gb202, 1, none⟩) (Kd.R_far (p := ⟨gb202, 0, none⟩) (Kd.R_types HO188.out BK202.out (by decide)) (fun _ hk => hk.2) (.slice AoZ56 t196.length coZ57)) (fun _ hk => hk.2) (.slice AoZ69 t199.length coZ70)) (fun _ h_ => h_.1))))) (Kd.R_lt sq28_)) (Kd.R_lt sq29_)) (below_size (by repeat st5_))); have n10_ := Aside0.mk (blk_below (g := gb170) (o := .cells #[.slice A0_0 l0_0.length c0_0, .slice A0_1 l0_1.length c0_1] 62 (0, 0)) (by st4_; refine blk_far ?_ NB170_202.out _; st4_; refine blk_far ?_ NB170_202.out _; st4_; exact BK170.out) hb); have n11_ := Aside0.mk (blk_below (g := gb171) (o := .cells #[.slice A1_0 l1_0.length c1_0, .slice A1_1 l1_1.length c1_1] 62 (0, 0)) (by st4_; refine blk_far ?_ NB171_202.out _; st4_; refine blk_far ?_ NB171_202.out _; st4_; exact BK171.out) hb); have n12_ := Aside0.mk (blk_below (g := gb195) (o := .cells #[.slice AoZ36 t189.length coZ37, .slice AoZ47 t192.length coZ48] 65 (0, 0)) (by st4_; refine blk_far ?_ NB195_202.out _; st4_; refine blk_far ?_ NB195_202.out _; st4_; exact BK195.out) hb); have n13_ := Aside0.mk (blk_below (g := gb202) (o := .cells #[.slice AoZ56 t196.length coZ57, .slice AoZ69 t199.length coZ70] 65 (0, 0)) (by st4_; refine blk_put (cs := #[.slice AoZ56 t196.length coZ57, .slice none 0 0]) ?_ 1 _ rfl; st4_; refine blk_put (cs := #[.slice none 0 0, .slice none 0 0]) ?_ 0 _ rfl; st4_; exact BK202.out) hb); have n14_ := Aside0.mk (below_step (by repeat st5_) hb); clear HO176; clear HO179; clear HO182; clear HO185; clear HO188; clear HO191; clear HO194; clear HO198; clear HO201; clear BK170; clear BK171; clear BK195; clear BK202; clear HB; have HO176 := n0_; have HO179 := n1_; have HO182 := n2_; have HO185 := n3_; have HO188 := n4_; have HO191 := n5_; have HO194 := n6_; have HO198 := n7_; have HO201 := n8_; have HO205 := n9_; have BK170 := n10_; have BK171 := n11_; have BK195 := n12_; have BK202 := n13_; have HB := n14_; clear n0_ n1_ n2_ n3_ n4_ n5_ n6_ n7_ n8_ n9_ n10_ n11_ n12_ n13_ n14_; (try clear hb); (try clear hb2); (try clear hk); (try clear hi); (try clear ho0); obtain ⟨AoZ77, coZ78, eoZ79, _⟩ := Kd.Q_slice HO205.out; subst eoZ79; obtain ⟨AoZ80, coZ81, eoZ82⟩ := Kd.R_slice HO188.out; subst eoZ82) | ((with_reducible refine gate_callee (f := 19) rfl ?_); refine goesL_ (some 38) rfl rfl Try.func19 (by kernel_rfl) rfl #[.slice AoZ77 t203.length coZ78, .slice AoZ80 t186.length coZ81] rfl sq9_ ?_; (with_reducible refine (laws_eqIntS.calls k _ _ t203 _ _ t186 false _ ?side1 ?side2 ?side3 ?side4 A25.out).mono ?_); (case side1 => repeat (first | exact (Kd.Q_reads' HO205.out).2.2 | (with_reducible refine Kd.C_alloc ?_ _) | (with_reducible refine Kd.C_drewN ?_ _) | (with_reducible refine Kd.C_drew ?_))); (case side2 => exact (Kd.Q_reads' HO205.out).2.1); (case side3 => repeat (first | exact (Kd.R_reads' HO188.out).2.2 | (with_reducible refine Kd.C_alloc ?_ _) | (with_reducible refine Kd.C_drewN ?_ _) | (with_reducible refine Kd.C_drew ?_))); (case side4 => exact (Kd.R_reads' HO188.out).2.1); rintro e w' ⟨rfl, ⟨nd, rfl⟩⟩; refine ⟨_, rfl, ?_⟩))
        go_ret
        st39_

end Go.Proofs.Ytmlhkalgaeemaaa.GFnExactChangedBits

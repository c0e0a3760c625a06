/- Parts: PutW, All, Lay2, Lay3, Stp, Ord, CntP. -/
import Derived.Test.YtjglgfnhgehpeaaGreatYi
import Derived.Test.YtjglgfnhgehpeaaGreatYe
import Derived.Test.YtjglgfnhgehpeaaGreatYg
/- Put and Cut: what they compute. -/
set_option linter.unusedVariables false
set_option linter.unusedSimpArgs false
set_option maxRecDepth 4000
namespace Go.Proofs.YtjglgfnhgehpeaaGreat
open Go.RowKit Go.Fw Go.Xt

abbrev eT (t : Tr) : Rp := agg [tree t]
abbrev eErr : Rp := tup [eT .nil, sl 3 FX ([] : List X), I 1]

theorem c_Put_err {t : Tr} {x : X} (hV : PureC Tryz.prog 125 [sl 3 FX [x]] (val (.bool false))) : PureC Tryz.prog 100 [eT t, ext x] eErr := by
  refine PureC.of_wp Tryz.func100 (by kernel_rfl) rfl Tryz.ntmps100 (le_ rfl) (fun w0 M0 => ?_)
  refine WP.seq ?_
  refine WP.region ?_
  refine WL.box (ot rfl) (.agg _) (by decide) fun b2 => ?_
  refine WL.box (ot rfl) (.agg _) (by decide) fun b3 => ?_
  refine WL.alloc zr_Tree rfl (by decide) fun b4 => ?_
  refine WL.op (asg (oc _)) (by decide) ?_
  refine WL.op (asg (oc _)) (by decide) ?_
  refine WL.nl (.thn ?_)
  refine WP.seq ?_
  refine WP.seq ?_
  refine WP.region ?_
  refine WL.op (lbs 1 rfl ag_Extent (ot rfl) (le_ rfl)) (by decide) ?_
  refine WL.op (bsl1 (f := FX) (el := x) ei_s_api_Extent (ot rfl) (.agg _) rfl (by decide) (by decide)) (by decide) ?_
  refine WL.op (call hV (.c (ot rfl) .n)) (by decide) ?_
  refine WL.op (not_ (ot rfl)) (by decide) ?_
  refine WL.nl (.thn ?_)
  refine WP.condT rfl ?_
  refine WP.seq ?_
  refine WP.region ?_
  refine WL.op (bld zr_Tree rfl ps_Tree .n) (by decide) ?_
  refine WL.store 0 rfl (ot rfl) (ot rfl) (.agg _) sz_Tree rfl (le_ rfl) ?_
  refine WL.op (OpG.weak (asg (oc _)) (sl_nil (sz := 3) (f := FX))) (by decide) ?_
  refine WL.op (asg (oc _)) (by decide) ?_
  refine WL.nl (.thn ?_)
  exact WP.rt (.rthn (.rN rfl (.cons (.bx 0 rfl rfl ag_Tree) (.cons (.tm rfl) (.cons (.tm rfl) .nil))) (le_ rfl) (imp _)))
theorem c_Put_nn {t rest mid T : Tr} {x : X} (hV : PureC Tryz.prog 125 [sl 3 FX [x]] (val (.bool true)))
    (hs1 : PureC Tryz.prog 126 [tree t, I x.a] (tup [tree .nil, tree rest])) (hs2 : PureC Tryz.prog 126 [tree rest, I (x.a + x.n)] (tup [tree mid, tree .nil]))
    (hv : 0 ≤ x.a ∧ 1 ≤ x.n ∧ 0 ≤ x.s ∧ x.a + x.n ≤ 65536 ∧ x.s + x.n ≤ 65536) (hm : PureC Tryz.prog 131 [tree mid] (sl 3 FX mid.list))
    (hj : PureC Tryz.prog 130 [tree (glueL .nil x).2, ext (glueR (glueL .nil x).1 .nil).1, tree (glueR (glueL .nil x).1 .nil).2] (tree T)) : PureC Tryz.prog 100 [eT t, ext x] (tup [eT T, sl 3 FX mid.list, I 0]) := by
  refine PureC.of_wp Tryz.func100 (by kernel_rfl) rfl Tryz.ntmps100 (le_ rfl) (fun w0 M0 => ?_)
  refine WP.seq ?_
  refine WP.region ?_
  refine WL.box (ot rfl) (.agg _) (by decide) fun b2 => ?_
  refine WL.box (ot rfl) (.agg _) (by decide) fun b3 => ?_
  refine WL.alloc zr_Tree rfl (by decide) fun b4 => ?_
  refine WL.op (asg (oc _)) (by decide) ?_
  refine WL.op (asg (oc _)) (by decide) ?_
  refine WL.nl (.thn ?_)
  refine WP.seq ?_
  refine WP.seq ?_
  refine WP.region ?_
  refine WL.op (lbs 1 rfl ag_Extent (ot rfl) (le_ rfl)) (by decide) ?_
  refine WL.op (bsl1 (f := FX) (el := x) ei_s_api_Extent (ot rfl) (.agg _) rfl (by decide) (by decide)) (by decide) ?_
  refine WL.op (call hV (.c (ot rfl) .n)) (by decide) ?_
  refine WL.op (not_ (ot rfl)) (by decide) ?_
  refine WL.nl (.thn ?_)
  refine WP.condF rfl ?_
  refine WP.sk (.thn ?_)
  refine WP.seq ?_
  refine WP.region ?_
  refine WL.op (fv fo_Tree_0 (ot rfl)) (by decide) ?_
  refine WL.op (lb 2 rfl sc_p_extree_node (ot rfl) rfl) (by decide) ?_
  refine WL.op (fv fo_Extent_0 (ot rfl)) (by decide) ?_
  refine WL.op (lb 1 rfl sc_int (ot rfl) rfl) (by decide) ?_
  refine WL.op (call hs1 (.c (ot rfl) (.c (ot rfl) .n))) (by decide) ?_
  refine WL.op (mv (ot rfl)) (by decide) ?_
  refine WL.op (ex (ot rfl) rfl) (by decide) ?_
  refine WL.op (ex (ot rfl) rfl) (by decide) ?_
  refine WL.op (asg (ot rfl)) (by decide) ?_
  refine WL.op (asg (ot rfl)) (by decide) ?_
  refine WL.nl (.thn ?_)
  refine WP.seq ?_
  refine WP.region ?_
  refine WL.op (mv (ot rfl)) (by decide) ?_
  refine WL.op (fv fo_Extent_0 (ot rfl)) (by decide) ?_
  refine WL.op (lb 1 rfl sc_int (ot rfl) rfl) (by decide) ?_
  refine WL.op (fv fo_Extent_1 (ot rfl)) (by decide) ?_
  refine WL.op (lb 1 rfl sc_int (ot rfl) rfl) (by decide) ?_
  refine WL.op (add (ot rfl) (ot rfl) (by omega)) (by decide) ?_
  refine WL.op (call hs2 (.c (ot rfl) (.c (ot rfl) .n))) (by decide) ?_
  refine WL.op (mv (ot rfl)) (by decide) ?_
  refine WL.op (ex (ot rfl) rfl) (by decide) ?_
  refine WL.op (ex (ot rfl) rfl) (by decide) ?_
  refine WL.op (asg (ot rfl)) (by decide) ?_
  refine WL.op (asg (ot rfl)) (by decide) ?_
  refine WL.nl (.thn ?_)
  refine WP.seq ?_
  refine WP.seq ?_
  refine WP.region ?_
  refine WL.op (mv (ot rfl)) (by decide) ?_
  refine WL.op (isnil' pt_p_extree_node (ot rfl)) (by decide) ?_
  refine WL.nl (.thn ?_)
  refine WP.condF rfl ?_
  refine WP.sk (.thn ?_)
  refine WP.seq ?_
  refine WP.seq ?_
  refine WP.region ?_
  refine WL.op (mv (ot rfl)) (by decide) ?_
  refine WL.op (isnil' pt_p_extree_node (ot rfl)) (by decide) ?_
  refine WL.nl (.thn ?_)
  refine WP.condF rfl ?_
  refine WP.sk (.thn ?_)
  refine WP.seq ?_
  refine WP.region ?_
  refine WL.op (mv (ot rfl)) (by decide) ?_
  refine WL.op (lbs 1 rfl ag_Extent (ot rfl) (le_ rfl)) (by decide) ?_
  refine WL.op (mv (ot rfl)) (by decide) ?_
  refine WL.op (call (by have q := hj; simp only [glueL, glueR, ↓reduceIte] at q; exact q) (.c (ot rfl) (.c (ot rfl) (.c (ot rfl) .n)))) (by decide) ?_
  refine WL.op (bld zr_Tree rfl ps_Tree (.c (ot rfl) (.leaf (leaf_tree _)) pl_Tree_0 rfl (le_ rfl) .n)) (by decide) ?_
  refine WL.op (mv (ot rfl)) (by decide) ?_
  refine WL.op (call hm (.c (ot rfl) .n)) (by decide) ?_
  refine WL.store 0 rfl (ot rfl) (ot rfl) (.agg _) sz_Tree rfl (le_ rfl) ?_
  refine WL.op (asg (ot rfl)) (by decide) ?_
  refine WL.op (asg (oc _)) (by decide) ?_
  refine WL.nl (.thn ?_)
  exact WP.rt (.rN rfl (.cons (.bx 0 rfl rfl ag_Tree) (.cons (.tm rfl) (.cons (.tm rfl) .nil))) (le_ rfl) (imp _))
theorem c_Put_ns {t rest mid T lq rq : Tr} {x yb : X} (hV : PureC Tryz.prog 125 [sl 3 FX [x]] (val (.bool true)))
    (hs1 : PureC Tryz.prog 126 [tree t, I x.a] (tup [tree .nil, tree rest])) (hs2 : PureC Tryz.prog 126 [tree rest, I (x.a + x.n)] (tup [tree mid, tree (.node lq yb rq)]))
    (hv : 0 ≤ x.a ∧ 1 ≤ x.n ∧ 0 ≤ x.s ∧ x.a + x.n ≤ 65536 ∧ x.s + x.n ≤ 65536) (hm : PureC Tryz.prog 131 [tree mid] (sl 3 FX mid.list))
    (hj : PureC Tryz.prog 130 [tree (glueL .nil x).2, ext (glueR (glueL .nil x).1 (.node lq yb rq)).1, tree (glueR (glueL .nil x).1 (.node lq yb rq)).2] (tree T))
    (hF : PureC Tryz.prog 129 [tree (.node lq yb rq)] (tup [ext (first lq yb rq).1, tree (first lq yb rq).2])) (hfy : 0 ≤ (first lq yb rq).1.a ∧ 1 ≤ (first lq yb rq).1.n ∧ 0 ≤ (first lq yb rq).1.s ∧ (first lq yb rq).1.a + (first lq yb rq).1.n ≤ 65536 ∧ (first lq yb rq).1.s + (first lq yb rq).1.n ≤ 65536) : PureC Tryz.prog 100 [eT t, ext x] (tup [eT T, sl 3 FX mid.list, I 0]) := by
  refine PureC.of_wp Tryz.func100 (by kernel_rfl) rfl Tryz.ntmps100 (le_ rfl) (fun w0 M0 => ?_)
  refine WP.seq ?_
  refine WP.region ?_
  refine WL.box (ot rfl) (.agg _) (by decide) fun b2 => ?_
  refine WL.box (ot rfl) (.agg _) (by decide) fun b3 => ?_
  refine WL.alloc zr_Tree rfl (by decide) fun b4 => ?_
  refine WL.op (asg (oc _)) (by decide) ?_
  refine WL.op (asg (oc _)) (by decide) ?_
  refine WL.nl (.thn ?_)
  refine WP.seq ?_
  refine WP.seq ?_
  refine WP.region ?_
  refine WL.op (lbs 1 rfl ag_Extent (ot rfl) (le_ rfl)) (by decide) ?_
  refine WL.op (bsl1 (f := FX) (el := x) ei_s_api_Extent (ot rfl) (.agg _) rfl (by decide) (by decide)) (by decide) ?_
  refine WL.op (call hV (.c (ot rfl) .n)) (by decide) ?_
  refine WL.op (not_ (ot rfl)) (by decide) ?_
  refine WL.nl (.thn ?_)
  refine WP.condF rfl ?_
  refine WP.sk (.thn ?_)
  refine WP.seq ?_
  refine WP.region ?_
  refine WL.op (fv fo_Tree_0 (ot rfl)) (by decide) ?_
  refine WL.op (lb 2 rfl sc_p_extree_node (ot rfl) rfl) (by decide) ?_
  refine WL.op (fv fo_Extent_0 (ot rfl)) (by decide) ?_
  refine WL.op (lb 1 rfl sc_int (ot rfl) rfl) (by decide) ?_
  refine WL.op (call hs1 (.c (ot rfl) (.c (ot rfl) .n))) (by decide) ?_
  refine WL.op (mv (ot rfl)) (by decide) ?_
  refine WL.op (ex (ot rfl) rfl) (by decide) ?_
  refine WL.op (ex (ot rfl) rfl) (by decide) ?_
  refine WL.op (asg (ot rfl)) (by decide) ?_
  refine WL.op (asg (ot rfl)) (by decide) ?_
  refine WL.nl (.thn ?_)
  refine WP.seq ?_
  refine WP.region ?_
  refine WL.op (mv (ot rfl)) (by decide) ?_
  refine WL.op (fv fo_Extent_0 (ot rfl)) (by decide) ?_
  refine WL.op (lb 1 rfl sc_int (ot rfl) rfl) (by decide) ?_
  refine WL.op (fv fo_Extent_1 (ot rfl)) (by decide) ?_
  refine WL.op (lb 1 rfl sc_int (ot rfl) rfl) (by decide) ?_
  refine WL.op (add (ot rfl) (ot rfl) (by omega)) (by decide) ?_
  refine WL.op (call hs2 (.c (ot rfl) (.c (ot rfl) .n))) (by decide) ?_
  refine WL.op (mv (ot rfl)) (by decide) ?_
  refine WL.op (ex (ot rfl) rfl) (by decide) ?_
  refine WL.op (ex (ot rfl) rfl) (by decide) ?_
  refine WL.op (asg (ot rfl)) (by decide) ?_
  refine WL.op (asg (ot rfl)) (by decide) ?_
  refine WL.nl (.thn ?_)
  refine WP.seq ?_
  refine WP.seq ?_
  refine WP.region ?_
  refine WL.op (mv (ot rfl)) (by decide) ?_
  refine WL.op (isnil' pt_p_extree_node (ot rfl)) (by decide) ?_
  refine WL.nl (.thn ?_)
  refine WP.condF rfl ?_
  refine WP.sk (.thn ?_)
  refine WP.seq ?_
  refine WP.seq ?_
  refine WP.region ?_
  refine WL.op (mv (ot rfl)) (by decide) ?_
  refine WL.op (notnil' pt_p_extree_node (ot rfl)) (by decide) ?_
  refine WL.nl (.thn ?_)
  refine WP.condT rfl ?_
  refine WP.seq ?_
  refine WP.region ?_
  refine WL.op (mv (ot rfl)) (by decide) ?_
  refine WL.op (call hF (.c (ot rfl) .n)) (by decide) ?_
  refine WL.op (mv (ot rfl)) (by decide) ?_
  refine WL.op (ex (ot rfl) rfl) (by decide) ?_
  refine WL.op (ex (ot rfl) rfl) (by decide) ?_
  refine WL.alloc zr_Extent rfl (by decide) fun b13 => ?_
  refine WL.store 0 rfl (ot rfl) (ot rfl) (.agg _) sz_Extent rfl (le_ rfl) ?_
  refine WL.op (asg (ot rfl)) (by decide) ?_
  refine WL.nl (.thn ?_)
  refine WP.seq ?_
  refine WP.region ?_
  refine WL.op (lbs 2 rfl ag_Extent (ot rfl) (le_ rfl)) (by decide) ?_
  refine WL.op (lbs 0 rfl ag_Extent (ot rfl) (le_ rfl)) (by decide) ?_
  refine WL.op (call (c_x_follows x (first lq yb rq).1 (by first | omega | (simp only []; omega)) (by first | omega | (simp only []; omega))) (.c (ot rfl) (.c (ot rfl) .n))) (by decide) ?_
  refine WL.nl (.thn ?_)
  refine WP.cond rfl (fun hc => ?_) (fun hc => ?_)
  · skip
    have f2 := of_decide_eq_true hc
    refine WP.seq ?_
    refine WP.region ?_
    refine WL.op (fv fo_Extent_1 (ot rfl)) (by decide) ?_
    refine WL.op (lb 2 rfl sc_int (ot rfl) rfl) (by decide) ?_
    refine WL.op (fv fo_Extent_1 (ot rfl)) (by decide) ?_
    refine WL.op (lb 0 rfl sc_int (ot rfl) rfl) (by decide) ?_
    refine WL.op (add (ot rfl) (ot rfl) (by omega)) (by decide) ?_
    refine WL.op (fv fo_Extent_1 (ot rfl)) (by decide) ?_
    refine WL.store 2 rfl (ot rfl) (ot rfl) (.leaf (.val rfl)) sz_int rfl (le_ rfl) ?_
    refine WL.nl (.thn ?_)
    refine WP.region ?_
    refine WL.op (mv (ot rfl)) (by decide) ?_
    refine WL.op (asg (ot rfl)) (by decide) ?_
    refine WL.nl (.thn ?_)
    refine WP.seq ?_
    refine WP.region ?_
    refine WL.op (mv (ot rfl)) (by decide) ?_
    refine WL.op (lbs 2 rfl ag_Extent (ot rfl) (le_ rfl)) (by decide) ?_
    refine WL.op (mv (ot rfl)) (by decide) ?_
    refine WL.op (call (by have q := hj; simp only [glueL, glueR, f2, ↓reduceIte] at q; exact q) (.c (ot rfl) (.c (ot rfl) (.c (ot rfl) .n)))) (by decide) ?_
    refine WL.op (bld zr_Tree rfl ps_Tree (.c (ot rfl) (.leaf (leaf_tree _)) pl_Tree_0 rfl (le_ rfl) .n)) (by decide) ?_
    refine WL.op (mv (ot rfl)) (by decide) ?_
    refine WL.op (call hm (.c (ot rfl) .n)) (by decide) ?_
    refine WL.store 1 rfl (ot rfl) (ot rfl) (.agg _) sz_Tree rfl (le_ rfl) ?_
    refine WL.op (asg (ot rfl)) (by decide) ?_
    refine WL.op (asg (oc _)) (by decide) ?_
    refine WL.nl (.thn ?_)
    exact WP.rt (.rN rfl (.cons (.bx 1 rfl rfl ag_Tree) (.cons (.tm rfl) (.cons (.tm rfl) .nil))) (le_ rfl) (imp _))
  · skip
    have f2 := of_decide_eq_false hc
    refine WP.sk (.thn ?_)
    refine WP.seq ?_
    refine WP.region ?_
    refine WL.op (mv (ot rfl)) (by decide) ?_
    refine WL.op (lbs 2 rfl ag_Extent (ot rfl) (le_ rfl)) (by decide) ?_
    refine WL.op (mv (ot rfl)) (by decide) ?_
    refine WL.op (call (by have q := hj; simp only [glueL, glueR, f2, ↓reduceIte] at q; exact q) (.c (ot rfl) (.c (ot rfl) (.c (ot rfl) .n)))) (by decide) ?_
    refine WL.op (bld zr_Tree rfl ps_Tree (.c (ot rfl) (.leaf (leaf_tree _)) pl_Tree_0 rfl (le_ rfl) .n)) (by decide) ?_
    refine WL.op (mv (ot rfl)) (by decide) ?_
    refine WL.op (call hm (.c (ot rfl) .n)) (by decide) ?_
    refine WL.store 1 rfl (ot rfl) (ot rfl) (.agg _) sz_Tree rfl (le_ rfl) ?_
    refine WL.op (asg (ot rfl)) (by decide) ?_
    refine WL.op (asg (oc _)) (by decide) ?_
    refine WL.nl (.thn ?_)
    exact WP.rt (.rN rfl (.cons (.bx 1 rfl rfl ag_Tree) (.cons (.tm rfl) (.cons (.tm rfl) .nil))) (le_ rfl) (imp _))
theorem c_Put_sn {t rest mid T la ra : Tr} {x ya : X} (hV : PureC Tryz.prog 125 [sl 3 FX [x]] (val (.bool true)))
    (hs1 : PureC Tryz.prog 126 [tree t, I x.a] (tup [tree (.node la ya ra), tree rest])) (hs2 : PureC Tryz.prog 126 [tree rest, I (x.a + x.n)] (tup [tree mid, tree .nil]))
    (hv : 0 ≤ x.a ∧ 1 ≤ x.n ∧ 0 ≤ x.s ∧ x.a + x.n ≤ 65536 ∧ x.s + x.n ≤ 65536) (hm : PureC Tryz.prog 131 [tree mid] (sl 3 FX mid.list))
    (hj : PureC Tryz.prog 130 [tree (glueL (.node la ya ra) x).2, ext (glueR (glueL (.node la ya ra) x).1 .nil).1, tree (glueR (glueL (.node la ya ra) x).1 .nil).2] (tree T))
    (hL : PureC Tryz.prog 127 [tree (.node la ya ra)] (tup [ext (last la ya ra).1, tree (last la ya ra).2])) (hly : 0 ≤ (last la ya ra).1.a ∧ 1 ≤ (last la ya ra).1.n ∧ 0 ≤ (last la ya ra).1.s ∧ (last la ya ra).1.a + (last la ya ra).1.n ≤ 65536 ∧ (last la ya ra).1.s + (last la ya ra).1.n ≤ 65536) : PureC Tryz.prog 100 [eT t, ext x] (tup [eT T, sl 3 FX mid.list, I 0]) := by
  refine PureC.of_wp Tryz.func100 (by kernel_rfl) rfl Tryz.ntmps100 (le_ rfl) (fun w0 M0 => ?_)
  refine WP.seq ?_
  refine WP.region ?_
  refine WL.box (ot rfl) (.agg _) (by decide) fun b2 => ?_
  refine WL.box (ot rfl) (.agg _) (by decide) fun b3 => ?_
  refine WL.alloc zr_Tree rfl (by decide) fun b4 => ?_
  refine WL.op (asg (oc _)) (by decide) ?_
  refine WL.op (asg (oc _)) (by decide) ?_
  refine WL.nl (.thn ?_)
  refine WP.seq ?_
  refine WP.seq ?_
  refine WP.region ?_
  refine WL.op (lbs 1 rfl ag_Extent (ot rfl) (le_ rfl)) (by decide) ?_
  refine WL.op (bsl1 (f := FX) (el := x) ei_s_api_Extent (ot rfl) (.agg _) rfl (by decide) (by decide)) (by decide) ?_
  refine WL.op (call hV (.c (ot rfl) .n)) (by decide) ?_
  refine WL.op (not_ (ot rfl)) (by decide) ?_
  refine WL.nl (.thn ?_)
  refine WP.condF rfl ?_
  refine WP.sk (.thn ?_)
  refine WP.seq ?_
  refine WP.region ?_
  refine WL.op (fv fo_Tree_0 (ot rfl)) (by decide) ?_
  refine WL.op (lb 2 rfl sc_p_extree_node (ot rfl) rfl) (by decide) ?_
  refine WL.op (fv fo_Extent_0 (ot rfl)) (by decide) ?_
  refine WL.op (lb 1 rfl sc_int (ot rfl) rfl) (by decide) ?_
  refine WL.op (call hs1 (.c (ot rfl) (.c (ot rfl) .n))) (by decide) ?_
  refine WL.op (mv (ot rfl)) (by decide) ?_
  refine WL.op (ex (ot rfl) rfl) (by decide) ?_
  refine WL.op (ex (ot rfl) rfl) (by decide) ?_
  refine WL.op (asg (ot rfl)) (by decide) ?_
  refine WL.op (asg (ot rfl)) (by decide) ?_
  refine WL.nl (.thn ?_)
  refine WP.seq ?_
  refine WP.region ?_
  refine WL.op (mv (ot rfl)) (by decide) ?_
  refine WL.op (fv fo_Extent_0 (ot rfl)) (by decide) ?_
  refine WL.op (lb 1 rfl sc_int (ot rfl) rfl) (by decide) ?_
  refine WL.op (fv fo_Extent_1 (ot rfl)) (by decide) ?_
  refine WL.op (lb 1 rfl sc_int (ot rfl) rfl) (by decide) ?_
  refine WL.op (add (ot rfl) (ot rfl) (by omega)) (by decide) ?_
  refine WL.op (call hs2 (.c (ot rfl) (.c (ot rfl) .n))) (by decide) ?_
  refine WL.op (mv (ot rfl)) (by decide) ?_
  refine WL.op (ex (ot rfl) rfl) (by decide) ?_
  refine WL.op (ex (ot rfl) rfl) (by decide) ?_
  refine WL.op (asg (ot rfl)) (by decide) ?_
  refine WL.op (asg (ot rfl)) (by decide) ?_
  refine WL.nl (.thn ?_)
  refine WP.seq ?_
  refine WP.seq ?_
  refine WP.region ?_
  refine WL.op (mv (ot rfl)) (by decide) ?_
  refine WL.op (notnil' pt_p_extree_node (ot rfl)) (by decide) ?_
  refine WL.nl (.thn ?_)
  refine WP.condT rfl ?_
  refine WP.seq ?_
  refine WP.region ?_
  refine WL.op (mv (ot rfl)) (by decide) ?_
  refine WL.op (call hL (.c (ot rfl) .n)) (by decide) ?_
  refine WL.op (mv (ot rfl)) (by decide) ?_
  refine WL.op (ex (ot rfl) rfl) (by decide) ?_
  refine WL.op (ex (ot rfl) rfl) (by decide) ?_
  refine WL.alloc zr_Extent rfl (by decide) fun b11 => ?_
  refine WL.store 0 rfl (ot rfl) (ot rfl) (.agg _) sz_Extent rfl (le_ rfl) ?_
  refine WL.op (asg (ot rfl)) (by decide) ?_
  refine WL.nl (.thn ?_)
  refine WP.seq ?_
  refine WP.region ?_
  refine WL.op (lbs 0 rfl ag_Extent (ot rfl) (le_ rfl)) (by decide) ?_
  refine WL.op (lbs 2 rfl ag_Extent (ot rfl) (le_ rfl)) (by decide) ?_
  refine WL.op (call (c_x_follows (last la ya ra).1 x (by first | omega | (simp only []; omega)) (by first | omega | (simp only []; omega))) (.c (ot rfl) (.c (ot rfl) .n))) (by decide) ?_
  refine WL.nl (.thn ?_)
  refine WP.cond rfl (fun hc => ?_) (fun hc => ?_)
  · skip
    have f1 := of_decide_eq_true hc
    refine WP.region ?_
    refine WL.op (fv fo_Extent_0 (ot rfl)) (by decide) ?_
    refine WL.op (lb 0 rfl sc_int (ot rfl) rfl) (by decide) ?_
    refine WL.op (fv fo_Extent_1 (ot rfl)) (by decide) ?_
    refine WL.op (lb 0 rfl sc_int (ot rfl) rfl) (by decide) ?_
    refine WL.op (fv fo_Extent_1 (ot rfl)) (by decide) ?_
    refine WL.op (lb 2 rfl sc_int (ot rfl) rfl) (by decide) ?_
    refine WL.op (add (ot rfl) (ot rfl) (by omega)) (by decide) ?_
    refine WL.op (fv fo_Extent_2 (ot rfl)) (by decide) ?_
    refine WL.op (lb 0 rfl sc_int (ot rfl) rfl) (by decide) ?_
    refine WL.op (bld zr_Extent rfl ps_Extent (.c (ot rfl) (.leaf (.val rfl)) pl_Extent_0 rfl (le_ rfl) (.c (ot rfl) (.leaf (.val rfl)) pl_Extent_1 rfl (le_ rfl) (.c (ot rfl) (.leaf (.val rfl)) pl_Extent_2 rfl (le_ rfl) .n)))) (by decide) ?_
    refine WL.op (mv (ot rfl)) (by decide) ?_
    refine WL.store 2 rfl (ot rfl) (ot rfl) (.agg _) sz_Extent rfl (le_ rfl) ?_
    refine WL.op (asg (ot rfl)) (by decide) ?_
    refine WL.nl (.thn ?_)
    refine WP.seq ?_
    refine WP.seq ?_
    refine WP.region ?_
    refine WL.op (mv (ot rfl)) (by decide) ?_
    refine WL.op (isnil' pt_p_extree_node (ot rfl)) (by decide) ?_
    refine WL.nl (.thn ?_)
    refine WP.condF rfl ?_
    refine WP.sk (.thn ?_)
    refine WP.seq ?_
    refine WP.region ?_
    refine WL.op (mv (ot rfl)) (by decide) ?_
    refine WL.op (lbs 2 rfl ag_Extent (ot rfl) (le_ rfl)) (by decide) ?_
    refine WL.op (mv (ot rfl)) (by decide) ?_
    refine WL.op (call (by have q := hj; simp only [glueL, glueR, f1, ↓reduceIte] at q; exact q) (.c (ot rfl) (.c (ot rfl) (.c (ot rfl) .n)))) (by decide) ?_
    refine WL.op (bld zr_Tree rfl ps_Tree (.c (ot rfl) (.leaf (leaf_tree _)) pl_Tree_0 rfl (le_ rfl) .n)) (by decide) ?_
    refine WL.op (mv (ot rfl)) (by decide) ?_
    refine WL.op (call hm (.c (ot rfl) .n)) (by decide) ?_
    refine WL.store 1 rfl (ot rfl) (ot rfl) (.agg _) sz_Tree rfl (le_ rfl) ?_
    refine WL.op (asg (ot rfl)) (by decide) ?_
    refine WL.op (asg (oc _)) (by decide) ?_
    refine WL.nl (.thn ?_)
    exact WP.rt (.rN rfl (.cons (.bx 1 rfl rfl ag_Tree) (.cons (.tm rfl) (.cons (.tm rfl) .nil))) (le_ rfl) (imp _))
  · skip
    have f1 := of_decide_eq_false hc
    refine WP.sk (.thn ?_)
    refine WP.seq ?_
    refine WP.seq ?_
    refine WP.region ?_
    refine WL.op (mv (ot rfl)) (by decide) ?_
    refine WL.op (isnil' pt_p_extree_node (ot rfl)) (by decide) ?_
    refine WL.nl (.thn ?_)
    refine WP.condF rfl ?_
    refine WP.sk (.thn ?_)
    refine WP.seq ?_
    refine WP.region ?_
    refine WL.op (mv (ot rfl)) (by decide) ?_
    refine WL.op (lbs 2 rfl ag_Extent (ot rfl) (le_ rfl)) (by decide) ?_
    refine WL.op (mv (ot rfl)) (by decide) ?_
    refine WL.op (call (by have q := hj; simp only [glueL, glueR, f1, ↓reduceIte] at q; exact q) (.c (ot rfl) (.c (ot rfl) (.c (ot rfl) .n)))) (by decide) ?_
    refine WL.op (bld zr_Tree rfl ps_Tree (.c (ot rfl) (.leaf (leaf_tree _)) pl_Tree_0 rfl (le_ rfl) .n)) (by decide) ?_
    refine WL.op (mv (ot rfl)) (by decide) ?_
    refine WL.op (call hm (.c (ot rfl) .n)) (by decide) ?_
    refine WL.store 1 rfl (ot rfl) (ot rfl) (.agg _) sz_Tree rfl (le_ rfl) ?_
    refine WL.op (asg (ot rfl)) (by decide) ?_
    refine WL.op (asg (oc _)) (by decide) ?_
    refine WL.nl (.thn ?_)
    exact WP.rt (.rN rfl (.cons (.bx 1 rfl rfl ag_Tree) (.cons (.tm rfl) (.cons (.tm rfl) .nil))) (le_ rfl) (imp _))
theorem c_Put_ss {t rest mid T la ra lq rq : Tr} {x ya yb : X} (hV : PureC Tryz.prog 125 [sl 3 FX [x]] (val (.bool true)))
    (hs1 : PureC Tryz.prog 126 [tree t, I x.a] (tup [tree (.node la ya ra), tree rest])) (hs2 : PureC Tryz.prog 126 [tree rest, I (x.a + x.n)] (tup [tree mid, tree (.node lq yb rq)]))
    (hv : 0 ≤ x.a ∧ 1 ≤ x.n ∧ 0 ≤ x.s ∧ x.a + x.n ≤ 65536 ∧ x.s + x.n ≤ 65536) (hm : PureC Tryz.prog 131 [tree mid] (sl 3 FX mid.list))
    (hj : PureC Tryz.prog 130 [tree (glueL (.node la ya ra) x).2, ext (glueR (glueL (.node la ya ra) x).1 (.node lq yb rq)).1, tree (glueR (glueL (.node la ya ra) x).1 (.node lq yb rq)).2] (tree T))
    (hL : PureC Tryz.prog 127 [tree (.node la ya ra)] (tup [ext (last la ya ra).1, tree (last la ya ra).2])) (hly : 0 ≤ (last la ya ra).1.a ∧ 1 ≤ (last la ya ra).1.n ∧ 0 ≤ (last la ya ra).1.s ∧ (last la ya ra).1.a + (last la ya ra).1.n ≤ 65536 ∧ (last la ya ra).1.s + (last la ya ra).1.n ≤ 65536)
    (hF : PureC Tryz.prog 129 [tree (.node lq yb rq)] (tup [ext (first lq yb rq).1, tree (first lq yb rq).2])) (hfy : 0 ≤ (first lq yb rq).1.a ∧ 1 ≤ (first lq yb rq).1.n ∧ 0 ≤ (first lq yb rq).1.s ∧ (first lq yb rq).1.a + (first lq yb rq).1.n ≤ 65536 ∧ (first lq yb rq).1.s + (first lq yb rq).1.n ≤ 65536) : PureC Tryz.prog 100 [eT t, ext x] (tup [eT T, sl 3 FX mid.list, I 0]) := by
  refine PureC.of_wp Tryz.func100 (by kernel_rfl) rfl Tryz.ntmps100 (le_ rfl) (fun w0 M0 => ?_)
  refine WP.seq ?_
  refine WP.region ?_
  refine WL.box (ot rfl) (.agg _) (by decide) fun b2 => ?_
  refine WL.box (ot rfl) (.agg _) (by decide) fun b3 => ?_
  refine WL.alloc zr_Tree rfl (by decide) fun b4 => ?_
  refine WL.op (asg (oc _)) (by decide) ?_
  refine WL.op (asg (oc _)) (by decide) ?_
  refine WL.nl (.thn ?_)
  refine WP.seq ?_
  refine WP.seq ?_
  refine WP.region ?_
  refine WL.op (lbs 1 rfl ag_Extent (ot rfl) (le_ rfl)) (by decide) ?_
  refine WL.op (bsl1 (f := FX) (el := x) ei_s_api_Extent (ot rfl) (.agg _) rfl (by decide) (by decide)) (by decide) ?_
  refine WL.op (call hV (.c (ot rfl) .n)) (by decide) ?_
  refine WL.op (not_ (ot rfl)) (by decide) ?_
  refine WL.nl (.thn ?_)
  refine WP.condF rfl ?_
  refine WP.sk (.thn ?_)
  refine WP.seq ?_
  refine WP.region ?_
  refine WL.op (fv fo_Tree_0 (ot rfl)) (by decide) ?_
  refine WL.op (lb 2 rfl sc_p_extree_node (ot rfl) rfl) (by decide) ?_
  refine WL.op (fv fo_Extent_0 (ot rfl)) (by decide) ?_
  refine WL.op (lb 1 rfl sc_int (ot rfl) rfl) (by decide) ?_
  refine WL.op (call hs1 (.c (ot rfl) (.c (ot rfl) .n))) (by decide) ?_
  refine WL.op (mv (ot rfl)) (by decide) ?_
  refine WL.op (ex (ot rfl) rfl) (by decide) ?_
  refine WL.op (ex (ot rfl) rfl) (by decide) ?_
  refine WL.op (asg (ot rfl)) (by decide) ?_
  refine WL.op (asg (ot rfl)) (by decide) ?_
  refine WL.nl (.thn ?_)
  refine WP.seq ?_
  refine WP.region ?_
  refine WL.op (mv (ot rfl)) (by decide) ?_
  refine WL.op (fv fo_Extent_0 (ot rfl)) (by decide) ?_
  refine WL.op (lb 1 rfl sc_int (ot rfl) rfl) (by decide) ?_
  refine WL.op (fv fo_Extent_1 (ot rfl)) (by decide) ?_
  refine WL.op (lb 1 rfl sc_int (ot rfl) rfl) (by decide) ?_
  refine WL.op (add (ot rfl) (ot rfl) (by omega)) (by decide) ?_
  refine WL.op (call hs2 (.c (ot rfl) (.c (ot rfl) .n))) (by decide) ?_
  refine WL.op (mv (ot rfl)) (by decide) ?_
  refine WL.op (ex (ot rfl) rfl) (by decide) ?_
  refine WL.op (ex (ot rfl) rfl) (by decide) ?_
  refine WL.op (asg (ot rfl)) (by decide) ?_
  refine WL.op (asg (ot rfl)) (by decide) ?_
  refine WL.nl (.thn ?_)
  refine WP.seq ?_
  refine WP.seq ?_
  refine WP.region ?_
  refine WL.op (mv (ot rfl)) (by decide) ?_
  refine WL.op (notnil' pt_p_extree_node (ot rfl)) (by decide) ?_
  refine WL.nl (.thn ?_)
  refine WP.condT rfl ?_
  refine WP.seq ?_
  refine WP.region ?_
  refine WL.op (mv (ot rfl)) (by decide) ?_
  refine WL.op (call hL (.c (ot rfl) .n)) (by decide) ?_
  refine WL.op (mv (ot rfl)) (by decide) ?_
  refine WL.op (ex (ot rfl) rfl) (by decide) ?_
  refine WL.op (ex (ot rfl) rfl) (by decide) ?_
  refine WL.alloc zr_Extent rfl (by decide) fun b11 => ?_
  refine WL.store 0 rfl (ot rfl) (ot rfl) (.agg _) sz_Extent rfl (le_ rfl) ?_
  refine WL.op (asg (ot rfl)) (by decide) ?_
  refine WL.nl (.thn ?_)
  refine WP.seq ?_
  refine WP.region ?_
  refine WL.op (lbs 0 rfl ag_Extent (ot rfl) (le_ rfl)) (by decide) ?_
  refine WL.op (lbs 2 rfl ag_Extent (ot rfl) (le_ rfl)) (by decide) ?_
  refine WL.op (call (c_x_follows (last la ya ra).1 x (by first | omega | (simp only []; omega)) (by first | omega | (simp only []; omega))) (.c (ot rfl) (.c (ot rfl) .n))) (by decide) ?_
  refine WL.nl (.thn ?_)
  refine WP.cond rfl (fun hc => ?_) (fun hc => ?_)
  · skip
    have f1 := of_decide_eq_true hc
    refine WP.region ?_
    refine WL.op (fv fo_Extent_0 (ot rfl)) (by decide) ?_
    refine WL.op (lb 0 rfl sc_int (ot rfl) rfl) (by decide) ?_
    refine WL.op (fv fo_Extent_1 (ot rfl)) (by decide) ?_
    refine WL.op (lb 0 rfl sc_int (ot rfl) rfl) (by decide) ?_
    refine WL.op (fv fo_Extent_1 (ot rfl)) (by decide) ?_
    refine WL.op (lb 2 rfl sc_int (ot rfl) rfl) (by decide) ?_
    refine WL.op (add (ot rfl) (ot rfl) (by omega)) (by decide) ?_
    refine WL.op (fv fo_Extent_2 (ot rfl)) (by decide) ?_
    refine WL.op (lb 0 rfl sc_int (ot rfl) rfl) (by decide) ?_
    refine WL.op (bld zr_Extent rfl ps_Extent (.c (ot rfl) (.leaf (.val rfl)) pl_Extent_0 rfl (le_ rfl) (.c (ot rfl) (.leaf (.val rfl)) pl_Extent_1 rfl (le_ rfl) (.c (ot rfl) (.leaf (.val rfl)) pl_Extent_2 rfl (le_ rfl) .n)))) (by decide) ?_
    refine WL.op (mv (ot rfl)) (by decide) ?_
    refine WL.store 2 rfl (ot rfl) (ot rfl) (.agg _) sz_Extent rfl (le_ rfl) ?_
    refine WL.op (asg (ot rfl)) (by decide) ?_
    refine WL.nl (.thn ?_)
    refine WP.seq ?_
    refine WP.seq ?_
    refine WP.region ?_
    refine WL.op (mv (ot rfl)) (by decide) ?_
    refine WL.op (notnil' pt_p_extree_node (ot rfl)) (by decide) ?_
    refine WL.nl (.thn ?_)
    refine WP.condT rfl ?_
    refine WP.seq ?_
    refine WP.region ?_
    refine WL.op (mv (ot rfl)) (by decide) ?_
    refine WL.op (call hF (.c (ot rfl) .n)) (by decide) ?_
    refine WL.op (mv (ot rfl)) (by decide) ?_
    refine WL.op (ex (ot rfl) rfl) (by decide) ?_
    refine WL.op (ex (ot rfl) rfl) (by decide) ?_
    refine WL.alloc zr_Extent rfl (by decide) fun b13 => ?_
    refine WL.store 0 rfl (ot rfl) (ot rfl) (.agg _) sz_Extent rfl (le_ rfl) ?_
    refine WL.op (asg (ot rfl)) (by decide) ?_
    refine WL.nl (.thn ?_)
    refine WP.seq ?_
    refine WP.region ?_
    refine WL.op (lbs 3 rfl ag_Extent (ot rfl) (le_ rfl)) (by decide) ?_
    refine WL.op (lbs 0 rfl ag_Extent (ot rfl) (le_ rfl)) (by decide) ?_
    refine WL.op (call (c_x_follows ⟨(last la ya ra).1.a, (last la ya ra).1.n + x.n, (last la ya ra).1.s⟩ (first lq yb rq).1 (by first | omega | (simp only []; omega)) (by first | omega | (simp only []; omega))) (.c (ot rfl) (.c (ot rfl) .n))) (by decide) ?_
    refine WL.nl (.thn ?_)
    refine WP.cond rfl (fun hc => ?_) (fun hc => ?_)
    · skip
      have f2 := of_decide_eq_true hc
      refine WP.seq ?_
      refine WP.region ?_
      refine WL.op (fv fo_Extent_1 (ot rfl)) (by decide) ?_
      refine WL.op (lb 3 rfl sc_int (ot rfl) rfl) (by decide) ?_
      refine WL.op (fv fo_Extent_1 (ot rfl)) (by decide) ?_
      refine WL.op (lb 0 rfl sc_int (ot rfl) rfl) (by decide) ?_
      refine WL.op (add (ot rfl) (ot rfl) (by omega)) (by decide) ?_
      refine WL.op (fv fo_Extent_1 (ot rfl)) (by decide) ?_
      refine WL.store 3 rfl (ot rfl) (ot rfl) (.leaf (.val rfl)) sz_int rfl (le_ rfl) ?_
      refine WL.nl (.thn ?_)
      refine WP.region ?_
      refine WL.op (mv (ot rfl)) (by decide) ?_
      refine WL.op (asg (ot rfl)) (by decide) ?_
      refine WL.nl (.thn ?_)
      refine WP.seq ?_
      refine WP.region ?_
      refine WL.op (mv (ot rfl)) (by decide) ?_
      refine WL.op (lbs 3 rfl ag_Extent (ot rfl) (le_ rfl)) (by decide) ?_
      refine WL.op (mv (ot rfl)) (by decide) ?_
      refine WL.op (call (by have q := hj; simp only [glueL, glueR, f1, f2, ↓reduceIte] at q; exact q) (.c (ot rfl) (.c (ot rfl) (.c (ot rfl) .n)))) (by decide) ?_
      refine WL.op (bld zr_Tree rfl ps_Tree (.c (ot rfl) (.leaf (leaf_tree _)) pl_Tree_0 rfl (le_ rfl) .n)) (by decide) ?_
      refine WL.op (mv (ot rfl)) (by decide) ?_
      refine WL.op (call hm (.c (ot rfl) .n)) (by decide) ?_
      refine WL.store 2 rfl (ot rfl) (ot rfl) (.agg _) sz_Tree rfl (le_ rfl) ?_
      refine WL.op (asg (ot rfl)) (by decide) ?_
      refine WL.op (asg (oc _)) (by decide) ?_
      refine WL.nl (.thn ?_)
      exact WP.rt (.rN rfl (.cons (.bx 2 rfl rfl ag_Tree) (.cons (.tm rfl) (.cons (.tm rfl) .nil))) (le_ rfl) (imp _))
    · skip
      have f2 := of_decide_eq_false hc
      refine WP.sk (.thn ?_)
      refine WP.seq ?_
      refine WP.region ?_
      refine WL.op (mv (ot rfl)) (by decide) ?_
      refine WL.op (lbs 3 rfl ag_Extent (ot rfl) (le_ rfl)) (by decide) ?_
      refine WL.op (mv (ot rfl)) (by decide) ?_
      refine WL.op (call (by have q := hj; simp only [glueL, glueR, f1, f2, ↓reduceIte] at q; exact q) (.c (ot rfl) (.c (ot rfl) (.c (ot rfl) .n)))) (by decide) ?_
      refine WL.op (bld zr_Tree rfl ps_Tree (.c (ot rfl) (.leaf (leaf_tree _)) pl_Tree_0 rfl (le_ rfl) .n)) (by decide) ?_
      refine WL.op (mv (ot rfl)) (by decide) ?_
      refine WL.op (call hm (.c (ot rfl) .n)) (by decide) ?_
      refine WL.store 2 rfl (ot rfl) (ot rfl) (.agg _) sz_Tree rfl (le_ rfl) ?_
      refine WL.op (asg (ot rfl)) (by decide) ?_
      refine WL.op (asg (oc _)) (by decide) ?_
      refine WL.nl (.thn ?_)
      exact WP.rt (.rN rfl (.cons (.bx 2 rfl rfl ag_Tree) (.cons (.tm rfl) (.cons (.tm rfl) .nil))) (le_ rfl) (imp _))
  · skip
    have f1 := of_decide_eq_false hc
    refine WP.sk (.thn ?_)
    refine WP.seq ?_
    refine WP.seq ?_
    refine WP.region ?_
    refine WL.op (mv (ot rfl)) (by decide) ?_
    refine WL.op (notnil' pt_p_extree_node (ot rfl)) (by decide) ?_
    refine WL.nl (.thn ?_)
    refine WP.condT rfl ?_
    refine WP.seq ?_
    refine WP.region ?_
    refine WL.op (mv (ot rfl)) (by decide) ?_
    refine WL.op (call hF (.c (ot rfl) .n)) (by decide) ?_
    refine WL.op (mv (ot rfl)) (by decide) ?_
    refine WL.op (ex (ot rfl) rfl) (by decide) ?_
    refine WL.op (ex (ot rfl) rfl) (by decide) ?_
    refine WL.alloc zr_Extent rfl (by decide) fun b13 => ?_
    refine WL.store 0 rfl (ot rfl) (ot rfl) (.agg _) sz_Extent rfl (le_ rfl) ?_
    refine WL.op (asg (ot rfl)) (by decide) ?_
    refine WL.nl (.thn ?_)
    refine WP.seq ?_
    refine WP.region ?_
    refine WL.op (lbs 3 rfl ag_Extent (ot rfl) (le_ rfl)) (by decide) ?_
    refine WL.op (lbs 0 rfl ag_Extent (ot rfl) (le_ rfl)) (by decide) ?_
    refine WL.op (call (c_x_follows x (first lq yb rq).1 (by first | omega | (simp only []; omega)) (by first | omega | (simp only []; omega))) (.c (ot rfl) (.c (ot rfl) .n))) (by decide) ?_
    refine WL.nl (.thn ?_)
    refine WP.cond rfl (fun hc => ?_) (fun hc => ?_)
    · skip
      have f2 := of_decide_eq_true hc
      refine WP.seq ?_
      refine WP.region ?_
      refine WL.op (fv fo_Extent_1 (ot rfl)) (by decide) ?_
      refine WL.op (lb 3 rfl sc_int (ot rfl) rfl) (by decide) ?_
      refine WL.op (fv fo_Extent_1 (ot rfl)) (by decide) ?_
      refine WL.op (lb 0 rfl sc_int (ot rfl) rfl) (by decide) ?_
      refine WL.op (add (ot rfl) (ot rfl) (by omega)) (by decide) ?_
      refine WL.op (fv fo_Extent_1 (ot rfl)) (by decide) ?_
      refine WL.store 3 rfl (ot rfl) (ot rfl) (.leaf (.val rfl)) sz_int rfl (le_ rfl) ?_
      refine WL.nl (.thn ?_)
      refine WP.region ?_
      refine WL.op (mv (ot rfl)) (by decide) ?_
      refine WL.op (asg (ot rfl)) (by decide) ?_
      refine WL.nl (.thn ?_)
      refine WP.seq ?_
      refine WP.region ?_
      refine WL.op (mv (ot rfl)) (by decide) ?_
      refine WL.op (lbs 3 rfl ag_Extent (ot rfl) (le_ rfl)) (by decide) ?_
      refine WL.op (mv (ot rfl)) (by decide) ?_
      refine WL.op (call (by have q := hj; simp only [glueL, glueR, f1, f2, ↓reduceIte] at q; exact q) (.c (ot rfl) (.c (ot rfl) (.c (ot rfl) .n)))) (by decide) ?_
      refine WL.op (bld zr_Tree rfl ps_Tree (.c (ot rfl) (.leaf (leaf_tree _)) pl_Tree_0 rfl (le_ rfl) .n)) (by decide) ?_
      refine WL.op (mv (ot rfl)) (by decide) ?_
      refine WL.op (call hm (.c (ot rfl) .n)) (by decide) ?_
      refine WL.store 2 rfl (ot rfl) (ot rfl) (.agg _) sz_Tree rfl (le_ rfl) ?_
      refine WL.op (asg (ot rfl)) (by decide) ?_
      refine WL.op (asg (oc _)) (by decide) ?_
      refine WL.nl (.thn ?_)
      exact WP.rt (.rN rfl (.cons (.bx 2 rfl rfl ag_Tree) (.cons (.tm rfl) (.cons (.tm rfl) .nil))) (le_ rfl) (imp _))
    · skip
      have f2 := of_decide_eq_false hc
      refine WP.sk (.thn ?_)
      refine WP.seq ?_
      refine WP.region ?_
      refine WL.op (mv (ot rfl)) (by decide) ?_
      refine WL.op (lbs 3 rfl ag_Extent (ot rfl) (le_ rfl)) (by decide) ?_
      refine WL.op (mv (ot rfl)) (by decide) ?_
      refine WL.op (call (by have q := hj; simp only [glueL, glueR, f1, f2, ↓reduceIte] at q; exact q) (.c (ot rfl) (.c (ot rfl) (.c (ot rfl) .n)))) (by decide) ?_
      refine WL.op (bld zr_Tree rfl ps_Tree (.c (ot rfl) (.leaf (leaf_tree _)) pl_Tree_0 rfl (le_ rfl) .n)) (by decide) ?_
      refine WL.op (mv (ot rfl)) (by decide) ?_
      refine WL.op (call hm (.c (ot rfl) .n)) (by decide) ?_
      refine WL.store 2 rfl (ot rfl) (ot rfl) (.agg _) sz_Tree rfl (le_ rfl) ?_
      refine WL.op (asg (ot rfl)) (by decide) ?_
      refine WL.op (asg (oc _)) (by decide) ?_
      refine WL.nl (.thn ?_)
      exact WP.rt (.rN rfl (.cons (.bx 2 rfl rfl ag_Tree) (.cons (.tm rfl) (.cons (.tm rfl) .nil))) (le_ rfl) (imp _))

theorem c_x_Put {t : Tr} {x : X} (h : Wt t) (h0 : 0 ≤ x.a) (hx : Vx x) : PureC Tryz.prog 100 [eT t, ext x] (tup [eT (put t x).1, sl 3 FX (put t x).2.list, I 0]) := by
  obtain ⟨hw, hl2, hsem, hl, gb, kb, gv⟩ := put_spec h h0 hx
  obtain ⟨w1, w2, w3, w4, he, ho4, m1, m4, l3⟩ := split_facts h (a := x.a) (n := x.n) h0 (by have := hx.1; omega)
  have hV : PureC Tryz.prog 125 [sl 3 FX [x]] (val (.bool true)) := by
    have := c_extent_Valid [x] (by simp)
    rwa [decide_eq_true (show Xt.Ok 0 [x] from ⟨h0, hx.1, hx.2.1, hx.2.2.1, hx.2.2.2, trivial⟩)] at this
  have hs1 := c_n_split t x.a h.1 h.2.1
  have hs2 := c_n_split (split t x.a).2 (x.a + x.n) w2.1 w2.2.1
  have hm := c_n_list (split (split t x.a).2 (x.a + x.n)).1 (by have := (w3.2.1.bd (Int.le_refl 0)).2.1; omega)
  have hj : PureC Tryz.prog 130 _ (tree (put t x).1) := c_x_join (l := (glueL (split t x.a).1 x).2) (r := (glueR (glueL (split t x.a).1 x).1 (split (split t x.a).2 (x.a + x.n)).2).2) gb kb (by rw [← hl]; exact hw.2.1.bd (Int.le_refl 0))
  have hv : 0 ≤ x.a ∧ 1 ≤ x.n ∧ 0 ≤ x.s ∧ x.a + x.n ≤ 65536 ∧ x.s + x.n ≤ 65536 := ⟨h0, hx⟩
  show PureC Tryz.prog 100 [eT t, ext x] (tup [eT (put t x).1, sl 3 FX (split (split t x.a).2 (x.a + x.n)).1.list, I 0])
  generalize (put t x).1 = T at *
  generalize hmid : (split (split t x.a).2 (x.a + x.n)).1 = mid at *
  generalize hbb : (split (split t x.a).2 (x.a + x.n)).2 = b at *
  generalize hrr : (split t x.a).2 = rest at *
  generalize haa : (split t x.a).1 = a at *
  have lastv : ∀ la ya ra, a = .node la ya ra → _ := fun la ya ra e => by
    have := w1.2.1.starts (last la ya ra).1 (by rw [e, ← (last_spec ra la ya (e ▸ w1.1)).1]; simp)
    exact this
  have firstv : ∀ lq yb rq, b = .node lq yb rq → _ := fun lq yb rq e => by
    have := w4.2.1.starts (first lq yb rq).1 (by rw [e, ← (first_spec lq yb rq (e ▸ w4.1)).1]; simp)
    exact this
  cases a with
  | nil => cases b with
    | nil => exact c_Put_nn hV hs1 hs2 hv hm hj
    | node lq yb rq => exact c_Put_ns hV hs1 hs2 hv hm hj (c_n_first lq yb rq w4.1 (w4.2.1.bd (Int.le_refl 0))) (firstv _ _ _ rfl)
  | node la ya ra => cases b with
    | nil => exact c_Put_sn hV hs1 hs2 hv hm hj (c_n_last ra la ya w1.1 (w1.2.1.bd (Int.le_refl 0))) (lastv _ _ _ rfl)
    | node lq yb rq => exact c_Put_ss hV hs1 hs2 hv hm hj (c_n_last ra la ya w1.1 (w1.2.1.bd (Int.le_refl 0))) (lastv _ _ _ rfl) (c_n_first lq yb rq w4.1 (w4.2.1.bd (Int.le_refl 0))) (firstv _ _ _ rfl)
theorem c_x_Put_err {t : Tr} {x : X} (hx : ¬ Xt.Ok 0 [x]) : PureC Tryz.prog 100 [eT t, ext x] eErr := c_Put_err (by
  have := c_extent_Valid [x] (by simp)
  rwa [decide_eq_false hx] at this)

theorem c_x_Cut_err {t : Tr} {a n : Int} (hw : ¬ Wi a n 65536) : PureC Tryz.prog 101 [eT t, I a, I n] eErr := by
  refine PureC.of_wp Tryz.func101 (by kernel_rfl) rfl Tryz.ntmps101 (le_ rfl) (fun w0 M0 => ?_)
  refine WP.seq ?_
  refine WP.region ?_
  refine WL.box (ot rfl) (.agg _) (by decide) fun b3 => ?_
  refine WL.alloc zr_Tree rfl (by decide) fun b6 => ?_
  refine WL.op (asg (oc _)) (by decide) ?_
  refine WL.op (asg (oc _)) (by decide) ?_
  refine WL.nl (.thn ?_)
  refine WP.seq ?_
  refine WP.seq ?_
  refine WP.region ?_
  refine WL.op (mv (ot rfl)) (by decide) ?_
  refine WL.op (mv (ot rfl)) (by decide) ?_
  refine WL.op ((OpG.weak (call (c_x_proper _ _) (.c (ot rfl) (.c (ot rfl) .n))) (imp_eq (congrArg (fun b => val (.bool b)) (decide_eq_false hw))))) (by decide) ?_
  refine WL.op (not_ (ot rfl)) (by decide) ?_
  refine WL.nl (.thn ?_)
  refine WP.condT rfl ?_
  refine WP.seq ?_
  refine WP.region ?_
  refine WL.op (bld zr_Tree rfl ps_Tree .n) (by decide) ?_
  refine WL.store 0 rfl (ot rfl) (ot rfl) (.agg _) sz_Tree rfl (le_ rfl) ?_
  refine WL.op (OpG.weak (asg (oc _)) (sl_nil (sz := 3) (f := FX))) (by decide) ?_
  refine WL.op (asg (oc _)) (by decide) ?_
  refine WL.nl (.thn ?_)
  exact WP.rt (.rthn (.rN rfl (.cons (.bx 0 rfl rfl ag_Tree) (.cons (.tm rfl) (.cons (.tm rfl) .nil))) (le_ rfl) (imp _)))
theorem c_x_Cut_0 {t : Tr} {a : Int} (hw : Wi a 0 65536) : PureC Tryz.prog 101 [eT t, I a, I 0] (tup [eT t, sl 3 FX ([] : List X), I 0]) := by
  refine PureC.of_wp Tryz.func101 (by kernel_rfl) rfl Tryz.ntmps101 (le_ rfl) (fun w0 M0 => ?_)
  refine WP.seq ?_
  refine WP.region ?_
  refine WL.box (ot rfl) (.agg _) (by decide) fun b3 => ?_
  refine WL.alloc zr_Tree rfl (by decide) fun b6 => ?_
  refine WL.op (asg (oc _)) (by decide) ?_
  refine WL.op (asg (oc _)) (by decide) ?_
  refine WL.nl (.thn ?_)
  refine WP.seq ?_
  refine WP.seq ?_
  refine WP.region ?_
  refine WL.op (mv (ot rfl)) (by decide) ?_
  refine WL.op (mv (ot rfl)) (by decide) ?_
  refine WL.op ((OpG.weak (call (c_x_proper _ _) (.c (ot rfl) (.c (ot rfl) .n))) (imp_eq (congrArg (fun b => val (.bool b)) (decide_eq_true hw))))) (by decide) ?_
  refine WL.op (not_ (ot rfl)) (by decide) ?_
  refine WL.nl (.thn ?_)
  refine WP.condF rfl ?_
  refine WP.sk (.thn ?_)
  refine WP.seq ?_
  refine WP.seq ?_
  refine WP.region ?_
  refine WL.op (mv (ot rfl)) (by decide) ?_
  refine WL.op ((OpG.weak (eql (ot rfl) (oc _)) (imp_eq (congrArg (fun b => val (.bool b)) (decide_eq_true rfl))))) (by decide) ?_
  refine WL.nl (.thn ?_)
  refine WP.condT rfl ?_
  refine WP.seq ?_
  refine WP.region ?_
  refine WL.op (lbs 1 rfl ag_Tree (ot rfl) (le_ rfl)) (by decide) ?_
  refine WL.store 0 rfl (ot rfl) (ot rfl) (.agg _) sz_Tree rfl (le_ rfl) ?_
  refine WL.op (OpG.weak (asg (oc _)) (sl_nil (sz := 3) (f := FX))) (by decide) ?_
  refine WL.op (asg (oc _)) (by decide) ?_
  refine WL.nl (.thn ?_)
  exact WP.rt (.rthn (.rN rfl (.cons (.bx 0 rfl rfl ag_Tree) (.cons (.tm rfl) (.cons (.tm rfl) .nil))) (le_ rfl) (imp _)))
theorem c_x_Cut {t : Tr} {a n : Int} (h : Wt t) (hw : Wi a n 65536) (hn : 1 ≤ n) : PureC Tryz.prog 101 [eT t, I a, I n] (tup [eT (cut t a n).1, sl 3 FX (cut t a n).2.list, I 0]) := by
  have hw' := hw
  unfold Wi at hw'
  obtain ⟨w1, w2, w3, w4, he, ho4, m1, m4, l3⟩ := split_facts h (a := a) (n := n) (by omega) (by omega)
  have hB : Bd ((split t a).1.list ++ (split (split t a).2 (a + n)).2.list) := by
    have := (cut_spec h (a := a) (n := n) (by omega) hn).1.2.1.bd (Int.le_refl 0)
    rwa [show (cut t a n).1.list = _ from (concat_spec w1.1 w4.1).1] at this
  have hM : (split (split t a).2 (a + n)).1.list.length ≤ 99999 := by have := (w3.2.1.bd (Int.le_refl 0)).2.1; omega
  refine PureC.of_wp Tryz.func101 (by kernel_rfl) rfl Tryz.ntmps101 (le_ rfl) (fun w0 M0 => ?_)
  refine WP.seq ?_
  refine WP.region ?_
  refine WL.box (ot rfl) (.agg _) (by decide) fun b3 => ?_
  refine WL.alloc zr_Tree rfl (by decide) fun b6 => ?_
  refine WL.op (asg (oc _)) (by decide) ?_
  refine WL.op (asg (oc _)) (by decide) ?_
  refine WL.nl (.thn ?_)
  refine WP.seq ?_
  refine WP.seq ?_
  refine WP.region ?_
  refine WL.op (mv (ot rfl)) (by decide) ?_
  refine WL.op (mv (ot rfl)) (by decide) ?_
  refine WL.op ((OpG.weak (call (c_x_proper _ _) (.c (ot rfl) (.c (ot rfl) .n))) (imp_eq (congrArg (fun b => val (.bool b)) (decide_eq_true hw))))) (by decide) ?_
  refine WL.op (not_ (ot rfl)) (by decide) ?_
  refine WL.nl (.thn ?_)
  refine WP.condF rfl ?_
  refine WP.sk (.thn ?_)
  refine WP.seq ?_
  refine WP.seq ?_
  refine WP.region ?_
  refine WL.op (mv (ot rfl)) (by decide) ?_
  refine WL.op ((OpG.weak (eql (ot rfl) (oc _)) (imp_eq (congrArg (fun b => val (.bool b)) (decide_eq_false (by omega)))))) (by decide) ?_
  refine WL.nl (.thn ?_)
  refine WP.condF rfl ?_
  refine WP.sk (.thn ?_)
  refine WP.seq ?_
  refine WP.region ?_
  refine WL.op (fv fo_Tree_0 (ot rfl)) (by decide) ?_
  refine WL.op (lb 1 rfl sc_p_extree_node (ot rfl) rfl) (by decide) ?_
  refine WL.op (mv (ot rfl)) (by decide) ?_
  refine WL.op (call (c_n_split t a h.1 h.2.1) (.c (ot rfl) (.c (ot rfl) .n))) (by decide) ?_
  refine WL.op (mv (ot rfl)) (by decide) ?_
  refine WL.op (ex (ot rfl) rfl) (by decide) ?_
  refine WL.op (ex (ot rfl) rfl) (by decide) ?_
  refine WL.op (asg (ot rfl)) (by decide) ?_
  refine WL.op (asg (ot rfl)) (by decide) ?_
  refine WL.nl (.thn ?_)
  refine WP.seq ?_
  refine WP.region ?_
  refine WL.op (mv (ot rfl)) (by decide) ?_
  refine WL.op (mv (ot rfl)) (by decide) ?_
  refine WL.op (mv (ot rfl)) (by decide) ?_
  refine WL.op (add (ot rfl) (ot rfl) (by omega)) (by decide) ?_
  refine WL.op (call (c_n_split (split t a).2 (a + n) w2.1 w2.2.1) (.c (ot rfl) (.c (ot rfl) .n))) (by decide) ?_
  refine WL.op (mv (ot rfl)) (by decide) ?_
  refine WL.op (ex (ot rfl) rfl) (by decide) ?_
  refine WL.op (ex (ot rfl) rfl) (by decide) ?_
  refine WL.op (asg (ot rfl)) (by decide) ?_
  refine WL.op (asg (ot rfl)) (by decide) ?_
  refine WL.nl (.thn ?_)
  refine WP.seq ?_
  refine WP.region ?_
  refine WL.op (mv (ot rfl)) (by decide) ?_
  refine WL.op (mv (ot rfl)) (by decide) ?_
  refine WL.op (call (c_x_concat w1.1 w4.1 hB) (.c (ot rfl) (.c (ot rfl) .n))) (by decide) ?_
  refine WL.op (bld zr_Tree rfl ps_Tree (.c (ot rfl) (.leaf (leaf_tree _)) pl_Tree_0 rfl (le_ rfl) .n)) (by decide) ?_
  refine WL.op (mv (ot rfl)) (by decide) ?_
  refine WL.op (call (c_n_list (split (split t a).2 (a + n)).1 hM) (.c (ot rfl) .n)) (by decide) ?_
  refine WL.store 0 rfl (ot rfl) (ot rfl) (.agg _) sz_Tree rfl (le_ rfl) ?_
  refine WL.op (asg (ot rfl)) (by decide) ?_
  refine WL.op (asg (oc _)) (by decide) ?_
  refine WL.nl (.thn ?_)
  exact WP.rt (.rN rfl (.cons (.bx 0 rfl rfl ag_Tree) (.cons (.tm rfl) (.cons (.tm rfl) .nil))) (le_ rfl) (imp _))
theorem c_x_Tree_Blocks (t : Tr) : PureC Tryz.prog 67 [eT t] (I t.blocks) := by
  refine PureC.of_wp Tryz.func67 (by kernel_rfl) rfl Tryz.ntmps67 (le_ rfl) (fun w0 M0 => ?_)
  refine WP.seq ?_
  refine WP.region ?_
  refine WL.box (ot rfl) (.agg _) (by decide) fun b1 => ?_
  refine WL.op (asg (oc _)) (by decide) ?_
  refine WL.nl (.thn ?_)
  refine WP.seq ?_
  refine WP.region ?_
  refine WL.op (fv fo_Tree_0 (ot rfl)) (by decide) ?_
  refine WL.op (lb 0 rfl sc_p_extree_node (ot rfl) rfl) (by decide) ?_
  refine WL.op (call (c_n_mapped) (.c (ot rfl) .n)) (by decide) ?_
  refine WL.op (asg (ot rfl)) (by decide) ?_
  refine WL.nl (.thn ?_)
  exact WP.rt (.r1 rfl rfl (imp _))
end Go.Proofs.YtjglgfnhgehpeaaGreat

/- All extents of a tree by a range over its iterator. -/
set_option linter.unusedVariables false
set_option linter.unusedSimpArgs false
set_option maxRecDepth 4000
namespace Go.Proofs.YtjglgfnhgehpeaaGreat
open Go.RowKit Go.Fw Go.Xt
abbrev evX (x : X) : Value := .agg #[.int .i64 x.a, .int .i64 x.n, .int .i64 x.s]
abbrev itR (t : Tr) : Rp := iterR Tryz.prog 135 (fun x => #[evX x]) t.list
theorem e_all1 : Enters Tryz.prog 135 := enters_of Tryz.func135 rfl rfl
theorem mfn_it {bs : List Box} {lk : Nat → Option Rp} {i : Nat} {ty : TypeId} {t : Tr} (hx : lk i = some (at_ [tree t])) : OpG Tryz.prog bs lk (.makeFunc (.func 135) #[] #[.tmp i]) ty (itR t) := OpG.pure fun σ w M hf _ => by
  obtain ⟨b, o, h1, h2, h3, h4⟩ := hf (.tmp i) (by simp [Op.operands]) i _ rfl hx
  refine ⟨.func (.func 135) #[] #[σ i], by simp [execOp, Instr.makeFunc, ev], #[σ i], rfl, e_all1, fun w' M' k => ?_⟩
  rw [h1]
  have h5 := h4.keep k h2 h3
  obtain ⟨⟨c, g1, _, g3⟩, _⟩ := h5
  obtain ⟨p0, rfl⟩ := tree_ptr g3
  exact all_stops Fence.wide rfl 1 trivial trivial rfl (fun b hb => .inr hb) g1 (Nat.lt_of_lt_of_le h2 k.size) (Rp.keep _ g3 ⟨fun b _ _ => rfl, Nat.le_refl _, fun b hb => hb⟩)
theorem c_x_Tree_All (t : Tr) : PureC Tryz.prog 105 [eT t] (itR t) := by
  refine PureC.of_wp Tryz.func105 (by kernel_rfl) rfl Tryz.ntmps105 (le_ rfl) (fun w0 M0 => ?_)
  refine WP.seq ?_
  refine WP.region ?_
  refine WL.op (boxi (ot rfl) (.agg _)) (by decide) ?_
  refine WL.op (asg (oc _)) (by decide) ?_
  refine WL.nl (.thn ?_)
  refine WP.seq ?_
  refine WP.region ?_
  refine WL.op (mfn_it rfl) (by decide) ?_
  refine WL.op (asg (ot rfl)) (by decide) ?_
  refine WL.nl (.thn ?_)
  exact WP.rt (.r1 rfl rfl (imp _))
theorem pl_FX (x : X) : ∀ R ∈ FX x, Pl R := fun R hR => by
  simp only [FX, List.mem_cons, List.not_mem_nil, or_false] at hR
  rcases hR with rfl | rfl | rfl <;> exact Pl.val _
theorem pl_FXs (xs : List X) : ∀ R ∈ xs.flatMap FX, Pl R := fun R hR => by
  obtain ⟨x, _, h⟩ := List.mem_flatMap.1 hR
  exact pl_FX x R h
end Go.Proofs.YtjglgfnhgehpeaaGreat

/- Sizes and places: see Lay. -/

/- Sizes and places: see Lay. -/

/- A step, of a list and of a tree, plainly. -/
namespace Go.Xt
open Go.Proofs.YtjglgfnhgehpeaaGreat
def rCut (L : List X) (a n : Int) : List X × List X × Int := if Wi a n 65536 then (rcut L a n, Jn (parts L a (a + n)), 0) else ([], [], 1)
def rPut (L : List X) (x : X) : List X × List X × Int := if Pr x then (rput L x, Jn (parts L x.a (x.a + x.n)), 0) else ([], [], 1)
def tCut (t : Tr) (a n : Int) : Tr × List X × Int := if Wi a n 65536 then (if n = 0 then (t, [], 0) else ((cut t a n).1, (cut t a n).2.list, 0)) else (.nil, [], 1)
def tPut (t : Tr) (x : X) : Tr × List X × Int := if Pr x then ((put t x).1, (put t x).2.list, 0) else (.nil, [], 1)
structure Like (t : Tr × List X × Int) (r : List X × List X × Int) : Prop where
  e : t.2.2 = r.2.2
  part : t.2.1 = r.2.1
  list : t.1.list = r.1
  wt : Wt t.1
theorem wt_nil' : Wt .nil := ⟨trivial, trivial, trivial⟩
theorem parts_none {L : List X} {a : Int} : parts L a a = [] := by
  unfold parts
  rw [List.filterMap_eq_nil_iff]
  intro x _
  unfold part
  rw [if_neg (by omega)]
theorem like_cut {t : Tr} (h : Wt t) (a n : Int) : Like (tCut t a n) (rCut t.list a n) := by
  unfold tCut rCut
  split
  · rename_i hw
    obtain ⟨w1, w2, w3, w4⟩ := hw
    split
    · rename_i h0
      subst h0
      refine ⟨rfl, by rw [Int.add_zero, parts_none]; rfl, ?_, h⟩
      obtain ⟨j1, j2, j3⟩ := jn_spec (ok_rcut h.2.1 w1 (Int.le_refl 0))
      refine nf_unique _ _ 0 0 h.2.1 j1 h.2.2 j2 fun b => ?_
      show sem t.list b = sem (rcut t.list a 0) b
      unfold rcut
      rw [j3, sem_append, sem_parts, sem_parts, Int.add_zero]
      by_cases q1 : 0 ≤ b ∧ b < a
      · rw [if_pos q1]; cases sem t.list b with
        | none => rw [if_neg (by omega)]; rfl
        | some _ => rfl
      · rw [if_neg q1]
        by_cases q2 : a ≤ b ∧ b < 65536
        · rw [if_pos q2]; rfl
        · rw [if_neg q2]
          by_cases q3 : b < 0
          · rw [sem_lt h.2.1 q3]; rfl
          · rw [sem_ge h.2.1 (by omega)]; rfl
    · rename_i h0
      obtain ⟨e1, e2⟩ := cut_ref h w1 (show 1 ≤ n by omega)
      exact ⟨rfl, e2, e1, (cut_spec h w1 (by omega)).1⟩
  · exact ⟨rfl, rfl, rfl, wt_nil'⟩
theorem like_put {t : Tr} (h : Wt t) (x : X) : Like (tPut t x) (rPut t.list x) := by
  unfold tPut rPut
  split
  · rename_i hw
    obtain ⟨h1, ⟨a1, a2, a3, a4⟩, ⟨b1, b2, b3, b4⟩⟩ := hw
    have hx : Vx x := ⟨h1, b1, by omega, by omega⟩
    obtain ⟨e1, e2⟩ := put_ref h a1 hx
    exact ⟨rfl, e2, e1, (put_spec h a1 hx).1⟩
  · exact ⟨rfl, rfl, rfl, wt_nil'⟩
def Low (L : List X) : Prop := ∀ b, 600 ≤ b → sem L b = none
theorem sem_past : ∀ {L : List X} {c b : Int}, (∀ z ∈ L, z.a + z.n ≤ c) → c ≤ b → sem L b = none
  | [], _, _, _, _ => rfl
  | x :: L, c, b, h, hb => by
    have := h x List.mem_cons_self
    simp only [sem]
    rw [if_neg (by omega)]
    exact sem_past (fun z hz => h z (List.mem_cons_of_mem _ hz)) hb
def Tr.isN : Tr → Bool
  | .nil => false
  | .node _ _ _ => true
def find : Tr → Int → Option Int
  | .nil, _ => none
  | .node l x r, b => if b < x.a then find l b else if x.a + x.n ≤ b then find r b else some (x.s + b - x.a)
end Go.Xt

/- Extents put in a rotated order, plainly. -/
namespace Go.Xt
open Go.Proofs.YtjglgfnhgehpeaaGreat
def cov (x : X) (b : Int) : Prop := x.a ≤ b ∧ b < x.a + x.n
theorem sem_mem : ∀ {L : List X} {z : X} {b : Int}, z ∈ L → cov z b → ∃ v, sem L b = some v
  | x :: L, z, b, hz, hc => by
    simp only [sem]
    by_cases q : x.a ≤ b ∧ b < x.a + x.n
    · exact ⟨_, if_pos q⟩
    · rw [if_neg q]
      rcases List.mem_cons.1 hz with rfl | hz
      · exact absurd hc q
      · exact sem_mem hz hc
theorem getX_eq {L : List X} {p : Nat} (hp : p < L.length) : L.getD p default = L[p] := by
  rw [List.getD_eq_getElem?_getD, List.getElem?_eq_getElem hp]; rfl
theorem getX_mem {L : List X} {p : Nat} (hp : p < L.length) : L.getD p default ∈ L := by
  rw [getX_eq hp]; exact List.getElem_mem hp
def kI (n r : Int) (back : Bool) (i : Int) : Int := if back then n - 1 - (i + r) % n else (i + r) % n
def kX (xs : List X) (r : Int) (back : Bool) (i : Nat) : X := xs.getD (kI xs.length r back i).toNat default
structure OrdT (xs : List X) (r : Int) (back : Bool) (i : Nat) (t : Tr) : Prop where
  wt : Wt t
  only : ∀ b v, sem t.list b = some v → ∃ i', i' < i ∧ cov (kX xs r back i') b
  all : ∀ b i', i' < i → cov (kX xs r back i') b → sem t.list b = some ((kX xs r back i').s + b - (kX xs r back i').a)
end Go.Xt

/- Counts of slots, plainly. -/
namespace Go.Xt
def inc (d : Int) (out : List Int) (a : Nat) : Nat → List Int
  | 0 => out
  | k + 1 => (inc d out a k).set (a + k) ((inc d out a k).getD (a + k) 0 + d)
def chg (d : Int) (cs : List Int) (xs : List X) : List Int := xs.foldl (fun out x => inc d out x.s.toNat x.n.toNat) cs
def hits (xs : List X) (s : Int) : Int := match xs with
  | [] => 0
  | x :: xs => (if x.s ≤ s ∧ s < x.s + x.n then 1 else 0) + hits xs s
def perm1 (N : Int) (x : X) : Bool := decide (1 ≤ x.n) && decide (0 ≤ x.s) && decide (x.s ≤ N) && decide (x.n ≤ N - x.s)
def permB (N : Int) (xs : List X) : Bool := xs.foldl (fun ok x => ok && perm1 N x) true
theorem foldl_and {α : Type} (p : α → Bool) : ∀ (xs : List α) (b : Bool), xs.foldl (fun ok x => ok && p x) b = (b && xs.all p)
  | [], b => by simp
  | x :: xs, b => by rw [List.foldl_cons, foldl_and p xs, List.all_cons, Bool.and_assoc]
theorem permB_iff {N : Int} {xs : List X} : permB N xs = true ↔ ∀ x ∈ xs, 1 ≤ x.n ∧ 0 ≤ x.s ∧ x.s + x.n ≤ N := by
  unfold permB
  rw [foldl_and, Bool.true_and, List.all_eq_true]
  constructor <;> intro h x hx <;> have := h x hx <;> simp only [perm1, Bool.and_eq_true, decide_eq_true_eq] at * <;> omega
theorem inc_len (d : Int) (out : List Int) (a : Nat) : ∀ k, (inc d out a k).length = out.length
  | 0 => rfl
  | k + 1 => by simp only [inc, List.length_set]; exact inc_len d out a k
theorem inc_get (d : Int) (out : List Int) (a : Nat) : ∀ (k : Nat), a + k ≤ out.length → ∀ s, (inc d out a k).getD s 0 = out.getD s 0 + (if a ≤ s ∧ s < a + k then d else 0)
  | 0, _, s => by simp only [inc]; rw [if_neg (by omega)]; omega
  | k + 1, h, s => by
    have ih := inc_get d out a k (by omega)
    have hl := inc_len d out a k
    simp only [inc]
    rw [List.getD_eq_getElem?_getD, List.getElem?_set]
    by_cases e : a + k = s
    · subst e
      rw [if_pos rfl, if_pos (by omega), if_pos (by omega)]
      show (inc d out a k).getD (a + k) 0 + d = _
      rw [ih, if_neg (by omega)]
      omega
    · rw [if_neg e, ← List.getD_eq_getElem?_getD, ih]
      by_cases q : a ≤ s ∧ s < a + k
      · rw [if_pos q, if_pos (by omega)]
      · rw [if_neg q, if_neg (by omega)]
theorem chg_snoc (d : Int) (cs : List Int) (xs : List X) (x : X) : chg d cs (xs ++ [x]) = inc d (chg d cs xs) x.s.toNat x.n.toNat := by
  unfold chg; rw [List.foldl_append]; rfl
theorem hits_app (xs ys : List X) (s : Int) : hits (xs ++ ys) s = hits xs s + hits ys s := by
  induction xs with
  | nil => simp [hits]
  | cons x xs ih => simp only [List.cons_append, hits, ih]; omega
theorem hits_nn (xs : List X) (s : Int) : 0 ≤ hits xs s := by
  induction xs with
  | nil => simp [hits]
  | cons x xs ih => simp only [hits]; split <;> omega
theorem hits_le (xs : List X) (s : Int) : hits xs s ≤ xs.length := by
  induction xs with
  | nil => simp [hits]
  | cons x xs ih => simp only [hits, List.length_cons]; split <;> omega
theorem chg_ok (d : Int) (cs : List Int) : ∀ (n : Nat) (xs : List X), xs.length = n → (∀ x ∈ xs, 1 ≤ x.n ∧ 0 ≤ x.s ∧ x.s + x.n ≤ cs.length) → (chg d cs xs).length = cs.length ∧ ∀ s : Nat, (chg d cs xs).getD s 0 = cs.getD s 0 + d * hits xs s
  | 0, xs, hn, _ => by
    have : xs = [] := List.eq_nil_of_length_eq_zero hn
    subst this
    exact ⟨rfl, fun s => by simp [chg, hits]⟩
  | n + 1, xs, hn, h => by
    rcases List.eq_nil_or_concat xs with rfl | ⟨ys, x, h0⟩
    · simp at hn
    · rw [List.concat_eq_append] at h0
      subst h0
      obtain ⟨ih1, ih2⟩ := chg_ok d cs n ys (by simpa using hn) fun z hz => h z (List.mem_append_left _ hz)
      have hx := h x (by simp)
      rw [chg_snoc]
      refine ⟨by rw [inc_len, ih1], fun s => ?_⟩
      rw [inc_get _ _ _ _ (by omega), ih2, hits_app]
      simp only [hits]
      by_cases q : x.s ≤ s ∧ (s : Int) < x.s + x.n
      · rw [if_pos q, if_pos (by omega), Int.add_zero, Int.mul_add, Int.mul_one]; omega
      · rw [if_neg q, if_neg (by omega)]; simp
end Go.Xt

/- Put and Cut: what they compute. -/
import Derived.Test.YtjglgfnhgehpeaaExt
set_option linter.unusedVariables false
set_option linter.unusedSimpArgs false
set_option maxRecDepth 4000
namespace Go.Proofs.Ytjglgfnhgehpeaa
open Go.RowKit Go.Fw Go.Xt

abbrev eT (t : Tr) : Rp := agg [tree t]
/-- an answer with an error -/
abbrev eErr : Rp := tup [eT .nil, sl 3 FX ([] : List X), I 1]

theorem c_Put_err {t : Tr} {x : X} (hV : PureC Try.prog 43 [sl 3 FX [x]] (val (.bool false))) : PureC Try.prog 15 [eT t, ext x] eErr := by
  refine PureC.of_wp Try.func15 (by kernel_rfl) rfl Try.ntmps15 (le_ rfl) (fun w0 M0 => ?_)
  refine WP.seq ?_
  -- region 0 extree.go:163
  refine WP.region ?_
  refine WL.box (ot rfl) (.agg _) (by decide) fun b2 => ?_
  refine WL.box (ot rfl) (.agg _) (by decide) fun b3 => ?_
  refine WL.alloc zr_Tree rfl (by decide) fun b4 => ?_
  refine WL.op (asg (oc _)) (by decide) ?_
  refine WL.op (asg (oc _)) (by decide) ?_
  refine WL.nl (.thn ?_)
  refine WP.seq ?_
  refine WP.seq ?_
  -- region 1 extree.go:164
  refine WP.region ?_
  refine WL.op (lbs 1 rfl ag_Extent (ot rfl) (le_ rfl)) (by decide) ?_
  refine WL.op (bsl1 (f := FX) (el := x) ei_s_api_Extent (ot rfl) (.agg _) rfl (by decide) (by decide)) (by decide) ?_
  refine WL.op (call hV (.c (ot rfl) .n)) (by decide) ?_
  refine WL.op (not_ (ot rfl)) (by decide) ?_
  refine WL.nl (.thn ?_)
  -- extree.go:164
  refine WP.condT rfl ?_
  refine WP.seq ?_
  -- region 2 extree.go:165
  refine WP.region ?_
  refine WL.op (bld zr_Tree rfl ps_Tree .n) (by decide) ?_
  refine WL.store 0 rfl (ot rfl) (ot rfl) (.agg _) sz_Tree rfl (le_ rfl) ?_
  refine WL.op (OpG.weak (asg (oc _)) (sl_nil (sz := 3) (f := FX))) (by decide) ?_
  refine WL.op (asg (oc _)) (by decide) ?_
  refine WL.nl (.thn ?_)
  exact WP.rt (.rthn (.rN rfl (.cons (.bx 0 rfl rfl ag_Tree) (.cons (.tm rfl) (.cons (.tm rfl) .nil))) (le_ rfl) (imp _)))
theorem c_Put_nn {t rest mid T : Tr} {x : X} (hV : PureC Try.prog 43 [sl 3 FX [x]] (val (.bool true)))
    (hs1 : PureC Try.prog 40 [tree t, I x.a] (tup [tree .nil, tree rest])) (hs2 : PureC Try.prog 40 [tree rest, I (x.a + x.n)] (tup [tree mid, tree .nil]))
    (hv : 0 ≤ x.a ∧ 1 ≤ x.n ∧ 0 ≤ x.s ∧ x.a + x.n ≤ 65536 ∧ x.s + x.n ≤ 65536) (hm : PureC Try.prog 42 [tree mid] (sl 3 FX mid.list))
    (hj : PureC Try.prog 47 [tree (glueL .nil x).2, ext (glueR (glueL .nil x).1 .nil).1, tree (glueR (glueL .nil x).1 .nil).2] (tree T)) : PureC Try.prog 15 [eT t, ext x] (tup [eT T, sl 3 FX mid.list, I 0]) := by
  refine PureC.of_wp Try.func15 (by kernel_rfl) rfl Try.ntmps15 (le_ rfl) (fun w0 M0 => ?_)
  refine WP.seq ?_
  -- region 0 extree.go:163
  refine WP.region ?_
  refine WL.box (ot rfl) (.agg _) (by decide) fun b2 => ?_
  refine WL.box (ot rfl) (.agg _) (by decide) fun b3 => ?_
  refine WL.alloc zr_Tree rfl (by decide) fun b4 => ?_
  refine WL.op (asg (oc _)) (by decide) ?_
  refine WL.op (asg (oc _)) (by decide) ?_
  refine WL.nl (.thn ?_)
  refine WP.seq ?_
  refine WP.seq ?_
  -- region 1 extree.go:164
  refine WP.region ?_
  refine WL.op (lbs 1 rfl ag_Extent (ot rfl) (le_ rfl)) (by decide) ?_
  refine WL.op (bsl1 (f := FX) (el := x) ei_s_api_Extent (ot rfl) (.agg _) rfl (by decide) (by decide)) (by decide) ?_
  refine WL.op (call hV (.c (ot rfl) .n)) (by decide) ?_
  refine WL.op (not_ (ot rfl)) (by decide) ?_
  refine WL.nl (.thn ?_)
  -- extree.go:164
  refine WP.condF rfl ?_
  refine WP.sk (.thn ?_)
  refine WP.seq ?_
  -- region 3 extree.go:167
  refine WP.region ?_
  refine WL.op (fv fo_Tree_0 (ot rfl)) (by decide) ?_
  refine WL.op (lb 2 rfl sc_p_extree_node (ot rfl) rfl) (by decide) ?_
  refine WL.op (fv fo_Extent_0 (ot rfl)) (by decide) ?_
  refine WL.op (lb 1 rfl sc_int (ot rfl) rfl) (by decide) ?_
  refine WL.op (call hs1 (.c (ot rfl) (.c (ot rfl) .n))) (by decide) ?_
  refine WL.op (mv (ot rfl)) (by decide) ?_
  refine WL.op (ex (ot rfl) rfl) (by decide) ?_
  refine WL.op (ex (ot rfl) rfl) (by decide) ?_
  refine WL.op (asg (ot rfl)) (by decide) ?_
  refine WL.op (asg (ot rfl)) (by decide) ?_
  refine WL.nl (.thn ?_)
  refine WP.seq ?_
  -- region 4 extree.go:168
  refine WP.region ?_
  refine WL.op (mv (ot rfl)) (by decide) ?_
  refine WL.op (fv fo_Extent_0 (ot rfl)) (by decide) ?_
  refine WL.op (lb 1 rfl sc_int (ot rfl) rfl) (by decide) ?_
  refine WL.op (fv fo_Extent_1 (ot rfl)) (by decide) ?_
  refine WL.op (lb 1 rfl sc_int (ot rfl) rfl) (by decide) ?_
  refine WL.op (add (ot rfl) (ot rfl) (by omega)) (by decide) ?_
  refine WL.op (call hs2 (.c (ot rfl) (.c (ot rfl) .n))) (by decide) ?_
  refine WL.op (mv (ot rfl)) (by decide) ?_
  refine WL.op (ex (ot rfl) rfl) (by decide) ?_
  refine WL.op (ex (ot rfl) rfl) (by decide) ?_
  refine WL.op (asg (ot rfl)) (by decide) ?_
  refine WL.op (asg (ot rfl)) (by decide) ?_
  refine WL.nl (.thn ?_)
  refine WP.seq ?_
  refine WP.seq ?_
  -- region 5 extree.go:169
  refine WP.region ?_
  refine WL.op (mv (ot rfl)) (by decide) ?_
  refine WL.op (isnil' pt_p_extree_node (ot rfl)) (by decide) ?_
  refine WL.nl (.thn ?_)
  -- extree.go:169
  refine WP.condF rfl ?_
  refine WP.sk (.thn ?_)
  refine WP.seq ?_
  refine WP.seq ?_
  -- region 9 extree.go:174
  refine WP.region ?_
  refine WL.op (mv (ot rfl)) (by decide) ?_
  refine WL.op (isnil' pt_p_extree_node (ot rfl)) (by decide) ?_
  refine WL.nl (.thn ?_)
  -- extree.go:174
  refine WP.condF rfl ?_
  refine WP.sk (.thn ?_)
  refine WP.seq ?_
  -- region 14 extree.go:180
  refine WP.region ?_
  refine WL.op (mv (ot rfl)) (by decide) ?_
  refine WL.op (lbs 1 rfl ag_Extent (ot rfl) (le_ rfl)) (by decide) ?_
  refine WL.op (mv (ot rfl)) (by decide) ?_
  refine WL.op (call (by have q := hj; simp only [glueL, glueR, ↓reduceIte] at q; exact q) (.c (ot rfl) (.c (ot rfl) (.c (ot rfl) .n)))) (by decide) ?_
  refine WL.op (bld zr_Tree rfl ps_Tree (.c (ot rfl) (.leaf (leaf_tree _)) pl_Tree_0 rfl (le_ rfl) .n)) (by decide) ?_
  refine WL.op (mv (ot rfl)) (by decide) ?_
  refine WL.op (call hm (.c (ot rfl) .n)) (by decide) ?_
  refine WL.store 0 rfl (ot rfl) (ot rfl) (.agg _) sz_Tree rfl (le_ rfl) ?_
  refine WL.op (asg (ot rfl)) (by decide) ?_
  refine WL.op (asg (oc _)) (by decide) ?_
  refine WL.nl (.thn ?_)
  exact WP.rt (.rN rfl (.cons (.bx 0 rfl rfl ag_Tree) (.cons (.tm rfl) (.cons (.tm rfl) .nil))) (le_ rfl) (imp _))
theorem c_Put_ns {t rest mid T lq rq : Tr} {x yb : X} (hV : PureC Try.prog 43 [sl 3 FX [x]] (val (.bool true)))
    (hs1 : PureC Try.prog 40 [tree t, I x.a] (tup [tree .nil, tree rest])) (hs2 : PureC Try.prog 40 [tree rest, I (x.a + x.n)] (tup [tree mid, tree (.node lq yb rq)]))
    (hv : 0 ≤ x.a ∧ 1 ≤ x.n ∧ 0 ≤ x.s ∧ x.a + x.n ≤ 65536 ∧ x.s + x.n ≤ 65536) (hm : PureC Try.prog 42 [tree mid] (sl 3 FX mid.list))
    (hj : PureC Try.prog 47 [tree (glueL .nil x).2, ext (glueR (glueL .nil x).1 (.node lq yb rq)).1, tree (glueR (glueL .nil x).1 (.node lq yb rq)).2] (tree T))
    (hF : PureC Try.prog 46 [tree (.node lq yb rq)] (tup [ext (first lq yb rq).1, tree (first lq yb rq).2])) (hfy : 0 ≤ (first lq yb rq).1.a ∧ 1 ≤ (first lq yb rq).1.n ∧ 0 ≤ (first lq yb rq).1.s ∧ (first lq yb rq).1.a + (first lq yb rq).1.n ≤ 65536 ∧ (first lq yb rq).1.s + (first lq yb rq).1.n ≤ 65536) : PureC Try.prog 15 [eT t, ext x] (tup [eT T, sl 3 FX mid.list, I 0]) := by
  refine PureC.of_wp Try.func15 (by kernel_rfl) rfl Try.ntmps15 (le_ rfl) (fun w0 M0 => ?_)
  refine WP.seq ?_
  -- region 0 extree.go:163
  refine WP.region ?_
  refine WL.box (ot rfl) (.agg _) (by decide) fun b2 => ?_
  refine WL.box (ot rfl) (.agg _) (by decide) fun b3 => ?_
  refine WL.alloc zr_Tree rfl (by decide) fun b4 => ?_
  refine WL.op (asg (oc _)) (by decide) ?_
  refine WL.op (asg (oc _)) (by decide) ?_
  refine WL.nl (.thn ?_)
  refine WP.seq ?_
  refine WP.seq ?_
  -- region 1 extree.go:164
  refine WP.region ?_
  refine WL.op (lbs 1 rfl ag_Extent (ot rfl) (le_ rfl)) (by decide) ?_
  refine WL.op (bsl1 (f := FX) (el := x) ei_s_api_Extent (ot rfl) (.agg _) rfl (by decide) (by decide)) (by decide) ?_
  refine WL.op (call hV (.c (ot rfl) .n)) (by decide) ?_
  refine WL.op (not_ (ot rfl)) (by decide) ?_
  refine WL.nl (.thn ?_)
  -- extree.go:164
  refine WP.condF rfl ?_
  refine WP.sk (.thn ?_)
  refine WP.seq ?_
  -- region 3 extree.go:167
  refine WP.region ?_
  refine WL.op (fv fo_Tree_0 (ot rfl)) (by decide) ?_
  refine WL.op (lb 2 rfl sc_p_extree_node (ot rfl) rfl) (by decide) ?_
  refine WL.op (fv fo_Extent_0 (ot rfl)) (by decide) ?_
  refine WL.op (lb 1 rfl sc_int (ot rfl) rfl) (by decide) ?_
  refine WL.op (call hs1 (.c (ot rfl) (.c (ot rfl) .n))) (by decide) ?_
  refine WL.op (mv (ot rfl)) (by decide) ?_
  refine WL.op (ex (ot rfl) rfl) (by decide) ?_
  refine WL.op (ex (ot rfl) rfl) (by decide) ?_
  refine WL.op (asg (ot rfl)) (by decide) ?_
  refine WL.op (asg (ot rfl)) (by decide) ?_
  refine WL.nl (.thn ?_)
  refine WP.seq ?_
  -- region 4 extree.go:168
  refine WP.region ?_
  refine WL.op (mv (ot rfl)) (by decide) ?_
  refine WL.op (fv fo_Extent_0 (ot rfl)) (by decide) ?_
  refine WL.op (lb 1 rfl sc_int (ot rfl) rfl) (by decide) ?_
  refine WL.op (fv fo_Extent_1 (ot rfl)) (by decide) ?_
  refine WL.op (lb 1 rfl sc_int (ot rfl) rfl) (by decide) ?_
  refine WL.op (add (ot rfl) (ot rfl) (by omega)) (by decide) ?_
  refine WL.op (call hs2 (.c (ot rfl) (.c (ot rfl) .n))) (by decide) ?_
  refine WL.op (mv (ot rfl)) (by decide) ?_
  refine WL.op (ex (ot rfl) rfl) (by decide) ?_
  refine WL.op (ex (ot rfl) rfl) (by decide) ?_
  refine WL.op (asg (ot rfl)) (by decide) ?_
  refine WL.op (asg (ot rfl)) (by decide) ?_
  refine WL.nl (.thn ?_)
  refine WP.seq ?_
  refine WP.seq ?_
  -- region 5 extree.go:169
  refine WP.region ?_
  refine WL.op (mv (ot rfl)) (by decide) ?_
  refine WL.op (isnil' pt_p_extree_node (ot rfl)) (by decide) ?_
  refine WL.nl (.thn ?_)
  -- extree.go:169
  refine WP.condF rfl ?_
  refine WP.sk (.thn ?_)
  refine WP.seq ?_
  refine WP.seq ?_
  -- region 9 extree.go:174
  refine WP.region ?_
  refine WL.op (mv (ot rfl)) (by decide) ?_
  refine WL.op (notnil' pt_p_extree_node (ot rfl)) (by decide) ?_
  refine WL.nl (.thn ?_)
  -- extree.go:174
  refine WP.condT rfl ?_
  refine WP.seq ?_
  -- region 10 extree.go:175
  refine WP.region ?_
  refine WL.op (mv (ot rfl)) (by decide) ?_
  refine WL.op (call hF (.c (ot rfl) .n)) (by decide) ?_
  refine WL.op (mv (ot rfl)) (by decide) ?_
  refine WL.op (ex (ot rfl) rfl) (by decide) ?_
  refine WL.op (ex (ot rfl) rfl) (by decide) ?_
  refine WL.alloc zr_Extent rfl (by decide) fun b13 => ?_
  refine WL.store 0 rfl (ot rfl) (ot rfl) (.agg _) sz_Extent rfl (le_ rfl) ?_
  refine WL.op (asg (ot rfl)) (by decide) ?_
  refine WL.nl (.thn ?_)
  refine WP.seq ?_
  -- region 11 extree.go:175
  refine WP.region ?_
  refine WL.op (lbs 2 rfl ag_Extent (ot rfl) (le_ rfl)) (by decide) ?_
  refine WL.op (lbs 0 rfl ag_Extent (ot rfl) (le_ rfl)) (by decide) ?_
  refine WL.op (call (c_x_follows x (first lq yb rq).1 (by first | omega | (simp only []; omega)) (by first | omega | (simp only []; omega))) (.c (ot rfl) (.c (ot rfl) .n))) (by decide) ?_
  refine WL.nl (.thn ?_)
  -- extree.go:175
  refine WP.cond rfl (fun hc => ?_) (fun hc => ?_)
  · skip
    have f2 := of_decide_eq_true hc
    refine WP.seq ?_
    -- region 12 extree.go:176
    refine WP.region ?_
    refine WL.op (fv fo_Extent_1 (ot rfl)) (by decide) ?_
    refine WL.op (lb 2 rfl sc_int (ot rfl) rfl) (by decide) ?_
    refine WL.op (fv fo_Extent_1 (ot rfl)) (by decide) ?_
    refine WL.op (lb 0 rfl sc_int (ot rfl) rfl) (by decide) ?_
    refine WL.op (add (ot rfl) (ot rfl) (by omega)) (by decide) ?_
    refine WL.op (fv fo_Extent_1 (ot rfl)) (by decide) ?_
    refine WL.store 2 rfl (ot rfl) (ot rfl) (.leaf (.val rfl)) sz_int rfl (le_ rfl) ?_
    refine WL.nl (.thn ?_)
    -- region 13 extree.go:177
    refine WP.region ?_
    refine WL.op (mv (ot rfl)) (by decide) ?_
    refine WL.op (asg (ot rfl)) (by decide) ?_
    refine WL.nl (.thn ?_)
    refine WP.seq ?_
    -- region 14 extree.go:180
    refine WP.region ?_
    refine WL.op (mv (ot rfl)) (by decide) ?_
    refine WL.op (lbs 2 rfl ag_Extent (ot rfl) (le_ rfl)) (by decide) ?_
    refine WL.op (mv (ot rfl)) (by decide) ?_
    refine WL.op (call (by have q := hj; simp only [glueL, glueR, f2, ↓reduceIte] at q; exact q) (.c (ot rfl) (.c (ot rfl) (.c (ot rfl) .n)))) (by decide) ?_
    refine WL.op (bld zr_Tree rfl ps_Tree (.c (ot rfl) (.leaf (leaf_tree _)) pl_Tree_0 rfl (le_ rfl) .n)) (by decide) ?_
    refine WL.op (mv (ot rfl)) (by decide) ?_
    refine WL.op (call hm (.c (ot rfl) .n)) (by decide) ?_
    refine WL.store 1 rfl (ot rfl) (ot rfl) (.agg _) sz_Tree rfl (le_ rfl) ?_
    refine WL.op (asg (ot rfl)) (by decide) ?_
    refine WL.op (asg (oc _)) (by decide) ?_
    refine WL.nl (.thn ?_)
    exact WP.rt (.rN rfl (.cons (.bx 1 rfl rfl ag_Tree) (.cons (.tm rfl) (.cons (.tm rfl) .nil))) (le_ rfl) (imp _))
  · skip
    have f2 := of_decide_eq_false hc
    refine WP.sk (.thn ?_)
    refine WP.seq ?_
    -- region 14 extree.go:180
    refine WP.region ?_
    refine WL.op (mv (ot rfl)) (by decide) ?_
    refine WL.op (lbs 2 rfl ag_Extent (ot rfl) (le_ rfl)) (by decide) ?_
    refine WL.op (mv (ot rfl)) (by decide) ?_
    refine WL.op (call (by have q := hj; simp only [glueL, glueR, f2, ↓reduceIte] at q; exact q) (.c (ot rfl) (.c (ot rfl) (.c (ot rfl) .n)))) (by decide) ?_
    refine WL.op (bld zr_Tree rfl ps_Tree (.c (ot rfl) (.leaf (leaf_tree _)) pl_Tree_0 rfl (le_ rfl) .n)) (by decide) ?_
    refine WL.op (mv (ot rfl)) (by decide) ?_
    refine WL.op (call hm (.c (ot rfl) .n)) (by decide) ?_
    refine WL.store 1 rfl (ot rfl) (ot rfl) (.agg _) sz_Tree rfl (le_ rfl) ?_
    refine WL.op (asg (ot rfl)) (by decide) ?_
    refine WL.op (asg (oc _)) (by decide) ?_
    refine WL.nl (.thn ?_)
    exact WP.rt (.rN rfl (.cons (.bx 1 rfl rfl ag_Tree) (.cons (.tm rfl) (.cons (.tm rfl) .nil))) (le_ rfl) (imp _))
theorem c_Put_sn {t rest mid T la ra : Tr} {x ya : X} (hV : PureC Try.prog 43 [sl 3 FX [x]] (val (.bool true)))
    (hs1 : PureC Try.prog 40 [tree t, I x.a] (tup [tree (.node la ya ra), tree rest])) (hs2 : PureC Try.prog 40 [tree rest, I (x.a + x.n)] (tup [tree mid, tree .nil]))
    (hv : 0 ≤ x.a ∧ 1 ≤ x.n ∧ 0 ≤ x.s ∧ x.a + x.n ≤ 65536 ∧ x.s + x.n ≤ 65536) (hm : PureC Try.prog 42 [tree mid] (sl 3 FX mid.list))
    (hj : PureC Try.prog 47 [tree (glueL (.node la ya ra) x).2, ext (glueR (glueL (.node la ya ra) x).1 .nil).1, tree (glueR (glueL (.node la ya ra) x).1 .nil).2] (tree T))
    (hL : PureC Try.prog 44 [tree (.node la ya ra)] (tup [ext (last la ya ra).1, tree (last la ya ra).2])) (hly : 0 ≤ (last la ya ra).1.a ∧ 1 ≤ (last la ya ra).1.n ∧ 0 ≤ (last la ya ra).1.s ∧ (last la ya ra).1.a + (last la ya ra).1.n ≤ 65536 ∧ (last la ya ra).1.s + (last la ya ra).1.n ≤ 65536) : PureC Try.prog 15 [eT t, ext x] (tup [eT T, sl 3 FX mid.list, I 0]) := by
  refine PureC.of_wp Try.func15 (by kernel_rfl) rfl Try.ntmps15 (le_ rfl) (fun w0 M0 => ?_)
  refine WP.seq ?_
  -- region 0 extree.go:163
  refine WP.region ?_
  refine WL.box (ot rfl) (.agg _) (by decide) fun b2 => ?_
  refine WL.box (ot rfl) (.agg _) (by decide) fun b3 => ?_
  refine WL.alloc zr_Tree rfl (by decide) fun b4 => ?_
  refine WL.op (asg (oc _)) (by decide) ?_
  refine WL.op (asg (oc _)) (by decide) ?_
  refine WL.nl (.thn ?_)
  refine WP.seq ?_
  refine WP.seq ?_
  -- region 1 extree.go:164
  refine WP.region ?_
  refine WL.op (lbs 1 rfl ag_Extent (ot rfl) (le_ rfl)) (by decide) ?_
  refine WL.op (bsl1 (f := FX) (el := x) ei_s_api_Extent (ot rfl) (.agg _) rfl (by decide) (by decide)) (by decide) ?_
  refine WL.op (call hV (.c (ot rfl) .n)) (by decide) ?_
  refine WL.op (not_ (ot rfl)) (by decide) ?_
  refine WL.nl (.thn ?_)
  -- extree.go:164
  refine WP.condF rfl ?_
  refine WP.sk (.thn ?_)
  refine WP.seq ?_
  -- region 3 extree.go:167
  refine WP.region ?_
  refine WL.op (fv fo_Tree_0 (ot rfl)) (by decide) ?_
  refine WL.op (lb 2 rfl sc_p_extree_node (ot rfl) rfl) (by decide) ?_
  refine WL.op (fv fo_Extent_0 (ot rfl)) (by decide) ?_
  refine WL.op (lb 1 rfl sc_int (ot rfl) rfl) (by decide) ?_
  refine WL.op (call hs1 (.c (ot rfl) (.c (ot rfl) .n))) (by decide) ?_
  refine WL.op (mv (ot rfl)) (by decide) ?_
  refine WL.op (ex (ot rfl) rfl) (by decide) ?_
  refine WL.op (ex (ot rfl) rfl) (by decide) ?_
  refine WL.op (asg (ot rfl)) (by decide) ?_
  refine WL.op (asg (ot rfl)) (by decide) ?_
  refine WL.nl (.thn ?_)
  refine WP.seq ?_
  -- region 4 extree.go:168
  refine WP.region ?_
  refine WL.op (mv (ot rfl)) (by decide) ?_
  refine WL.op (fv fo_Extent_0 (ot rfl)) (by decide) ?_
  refine WL.op (lb 1 rfl sc_int (ot rfl) rfl) (by decide) ?_
  refine WL.op (fv fo_Extent_1 (ot rfl)) (by decide) ?_
  refine WL.op (lb 1 rfl sc_int (ot rfl) rfl) (by decide) ?_
  refine WL.op (add (ot rfl) (ot rfl) (by omega)) (by decide) ?_
  refine WL.op (call hs2 (.c (ot rfl) (.c (ot rfl) .n))) (by decide) ?_
  refine WL.op (mv (ot rfl)) (by decide) ?_
  refine WL.op (ex (ot rfl) rfl) (by decide) ?_
  refine WL.op (ex (ot rfl) rfl) (by decide) ?_
  refine WL.op (asg (ot rfl)) (by decide) ?_
  refine WL.op (asg (ot rfl)) (by decide) ?_
  refine WL.nl (.thn ?_)
  refine WP.seq ?_
  refine WP.seq ?_
  -- region 5 extree.go:169
  refine WP.region ?_
  refine WL.op (mv (ot rfl)) (by decide) ?_
  refine WL.op (notnil' pt_p_extree_node (ot rfl)) (by decide) ?_
  refine WL.nl (.thn ?_)
  -- extree.go:169
  refine WP.condT rfl ?_
  refine WP.seq ?_
  -- region 6 extree.go:170
  refine WP.region ?_
  refine WL.op (mv (ot rfl)) (by decide) ?_
  refine WL.op (call hL (.c (ot rfl) .n)) (by decide) ?_
  refine WL.op (mv (ot rfl)) (by decide) ?_
  refine WL.op (ex (ot rfl) rfl) (by decide) ?_
  refine WL.op (ex (ot rfl) rfl) (by decide) ?_
  refine WL.alloc zr_Extent rfl (by decide) fun b11 => ?_
  refine WL.store 0 rfl (ot rfl) (ot rfl) (.agg _) sz_Extent rfl (le_ rfl) ?_
  refine WL.op (asg (ot rfl)) (by decide) ?_
  refine WL.nl (.thn ?_)
  refine WP.seq ?_
  -- region 7 extree.go:170
  refine WP.region ?_
  refine WL.op (lbs 0 rfl ag_Extent (ot rfl) (le_ rfl)) (by decide) ?_
  refine WL.op (lbs 2 rfl ag_Extent (ot rfl) (le_ rfl)) (by decide) ?_
  refine WL.op (call (c_x_follows (last la ya ra).1 x (by first | omega | (simp only []; omega)) (by first | omega | (simp only []; omega))) (.c (ot rfl) (.c (ot rfl) .n))) (by decide) ?_
  refine WL.nl (.thn ?_)
  -- extree.go:170
  refine WP.cond rfl (fun hc => ?_) (fun hc => ?_)
  · skip
    have f1 := of_decide_eq_true hc
    -- region 8 extree.go:171
    refine WP.region ?_
    refine WL.op (fv fo_Extent_0 (ot rfl)) (by decide) ?_
    refine WL.op (lb 0 rfl sc_int (ot rfl) rfl) (by decide) ?_
    refine WL.op (fv fo_Extent_1 (ot rfl)) (by decide) ?_
    refine WL.op (lb 0 rfl sc_int (ot rfl) rfl) (by decide) ?_
    refine WL.op (fv fo_Extent_1 (ot rfl)) (by decide) ?_
    refine WL.op (lb 2 rfl sc_int (ot rfl) rfl) (by decide) ?_
    refine WL.op (add (ot rfl) (ot rfl) (by omega)) (by decide) ?_
    refine WL.op (fv fo_Extent_2 (ot rfl)) (by decide) ?_
    refine WL.op (lb 0 rfl sc_int (ot rfl) rfl) (by decide) ?_
    refine WL.op (bld zr_Extent rfl ps_Extent (.c (ot rfl) (.leaf (.val rfl)) pl_Extent_0 rfl (le_ rfl) (.c (ot rfl) (.leaf (.val rfl)) pl_Extent_1 rfl (le_ rfl) (.c (ot rfl) (.leaf (.val rfl)) pl_Extent_2 rfl (le_ rfl) .n)))) (by decide) ?_
    refine WL.op (mv (ot rfl)) (by decide) ?_
    refine WL.store 2 rfl (ot rfl) (ot rfl) (.agg _) sz_Extent rfl (le_ rfl) ?_
    refine WL.op (asg (ot rfl)) (by decide) ?_
    refine WL.nl (.thn ?_)
    refine WP.seq ?_
    refine WP.seq ?_
    -- region 9 extree.go:174
    refine WP.region ?_
    refine WL.op (mv (ot rfl)) (by decide) ?_
    refine WL.op (isnil' pt_p_extree_node (ot rfl)) (by decide) ?_
    refine WL.nl (.thn ?_)
    -- extree.go:174
    refine WP.condF rfl ?_
    refine WP.sk (.thn ?_)
    refine WP.seq ?_
    -- region 14 extree.go:180
    refine WP.region ?_
    refine WL.op (mv (ot rfl)) (by decide) ?_
    refine WL.op (lbs 2 rfl ag_Extent (ot rfl) (le_ rfl)) (by decide) ?_
    refine WL.op (mv (ot rfl)) (by decide) ?_
    refine WL.op (call (by have q := hj; simp only [glueL, glueR, f1, ↓reduceIte] at q; exact q) (.c (ot rfl) (.c (ot rfl) (.c (ot rfl) .n)))) (by decide) ?_
    refine WL.op (bld zr_Tree rfl ps_Tree (.c (ot rfl) (.leaf (leaf_tree _)) pl_Tree_0 rfl (le_ rfl) .n)) (by decide) ?_
    refine WL.op (mv (ot rfl)) (by decide) ?_
    refine WL.op (call hm (.c (ot rfl) .n)) (by decide) ?_
    refine WL.store 1 rfl (ot rfl) (ot rfl) (.agg _) sz_Tree rfl (le_ rfl) ?_
    refine WL.op (asg (ot rfl)) (by decide) ?_
    refine WL.op (asg (oc _)) (by decide) ?_
    refine WL.nl (.thn ?_)
    exact WP.rt (.rN rfl (.cons (.bx 1 rfl rfl ag_Tree) (.cons (.tm rfl) (.cons (.tm rfl) .nil))) (le_ rfl) (imp _))
  · skip
    have f1 := of_decide_eq_false hc
    refine WP.sk (.thn ?_)
    refine WP.seq ?_
    refine WP.seq ?_
    -- region 9 extree.go:174
    refine WP.region ?_
    refine WL.op (mv (ot rfl)) (by decide) ?_
    refine WL.op (isnil' pt_p_extree_node (ot rfl)) (by decide) ?_
    refine WL.nl (.thn ?_)
    -- extree.go:174
    refine WP.condF rfl ?_
    refine WP.sk (.thn ?_)
    refine WP.seq ?_
    -- region 14 extree.go:180
    refine WP.region ?_
    refine WL.op (mv (ot rfl)) (by decide) ?_
    refine WL.op (lbs 2 rfl ag_Extent (ot rfl) (le_ rfl)) (by decide) ?_
    refine WL.op (mv (ot rfl)) (by decide) ?_
    refine WL.op (call (by have q := hj; simp only [glueL, glueR, f1, ↓reduceIte] at q; exact q) (.c (ot rfl) (.c (ot rfl) (.c (ot rfl) .n)))) (by decide) ?_
    refine WL.op (bld zr_Tree rfl ps_Tree (.c (ot rfl) (.leaf (leaf_tree _)) pl_Tree_0 rfl (le_ rfl) .n)) (by decide) ?_
    refine WL.op (mv (ot rfl)) (by decide) ?_
    refine WL.op (call hm (.c (ot rfl) .n)) (by decide) ?_
    refine WL.store 1 rfl (ot rfl) (ot rfl) (.agg _) sz_Tree rfl (le_ rfl) ?_
    refine WL.op (asg (ot rfl)) (by decide) ?_
    refine WL.op (asg (oc _)) (by decide) ?_
    refine WL.nl (.thn ?_)
    exact WP.rt (.rN rfl (.cons (.bx 1 rfl rfl ag_Tree) (.cons (.tm rfl) (.cons (.tm rfl) .nil))) (le_ rfl) (imp _))
theorem c_Put_ss {t rest mid T la ra lq rq : Tr} {x ya yb : X} (hV : PureC Try.prog 43 [sl 3 FX [x]] (val (.bool true)))
    (hs1 : PureC Try.prog 40 [tree t, I x.a] (tup [tree (.node la ya ra), tree rest])) (hs2 : PureC Try.prog 40 [tree rest, I (x.a + x.n)] (tup [tree mid, tree (.node lq yb rq)]))
    (hv : 0 ≤ x.a ∧ 1 ≤ x.n ∧ 0 ≤ x.s ∧ x.a + x.n ≤ 65536 ∧ x.s + x.n ≤ 65536) (hm : PureC Try.prog 42 [tree mid] (sl 3 FX mid.list))
    (hj : PureC Try.prog 47 [tree (glueL (.node la ya ra) x).2, ext (glueR (glueL (.node la ya ra) x).1 (.node lq yb rq)).1, tree (glueR (glueL (.node la ya ra) x).1 (.node lq yb rq)).2] (tree T))
    (hL : PureC Try.prog 44 [tree (.node la ya ra)] (tup [ext (last la ya ra).1, tree (last la ya ra).2])) (hly : 0 ≤ (last la ya ra).1.a ∧ 1 ≤ (last la ya ra).1.n ∧ 0 ≤ (last la ya ra).1.s ∧ (last la ya ra).1.a + (last la ya ra).1.n ≤ 65536 ∧ (last la ya ra).1.s + (last la ya ra).1.n ≤ 65536)
    (hF : PureC Try.prog 46 [tree (.node lq yb rq)] (tup [ext (first lq yb rq).1, tree (first lq yb rq).2])) (hfy : 0 ≤ (first lq yb rq).1.a ∧ 1 ≤ (first lq yb rq).1.n ∧ 0 ≤ (first lq yb rq).1.s ∧ (first lq yb rq).1.a + (first lq yb rq).1.n ≤ 65536 ∧ (first lq yb rq).1.s + (first lq yb rq).1.n ≤ 65536) : PureC Try.prog 15 [eT t, ext x] (tup [eT T, sl 3 FX mid.list, I 0]) := by
  refine PureC.of_wp Try.func15 (by kernel_rfl) rfl Try.ntmps15 (le_ rfl) (fun w0 M0 => ?_)
  refine WP.seq ?_
  -- region 0 extree.go:163
  refine WP.region ?_
  refine WL.box (ot rfl) (.agg _) (by decide) fun b2 => ?_
  refine WL.box (ot rfl) (.agg _) (by decide) fun b3 => ?_
  refine WL.alloc zr_Tree rfl (by decide) fun b4 => ?_
  refine WL.op (asg (oc _)) (by decide) ?_
  refine WL.op (asg (oc _)) (by decide) ?_
  refine WL.nl (.thn ?_)
  refine WP.seq ?_
  refine WP.seq ?_
  -- region 1 extree.go:164
  refine WP.region ?_
  refine WL.op (lbs 1 rfl ag_Extent (ot rfl) (le_ rfl)) (by decide) ?_
  refine WL.op (bsl1 (f := FX) (el := x) ei_s_api_Extent (ot rfl) (.agg _) rfl (by decide) (by decide)) (by decide) ?_
  refine WL.op (call hV (.c (ot rfl) .n)) (by decide) ?_
  refine WL.op (not_ (ot rfl)) (by decide) ?_
  refine WL.nl (.thn ?_)
  -- extree.go:164
  refine WP.condF rfl ?_
  refine WP.sk (.thn ?_)
  refine WP.seq ?_
  -- region 3 extree.go:167
  refine WP.region ?_
  refine WL.op (fv fo_Tree_0 (ot rfl)) (by decide) ?_
  refine WL.op (lb 2 rfl sc_p_extree_node (ot rfl) rfl) (by decide) ?_
  refine WL.op (fv fo_Extent_0 (ot rfl)) (by decide) ?_
  refine WL.op (lb 1 rfl sc_int (ot rfl) rfl) (by decide) ?_
  refine WL.op (call hs1 (.c (ot rfl) (.c (ot rfl) .n))) (by decide) ?_
  refine WL.op (mv (ot rfl)) (by decide) ?_
  refine WL.op (ex (ot rfl) rfl) (by decide) ?_
  refine WL.op (ex (ot rfl) rfl) (by decide) ?_
  refine WL.op (asg (ot rfl)) (by decide) ?_
  refine WL.op (asg (ot rfl)) (by decide) ?_
  refine WL.nl (.thn ?_)
  refine WP.seq ?_
  -- region 4 extree.go:168
  refine WP.region ?_
  refine WL.op (mv (ot rfl)) (by decide) ?_
  refine WL.op (fv fo_Extent_0 (ot rfl)) (by decide) ?_
  refine WL.op (lb 1 rfl sc_int (ot rfl) rfl) (by decide) ?_
  refine WL.op (fv fo_Extent_1 (ot rfl)) (by decide) ?_
  refine WL.op (lb 1 rfl sc_int (ot rfl) rfl) (by decide) ?_
  refine WL.op (add (ot rfl) (ot rfl) (by omega)) (by decide) ?_
  refine WL.op (call hs2 (.c (ot rfl) (.c (ot rfl) .n))) (by decide) ?_
  refine WL.op (mv (ot rfl)) (by decide) ?_
  refine WL.op (ex (ot rfl) rfl) (by decide) ?_
  refine WL.op (ex (ot rfl) rfl) (by decide) ?_
  refine WL.op (asg (ot rfl)) (by decide) ?_
  refine WL.op (asg (ot rfl)) (by decide) ?_
  refine WL.nl (.thn ?_)
  refine WP.seq ?_
  refine WP.seq ?_
  -- region 5 extree.go:169
  refine WP.region ?_
  refine WL.op (mv (ot rfl)) (by decide) ?_
  refine WL.op (notnil' pt_p_extree_node (ot rfl)) (by decide) ?_
  refine WL.nl (.thn ?_)
  -- extree.go:169
  refine WP.condT rfl ?_
  refine WP.seq ?_
  -- region 6 extree.go:170
  refine WP.region ?_
  refine WL.op (mv (ot rfl)) (by decide) ?_
  refine WL.op (call hL (.c (ot rfl) .n)) (by decide) ?_
  refine WL.op (mv (ot rfl)) (by decide) ?_
  refine WL.op (ex (ot rfl) rfl) (by decide) ?_
  refine WL.op (ex (ot rfl) rfl) (by decide) ?_
  refine WL.alloc zr_Extent rfl (by decide) fun b11 => ?_
  refine WL.store 0 rfl (ot rfl) (ot rfl) (.agg _) sz_Extent rfl (le_ rfl) ?_
  refine WL.op (asg (ot rfl)) (by decide) ?_
  refine WL.nl (.thn ?_)
  refine WP.seq ?_
  -- region 7 extree.go:170
  refine WP.region ?_
  refine WL.op (lbs 0 rfl ag_Extent (ot rfl) (le_ rfl)) (by decide) ?_
  refine WL.op (lbs 2 rfl ag_Extent (ot rfl) (le_ rfl)) (by decide) ?_
  refine WL.op (call (c_x_follows (last la ya ra).1 x (by first | omega | (simp only []; omega)) (by first | omega | (simp only []; omega))) (.c (ot rfl) (.c (ot rfl) .n))) (by decide) ?_
  refine WL.nl (.thn ?_)
  -- extree.go:170
  refine WP.cond rfl (fun hc => ?_) (fun hc => ?_)
  · skip
    have f1 := of_decide_eq_true hc
    -- region 8 extree.go:171
    refine WP.region ?_
    refine WL.op (fv fo_Extent_0 (ot rfl)) (by decide) ?_
    refine WL.op (lb 0 rfl sc_int (ot rfl) rfl) (by decide) ?_
    refine WL.op (fv fo_Extent_1 (ot rfl)) (by decide) ?_
    refine WL.op (lb 0 rfl sc_int (ot rfl) rfl) (by decide) ?_
    refine WL.op (fv fo_Extent_1 (ot rfl)) (by decide) ?_
    refine WL.op (lb 2 rfl sc_int (ot rfl) rfl) (by decide) ?_
    refine WL.op (add (ot rfl) (ot rfl) (by omega)) (by decide) ?_
    refine WL.op (fv fo_Extent_2 (ot rfl)) (by decide) ?_
    refine WL.op (lb 0 rfl sc_int (ot rfl) rfl) (by decide) ?_
    refine WL.op (bld zr_Extent rfl ps_Extent (.c (ot rfl) (.leaf (.val rfl)) pl_Extent_0 rfl (le_ rfl) (.c (ot rfl) (.leaf (.val rfl)) pl_Extent_1 rfl (le_ rfl) (.c (ot rfl) (.leaf (.val rfl)) pl_Extent_2 rfl (le_ rfl) .n)))) (by decide) ?_
    refine WL.op (mv (ot rfl)) (by decide) ?_
    refine WL.store 2 rfl (ot rfl) (ot rfl) (.agg _) sz_Extent rfl (le_ rfl) ?_
    refine WL.op (asg (ot rfl)) (by decide) ?_
    refine WL.nl (.thn ?_)
    refine WP.seq ?_
    refine WP.seq ?_
    -- region 9 extree.go:174
    refine WP.region ?_
    refine WL.op (mv (ot rfl)) (by decide) ?_
    refine WL.op (notnil' pt_p_extree_node (ot rfl)) (by decide) ?_
    refine WL.nl (.thn ?_)
    -- extree.go:174
    refine WP.condT rfl ?_
    refine WP.seq ?_
    -- region 10 extree.go:175
    refine WP.region ?_
    refine WL.op (mv (ot rfl)) (by decide) ?_
    refine WL.op (call hF (.c (ot rfl) .n)) (by decide) ?_
    refine WL.op (mv (ot rfl)) (by decide) ?_
    refine WL.op (ex (ot rfl) rfl) (by decide) ?_
    refine WL.op (ex (ot rfl) rfl) (by decide) ?_
    refine WL.alloc zr_Extent rfl (by decide) fun b13 => ?_
    refine WL.store 0 rfl (ot rfl) (ot rfl) (.agg _) sz_Extent rfl (le_ rfl) ?_
    refine WL.op (asg (ot rfl)) (by decide) ?_
    refine WL.nl (.thn ?_)
    refine WP.seq ?_
    -- region 11 extree.go:175
    refine WP.region ?_
    refine WL.op (lbs 3 rfl ag_Extent (ot rfl) (le_ rfl)) (by decide) ?_
    refine WL.op (lbs 0 rfl ag_Extent (ot rfl) (le_ rfl)) (by decide) ?_
    refine WL.op (call (c_x_follows ⟨(last la ya ra).1.a, (last la ya ra).1.n + x.n, (last la ya ra).1.s⟩ (first lq yb rq).1 (by first | omega | (simp only []; omega)) (by first | omega | (simp only []; omega))) (.c (ot rfl) (.c (ot rfl) .n))) (by decide) ?_
    refine WL.nl (.thn ?_)
    -- extree.go:175
    refine WP.cond rfl (fun hc => ?_) (fun hc => ?_)
    · skip
      have f2 := of_decide_eq_true hc
      refine WP.seq ?_
      -- region 12 extree.go:176
      refine WP.region ?_
      refine WL.op (fv fo_Extent_1 (ot rfl)) (by decide) ?_
      refine WL.op (lb 3 rfl sc_int (ot rfl) rfl) (by decide) ?_
      refine WL.op (fv fo_Extent_1 (ot rfl)) (by decide) ?_
      refine WL.op (lb 0 rfl sc_int (ot rfl) rfl) (by decide) ?_
      refine WL.op (add (ot rfl) (ot rfl) (by omega)) (by decide) ?_
      refine WL.op (fv fo_Extent_1 (ot rfl)) (by decide) ?_
      refine WL.store 3 rfl (ot rfl) (ot rfl) (.leaf (.val rfl)) sz_int rfl (le_ rfl) ?_
      refine WL.nl (.thn ?_)
      -- region 13 extree.go:177
      refine WP.region ?_
      refine WL.op (mv (ot rfl)) (by decide) ?_
      refine WL.op (asg (ot rfl)) (by decide) ?_
      refine WL.nl (.thn ?_)
      refine WP.seq ?_
      -- region 14 extree.go:180
      refine WP.region ?_
      refine WL.op (mv (ot rfl)) (by decide) ?_
      refine WL.op (lbs 3 rfl ag_Extent (ot rfl) (le_ rfl)) (by decide) ?_
      refine WL.op (mv (ot rfl)) (by decide) ?_
      refine WL.op (call (by have q := hj; simp only [glueL, glueR, f1, f2, ↓reduceIte] at q; exact q) (.c (ot rfl) (.c (ot rfl) (.c (ot rfl) .n)))) (by decide) ?_
      refine WL.op (bld zr_Tree rfl ps_Tree (.c (ot rfl) (.leaf (leaf_tree _)) pl_Tree_0 rfl (le_ rfl) .n)) (by decide) ?_
      refine WL.op (mv (ot rfl)) (by decide) ?_
      refine WL.op (call hm (.c (ot rfl) .n)) (by decide) ?_
      refine WL.store 2 rfl (ot rfl) (ot rfl) (.agg _) sz_Tree rfl (le_ rfl) ?_
      refine WL.op (asg (ot rfl)) (by decide) ?_
      refine WL.op (asg (oc _)) (by decide) ?_
      refine WL.nl (.thn ?_)
      exact WP.rt (.rN rfl (.cons (.bx 2 rfl rfl ag_Tree) (.cons (.tm rfl) (.cons (.tm rfl) .nil))) (le_ rfl) (imp _))
    · skip
      have f2 := of_decide_eq_false hc
      refine WP.sk (.thn ?_)
      refine WP.seq ?_
      -- region 14 extree.go:180
      refine WP.region ?_
      refine WL.op (mv (ot rfl)) (by decide) ?_
      refine WL.op (lbs 3 rfl ag_Extent (ot rfl) (le_ rfl)) (by decide) ?_
      refine WL.op (mv (ot rfl)) (by decide) ?_
      refine WL.op (call (by have q := hj; simp only [glueL, glueR, f1, f2, ↓reduceIte] at q; exact q) (.c (ot rfl) (.c (ot rfl) (.c (ot rfl) .n)))) (by decide) ?_
      refine WL.op (bld zr_Tree rfl ps_Tree (.c (ot rfl) (.leaf (leaf_tree _)) pl_Tree_0 rfl (le_ rfl) .n)) (by decide) ?_
      refine WL.op (mv (ot rfl)) (by decide) ?_
      refine WL.op (call hm (.c (ot rfl) .n)) (by decide) ?_
      refine WL.store 2 rfl (ot rfl) (ot rfl) (.agg _) sz_Tree rfl (le_ rfl) ?_
      refine WL.op (asg (ot rfl)) (by decide) ?_
      refine WL.op (asg (oc _)) (by decide) ?_
      refine WL.nl (.thn ?_)
      exact WP.rt (.rN rfl (.cons (.bx 2 rfl rfl ag_Tree) (.cons (.tm rfl) (.cons (.tm rfl) .nil))) (le_ rfl) (imp _))
  · skip
    have f1 := of_decide_eq_false hc
    refine WP.sk (.thn ?_)
    refine WP.seq ?_
    refine WP.seq ?_
    -- region 9 extree.go:174
    refine WP.region ?_
    refine WL.op (mv (ot rfl)) (by decide) ?_
    refine WL.op (notnil' pt_p_extree_node (ot rfl)) (by decide) ?_
    refine WL.nl (.thn ?_)
    -- extree.go:174
    refine WP.condT rfl ?_
    refine WP.seq ?_
    -- region 10 extree.go:175
    refine WP.region ?_
    refine WL.op (mv (ot rfl)) (by decide) ?_
    refine WL.op (call hF (.c (ot rfl) .n)) (by decide) ?_
    refine WL.op (mv (ot rfl)) (by decide) ?_
    refine WL.op (ex (ot rfl) rfl) (by decide) ?_
    refine WL.op (ex (ot rfl) rfl) (by decide) ?_
    refine WL.alloc zr_Extent rfl (by decide) fun b13 => ?_
    refine WL.store 0 rfl (ot rfl) (ot rfl) (.agg _) sz_Extent rfl (le_ rfl) ?_
    refine WL.op (asg (ot rfl)) (by decide) ?_
    refine WL.nl (.thn ?_)
    refine WP.seq ?_
    -- region 11 extree.go:175
    refine WP.region ?_
    refine WL.op (lbs 3 rfl ag_Extent (ot rfl) (le_ rfl)) (by decide) ?_
    refine WL.op (lbs 0 rfl ag_Extent (ot rfl) (le_ rfl)) (by decide) ?_
    refine WL.op (call (c_x_follows x (first lq yb rq).1 (by first | omega | (simp only []; omega)) (by first | omega | (simp only []; omega))) (.c (ot rfl) (.c (ot rfl) .n))) (by decide) ?_
    refine WL.nl (.thn ?_)
    -- extree.go:175
    refine WP.cond rfl (fun hc => ?_) (fun hc => ?_)
    · skip
      have f2 := of_decide_eq_true hc
      refine WP.seq ?_
      -- region 12 extree.go:176
      refine WP.region ?_
      refine WL.op (fv fo_Extent_1 (ot rfl)) (by decide) ?_
      refine WL.op (lb 3 rfl sc_int (ot rfl) rfl) (by decide) ?_
      refine WL.op (fv fo_Extent_1 (ot rfl)) (by decide) ?_
      refine WL.op (lb 0 rfl sc_int (ot rfl) rfl) (by decide) ?_
      refine WL.op (add (ot rfl) (ot rfl) (by omega)) (by decide) ?_
      refine WL.op (fv fo_Extent_1 (ot rfl)) (by decide) ?_
      refine WL.store 3 rfl (ot rfl) (ot rfl) (.leaf (.val rfl)) sz_int rfl (le_ rfl) ?_
      refine WL.nl (.thn ?_)
      -- region 13 extree.go:177
      refine WP.region ?_
      refine WL.op (mv (ot rfl)) (by decide) ?_
      refine WL.op (asg (ot rfl)) (by decide) ?_
      refine WL.nl (.thn ?_)
      refine WP.seq ?_
      -- region 14 extree.go:180
      refine WP.region ?_
      refine WL.op (mv (ot rfl)) (by decide) ?_
      refine WL.op (lbs 3 rfl ag_Extent (ot rfl) (le_ rfl)) (by decide) ?_
      refine WL.op (mv (ot rfl)) (by decide) ?_
      refine WL.op (call (by have q := hj; simp only [glueL, glueR, f1, f2, ↓reduceIte] at q; exact q) (.c (ot rfl) (.c (ot rfl) (.c (ot rfl) .n)))) (by decide) ?_
      refine WL.op (bld zr_Tree rfl ps_Tree (.c (ot rfl) (.leaf (leaf_tree _)) pl_Tree_0 rfl (le_ rfl) .n)) (by decide) ?_
      refine WL.op (mv (ot rfl)) (by decide) ?_
      refine WL.op (call hm (.c (ot rfl) .n)) (by decide) ?_
      refine WL.store 2 rfl (ot rfl) (ot rfl) (.agg _) sz_Tree rfl (le_ rfl) ?_
      refine WL.op (asg (ot rfl)) (by decide) ?_
      refine WL.op (asg (oc _)) (by decide) ?_
      refine WL.nl (.thn ?_)
      exact WP.rt (.rN rfl (.cons (.bx 2 rfl rfl ag_Tree) (.cons (.tm rfl) (.cons (.tm rfl) .nil))) (le_ rfl) (imp _))
    · skip
      have f2 := of_decide_eq_false hc
      refine WP.sk (.thn ?_)
      refine WP.seq ?_
      -- region 14 extree.go:180
      refine WP.region ?_
      refine WL.op (mv (ot rfl)) (by decide) ?_
      refine WL.op (lbs 3 rfl ag_Extent (ot rfl) (le_ rfl)) (by decide) ?_
      refine WL.op (mv (ot rfl)) (by decide) ?_
      refine WL.op (call (by have q := hj; simp only [glueL, glueR, f1, f2, ↓reduceIte] at q; exact q) (.c (ot rfl) (.c (ot rfl) (.c (ot rfl) .n)))) (by decide) ?_
      refine WL.op (bld zr_Tree rfl ps_Tree (.c (ot rfl) (.leaf (leaf_tree _)) pl_Tree_0 rfl (le_ rfl) .n)) (by decide) ?_
      refine WL.op (mv (ot rfl)) (by decide) ?_
      refine WL.op (call hm (.c (ot rfl) .n)) (by decide) ?_
      refine WL.store 2 rfl (ot rfl) (ot rfl) (.agg _) sz_Tree rfl (le_ rfl) ?_
      refine WL.op (asg (ot rfl)) (by decide) ?_
      refine WL.op (asg (oc _)) (by decide) ?_
      refine WL.nl (.thn ?_)
      exact WP.rt (.rN rfl (.cons (.bx 2 rfl rfl ag_Tree) (.cons (.tm rfl) (.cons (.tm rfl) .nil))) (le_ rfl) (imp _))

theorem c_x_Put {t : Tr} {x : X} (h : Wt t) (h0 : 0 ≤ x.a) (hx : Vx x) : PureC Try.prog 15 [eT t, ext x] (tup [eT (put t x).1, sl 3 FX (put t x).2.list, I 0]) := by
  obtain ⟨hw, hl2, hsem, hl, gb, kb, gv⟩ := put_spec h h0 hx
  obtain ⟨w1, w2, w3, w4, he, ho4, m1, m4, l3⟩ := split_facts h (a := x.a) (n := x.n) h0 (by have := hx.1; omega)
  have hV : PureC Try.prog 43 [sl 3 FX [x]] (val (.bool true)) := by
    have := c_extent_Valid [x] (by simp)
    rwa [decide_eq_true (show Xt.Ok 0 [x] from ⟨h0, hx.1, hx.2.1, hx.2.2.1, hx.2.2.2, trivial⟩)] at this
  have hs1 := c_n_split t x.a h.1 h.2.1
  have hs2 := c_n_split (split t x.a).2 (x.a + x.n) w2.1 w2.2.1
  have hm := c_n_list (split (split t x.a).2 (x.a + x.n)).1 (by have := (w3.2.1.bd (Int.le_refl 0)).2.1; omega)
  have hj : PureC Try.prog 47 _ (tree (put t x).1) := c_x_join (l := (glueL (split t x.a).1 x).2) (r := (glueR (glueL (split t x.a).1 x).1 (split (split t x.a).2 (x.a + x.n)).2).2) gb kb (by rw [← hl]; exact hw.2.1.bd (Int.le_refl 0))
  have hv : 0 ≤ x.a ∧ 1 ≤ x.n ∧ 0 ≤ x.s ∧ x.a + x.n ≤ 65536 ∧ x.s + x.n ≤ 65536 := ⟨h0, hx⟩
  show PureC Try.prog 15 [eT t, ext x] (tup [eT (put t x).1, sl 3 FX (split (split t x.a).2 (x.a + x.n)).1.list, I 0])
  generalize (put t x).1 = T at *
  generalize hmid : (split (split t x.a).2 (x.a + x.n)).1 = mid at *
  generalize hbb : (split (split t x.a).2 (x.a + x.n)).2 = b at *
  generalize hrr : (split t x.a).2 = rest at *
  generalize haa : (split t x.a).1 = a at *
  have lastv : ∀ la ya ra, a = .node la ya ra → _ := fun la ya ra e => by
    have := w1.2.1.starts (last la ya ra).1 (by rw [e, ← (last_spec ra la ya (e ▸ w1.1)).1]; simp)
    exact this
  have firstv : ∀ lq yb rq, b = .node lq yb rq → _ := fun lq yb rq e => by
    have := w4.2.1.starts (first lq yb rq).1 (by rw [e, ← (first_spec lq yb rq (e ▸ w4.1)).1]; simp)
    exact this
  cases a with
  | nil => cases b with
    | nil => exact c_Put_nn hV hs1 hs2 hv hm hj
    | node lq yb rq => exact c_Put_ns hV hs1 hs2 hv hm hj (c_n_first lq yb rq w4.1 (w4.2.1.bd (Int.le_refl 0))) (firstv _ _ _ rfl)
  | node la ya ra => cases b with
    | nil => exact c_Put_sn hV hs1 hs2 hv hm hj (c_n_last ra la ya w1.1 (w1.2.1.bd (Int.le_refl 0))) (lastv _ _ _ rfl)
    | node lq yb rq => exact c_Put_ss hV hs1 hs2 hv hm hj (c_n_last ra la ya w1.1 (w1.2.1.bd (Int.le_refl 0))) (lastv _ _ _ rfl) (c_n_first lq yb rq w4.1 (w4.2.1.bd (Int.le_refl 0))) (firstv _ _ _ rfl)
theorem c_x_Put_err {t : Tr} {x : X} (hx : ¬ Xt.Ok 0 [x]) : PureC Try.prog 15 [eT t, ext x] eErr := c_Put_err (by
  have := c_extent_Valid [x] (by simp)
  rwa [decide_eq_false hx] at this)

theorem c_x_Cut_err {t : Tr} {a n : Int} (hw : ¬ Wi a n 65536) : PureC Try.prog 14 [eT t, I a, I n] eErr := by
  refine PureC.of_wp Try.func14 (by kernel_rfl) rfl Try.ntmps14 (le_ rfl) (fun w0 M0 => ?_)
  refine WP.seq ?_
  -- region 0 extree.go:187
  refine WP.region ?_
  refine WL.box (ot rfl) (.agg _) (by decide) fun b3 => ?_
  refine WL.alloc zr_Tree rfl (by decide) fun b6 => ?_
  refine WL.op (asg (oc _)) (by decide) ?_
  refine WL.op (asg (oc _)) (by decide) ?_
  refine WL.nl (.thn ?_)
  refine WP.seq ?_
  refine WP.seq ?_
  -- region 1 extree.go:188
  refine WP.region ?_
  refine WL.op (mv (ot rfl)) (by decide) ?_
  refine WL.op (mv (ot rfl)) (by decide) ?_
  refine WL.op ((OpG.weak (call (c_x_proper _ _) (.c (ot rfl) (.c (ot rfl) .n))) (imp_eq (congrArg (fun b => val (.bool b)) (decide_eq_false hw))))) (by decide) ?_
  refine WL.op (not_ (ot rfl)) (by decide) ?_
  refine WL.nl (.thn ?_)
  -- extree.go:188
  refine WP.condT rfl ?_
  refine WP.seq ?_
  -- region 2 extree.go:189
  refine WP.region ?_
  refine WL.op (bld zr_Tree rfl ps_Tree .n) (by decide) ?_
  refine WL.store 0 rfl (ot rfl) (ot rfl) (.agg _) sz_Tree rfl (le_ rfl) ?_
  refine WL.op (OpG.weak (asg (oc _)) (sl_nil (sz := 3) (f := FX))) (by decide) ?_
  refine WL.op (asg (oc _)) (by decide) ?_
  refine WL.nl (.thn ?_)
  exact WP.rt (.rthn (.rN rfl (.cons (.bx 0 rfl rfl ag_Tree) (.cons (.tm rfl) (.cons (.tm rfl) .nil))) (le_ rfl) (imp _)))
theorem c_x_Cut_0 {t : Tr} {a : Int} (hw : Wi a 0 65536) : PureC Try.prog 14 [eT t, I a, I 0] (tup [eT t, sl 3 FX ([] : List X), I 0]) := by
  refine PureC.of_wp Try.func14 (by kernel_rfl) rfl Try.ntmps14 (le_ rfl) (fun w0 M0 => ?_)
  refine WP.seq ?_
  -- region 0 extree.go:187
  refine WP.region ?_
  refine WL.box (ot rfl) (.agg _) (by decide) fun b3 => ?_
  refine WL.alloc zr_Tree rfl (by decide) fun b6 => ?_
  refine WL.op (asg (oc _)) (by decide) ?_
  refine WL.op (asg (oc _)) (by decide) ?_
  refine WL.nl (.thn ?_)
  refine WP.seq ?_
  refine WP.seq ?_
  -- region 1 extree.go:188
  refine WP.region ?_
  refine WL.op (mv (ot rfl)) (by decide) ?_
  refine WL.op (mv (ot rfl)) (by decide) ?_
  refine WL.op ((OpG.weak (call (c_x_proper _ _) (.c (ot rfl) (.c (ot rfl) .n))) (imp_eq (congrArg (fun b => val (.bool b)) (decide_eq_true hw))))) (by decide) ?_
  refine WL.op (not_ (ot rfl)) (by decide) ?_
  refine WL.nl (.thn ?_)
  -- extree.go:188
  refine WP.condF rfl ?_
  refine WP.sk (.thn ?_)
  refine WP.seq ?_
  refine WP.seq ?_
  -- region 3 extree.go:191
  refine WP.region ?_
  refine WL.op (mv (ot rfl)) (by decide) ?_
  refine WL.op ((OpG.weak (eql (ot rfl) (oc _)) (imp_eq (congrArg (fun b => val (.bool b)) (decide_eq_true rfl))))) (by decide) ?_
  refine WL.nl (.thn ?_)
  -- extree.go:191
  refine WP.condT rfl ?_
  refine WP.seq ?_
  -- region 4 extree.go:192
  refine WP.region ?_
  refine WL.op (lbs 1 rfl ag_Tree (ot rfl) (le_ rfl)) (by decide) ?_
  refine WL.store 0 rfl (ot rfl) (ot rfl) (.agg _) sz_Tree rfl (le_ rfl) ?_
  refine WL.op (OpG.weak (asg (oc _)) (sl_nil (sz := 3) (f := FX))) (by decide) ?_
  refine WL.op (asg (oc _)) (by decide) ?_
  refine WL.nl (.thn ?_)
  exact WP.rt (.rthn (.rN rfl (.cons (.bx 0 rfl rfl ag_Tree) (.cons (.tm rfl) (.cons (.tm rfl) .nil))) (le_ rfl) (imp _)))
theorem c_x_Cut {t : Tr} {a n : Int} (h : Wt t) (hw : Wi a n 65536) (hn : 1 ≤ n) : PureC Try.prog 14 [eT t, I a, I n] (tup [eT (cut t a n).1, sl 3 FX (cut t a n).2.list, I 0]) := by
  have hw' := hw
  unfold Wi at hw'
  obtain ⟨w1, w2, w3, w4, he, ho4, m1, m4, l3⟩ := split_facts h (a := a) (n := n) (by omega) (by omega)
  have hB : Bd ((split t a).1.list ++ (split (split t a).2 (a + n)).2.list) := by
    have := (cut_spec h (a := a) (n := n) (by omega) hn).1.2.1.bd (Int.le_refl 0)
    rwa [show (cut t a n).1.list = _ from (concat_spec w1.1 w4.1).1] at this
  have hM : (split (split t a).2 (a + n)).1.list.length ≤ 99999 := by have := (w3.2.1.bd (Int.le_refl 0)).2.1; omega
  refine PureC.of_wp Try.func14 (by kernel_rfl) rfl Try.ntmps14 (le_ rfl) (fun w0 M0 => ?_)
  refine WP.seq ?_
  -- region 0 extree.go:187
  refine WP.region ?_
  refine WL.box (ot rfl) (.agg _) (by decide) fun b3 => ?_
  refine WL.alloc zr_Tree rfl (by decide) fun b6 => ?_
  refine WL.op (asg (oc _)) (by decide) ?_
  refine WL.op (asg (oc _)) (by decide) ?_
  refine WL.nl (.thn ?_)
  refine WP.seq ?_
  refine WP.seq ?_
  -- region 1 extree.go:188
  refine WP.region ?_
  refine WL.op (mv (ot rfl)) (by decide) ?_
  refine WL.op (mv (ot rfl)) (by decide) ?_
  refine WL.op ((OpG.weak (call (c_x_proper _ _) (.c (ot rfl) (.c (ot rfl) .n))) (imp_eq (congrArg (fun b => val (.bool b)) (decide_eq_true hw))))) (by decide) ?_
  refine WL.op (not_ (ot rfl)) (by decide) ?_
  refine WL.nl (.thn ?_)
  -- extree.go:188
  refine WP.condF rfl ?_
  refine WP.sk (.thn ?_)
  refine WP.seq ?_
  refine WP.seq ?_
  -- region 3 extree.go:191
  refine WP.region ?_
  refine WL.op (mv (ot rfl)) (by decide) ?_
  refine WL.op ((OpG.weak (eql (ot rfl) (oc _)) (imp_eq (congrArg (fun b => val (.bool b)) (decide_eq_false (by omega)))))) (by decide) ?_
  refine WL.nl (.thn ?_)
  -- extree.go:191
  refine WP.condF rfl ?_
  refine WP.sk (.thn ?_)
  refine WP.seq ?_
  -- region 5 extree.go:194
  refine WP.region ?_
  refine WL.op (fv fo_Tree_0 (ot rfl)) (by decide) ?_
  refine WL.op (lb 1 rfl sc_p_extree_node (ot rfl) rfl) (by decide) ?_
  refine WL.op (mv (ot rfl)) (by decide) ?_
  refine WL.op (call (c_n_split t a h.1 h.2.1) (.c (ot rfl) (.c (ot rfl) .n))) (by decide) ?_
  refine WL.op (mv (ot rfl)) (by decide) ?_
  refine WL.op (ex (ot rfl) rfl) (by decide) ?_
  refine WL.op (ex (ot rfl) rfl) (by decide) ?_
  refine WL.op (asg (ot rfl)) (by decide) ?_
  refine WL.op (asg (ot rfl)) (by decide) ?_
  refine WL.nl (.thn ?_)
  refine WP.seq ?_
  -- region 6 extree.go:195
  refine WP.region ?_
  refine WL.op (mv (ot rfl)) (by decide) ?_
  refine WL.op (mv (ot rfl)) (by decide) ?_
  refine WL.op (mv (ot rfl)) (by decide) ?_
  refine WL.op (add (ot rfl) (ot rfl) (by omega)) (by decide) ?_
  refine WL.op (call (c_n_split (split t a).2 (a + n) w2.1 w2.2.1) (.c (ot rfl) (.c (ot rfl) .n))) (by decide) ?_
  refine WL.op (mv (ot rfl)) (by decide) ?_
  refine WL.op (ex (ot rfl) rfl) (by decide) ?_
  refine WL.op (ex (ot rfl) rfl) (by decide) ?_
  refine WL.op (asg (ot rfl)) (by decide) ?_
  refine WL.op (asg (ot rfl)) (by decide) ?_
  refine WL.nl (.thn ?_)
  refine WP.seq ?_
  -- region 7 extree.go:196
  refine WP.region ?_
  refine WL.op (mv (ot rfl)) (by decide) ?_
  refine WL.op (mv (ot rfl)) (by decide) ?_
  refine WL.op (call (c_x_concat w1.1 w4.1 hB) (.c (ot rfl) (.c (ot rfl) .n))) (by decide) ?_
  refine WL.op (bld zr_Tree rfl ps_Tree (.c (ot rfl) (.leaf (leaf_tree _)) pl_Tree_0 rfl (le_ rfl) .n)) (by decide) ?_
  refine WL.op (mv (ot rfl)) (by decide) ?_
  refine WL.op (call (c_n_list (split (split t a).2 (a + n)).1 hM) (.c (ot rfl) .n)) (by decide) ?_
  refine WL.store 0 rfl (ot rfl) (ot rfl) (.agg _) sz_Tree rfl (le_ rfl) ?_
  refine WL.op (asg (ot rfl)) (by decide) ?_
  refine WL.op (asg (oc _)) (by decide) ?_
  refine WL.nl (.thn ?_)
  exact WP.rt (.rN rfl (.cons (.bx 0 rfl rfl ag_Tree) (.cons (.tm rfl) (.cons (.tm rfl) .nil))) (le_ rfl) (imp _))
theorem c_x_New : PureC Try.prog 13 [] (eT .nil) := by
  refine PureC.of_wp Try.func13 (by kernel_rfl) rfl Try.ntmps13 (le_ rfl) (fun w0 M0 => ?_)
  refine WP.seq ?_
  -- region 0 extree.go:144
  refine WP.region ?_
  refine WL.alloc zr_Tree rfl (by decide) fun b0 => ?_
  refine WL.nl (.thn ?_)
  refine WP.seq ?_
  -- region 1 extree.go:144
  refine WP.region ?_
  refine WL.op (bld zr_Tree rfl ps_Tree .n) (by decide) ?_
  refine WL.store 0 rfl (ot rfl) (ot rfl) (.agg _) sz_Tree rfl (le_ rfl) ?_
  refine WL.nl (.thn ?_)
  exact WP.rt (.rB rfl (.bx 0 rfl rfl ag_Tree) (imp _))
theorem c_x_Tree_Len (t : Tr) : PureC Try.prog 17 [eT t] (I t.count) := by
  refine PureC.of_wp Try.func17 (by kernel_rfl) rfl Try.ntmps17 (le_ rfl) (fun w0 M0 => ?_)
  refine WP.seq ?_
  -- region 0 extree.go:226
  refine WP.region ?_
  refine WL.box (ot rfl) (.agg _) (by decide) fun b1 => ?_
  refine WL.op (asg (oc _)) (by decide) ?_
  refine WL.nl (.thn ?_)
  refine WP.seq ?_
  -- region 1 extree.go:226
  refine WP.region ?_
  refine WL.op (fv fo_Tree_0 (ot rfl)) (by decide) ?_
  refine WL.op (lb 0 rfl sc_p_extree_node (ot rfl) rfl) (by decide) ?_
  refine WL.op (call (c_n_size) (.c (ot rfl) .n)) (by decide) ?_
  refine WL.op (asg (ot rfl)) (by decide) ?_
  refine WL.nl (.thn ?_)
  exact WP.rt (.r1 rfl rfl (imp _))
theorem c_x_Tree_Blocks (t : Tr) : PureC Try.prog 18 [eT t] (I t.blocks) := by
  refine PureC.of_wp Try.func18 (by kernel_rfl) rfl Try.ntmps18 (le_ rfl) (fun w0 M0 => ?_)
  refine WP.seq ?_
  -- region 0 extree.go:229
  refine WP.region ?_
  refine WL.box (ot rfl) (.agg _) (by decide) fun b1 => ?_
  refine WL.op (asg (oc _)) (by decide) ?_
  refine WL.nl (.thn ?_)
  refine WP.seq ?_
  -- region 1 extree.go:229
  refine WP.region ?_
  refine WL.op (fv fo_Tree_0 (ot rfl)) (by decide) ?_
  refine WL.op (lb 0 rfl sc_p_extree_node (ot rfl) rfl) (by decide) ?_
  refine WL.op (call (c_n_mapped) (.c (ot rfl) .n)) (by decide) ?_
  refine WL.op (asg (ot rfl)) (by decide) ?_
  refine WL.nl (.thn ?_)
  exact WP.rt (.r1 rfl rfl (imp _))
theorem c_x_Tree_Depth (t : Tr) : PureC Try.prog 38 [eT t] (I t.depth) := by
  refine PureC.of_wp Try.func38 (by kernel_rfl) rfl Try.ntmps38 (le_ rfl) (fun w0 M0 => ?_)
  refine WP.seq ?_
  -- region 0 extree.go:232
  refine WP.region ?_
  refine WL.box (ot rfl) (.agg _) (by decide) fun b1 => ?_
  refine WL.op (asg (oc _)) (by decide) ?_
  refine WL.nl (.thn ?_)
  refine WP.seq ?_
  -- region 1 extree.go:232
  refine WP.region ?_
  refine WL.op (fv fo_Tree_0 (ot rfl)) (by decide) ?_
  refine WL.op (lb 0 rfl sc_p_extree_node (ot rfl) rfl) (by decide) ?_
  refine WL.op (call (c_n_deep) (.c (ot rfl) .n)) (by decide) ?_
  refine WL.op (asg (ot rfl)) (by decide) ?_
  refine WL.nl (.thn ?_)
  exact WP.rt (.r1 rfl rfl (imp _))
end Go.Proofs.Ytjglgfnhgehpeaa

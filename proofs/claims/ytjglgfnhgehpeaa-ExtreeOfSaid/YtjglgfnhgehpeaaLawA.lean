/- balanced and awake: what they compute. -/
import Derived.Test.YtjglgfnhgehpeaaPutW
import Derived.Test.YtjglgfnhgehpeaaBal
import Derived.Test.YtjglgfnhgehpeaaLay2
set_option linter.unusedVariables false
set_option linter.unusedSimpArgs false
set_option maxRecDepth 4000
namespace Go.Proofs.Ytjglgfnhgehpeaa
open Go.RowKit Go.Fw Go.Xt
theorem c_w33_balanced {t : Tr} (h : Wt t) : PureC Try.prog 16 [eT t] (val (.bool true)) := by
  obtain ⟨b1, b2, b3, b4, b5, b6, b7, b8, b9⟩ := bal_facts h
  refine PureC.of_wp Try.func16 (by kernel_rfl) rfl Try.ntmps16 (le_ rfl) (fun w0 M0 => ?_)
  refine WP.seq ?_
  -- region 0 law.go:112
  refine WP.region ?_
  refine WL.box (ot rfl) (.agg _) (by decide) fun b1 => ?_
  refine WL.op (asg (oc _)) (by decide) ?_
  refine WL.nl (.thn ?_)
  refine WP.seq ?_
  -- region 1 draws law.go:113
  refine WP.draws ?_
  refine RG.op (lbs 0 rfl ag_Tree (ot rfl) (le_ rfl)) ?_
  refine RG.op (call (c_x_Tree_Depth t) (.c (ot rfl) .n)) ?_
  refine RG.op (lbs 0 rfl ag_Tree (ot rfl) (le_ rfl)) ?_
  refine RG.op (call (c_x_Tree_Len t) (.c (ot rfl) .n)) ?_
  refine RG.op (asg (ot rfl)) ?_
  refine RG.op (asg (ot rfl)) ?_
  refine RG.fin HM (by kernel_rfl) ?_
  show WL _ _ _ _ _ _ _ _ _
  refine WL.nl (.thn ?_)
  refine WP.seq ?_
  -- region 2 law.go:114
  refine WP.region ?_
  refine WL.op (mv (ot rfl)) (by decide) ?_
  refine WL.op (geq (ot rfl) (oc _)) (by decide) ?_
  refine WL.op (mv (ot rfl)) (by decide) ?_
  refine WL.gd rfl rfl (Tells.v _ _) (fun hg => mv (ot rfl)) (by decide) ?_
  refine WL.gd rfl rfl (Tells.v _ _) (fun hg => lss (og rfl hg) (oc _)) (by decide) ?_
  refine WL.op (and_ (ot rfl) (ot rfl)) (by decide) ?_
  refine WL.op (mv (ot rfl)) (by decide) ?_
  refine WL.gd rfl rfl (Tells.v _ _) (fun hg => mv (ot rfl)) (by decide) ?_
  refine WL.gd rfl rfl (Tells.v _ _) (fun hg => eql (og rfl hg) (oc _)) (by decide) ?_
  refine WL.gd rfl rfl (Tells.v _ _) (fun hg => mv (ot rfl)) (by decide) ?_
  refine WL.gd rfl rfl (Tells.v _ _) (fun hg => eql (og rfl hg) (oc _)) (by decide) ?_
  refine WL.gd rfl rfl (Tells.v _ _) (fun hg => eqb un_bool (og rfl hg) (og rfl hg)) (by decide) ?_
  refine WL.op (and_ (ot rfl) (ot rfl)) (by decide) ?_
  refine WL.op (mv (ot rfl)) (by decide) ?_
  refine WL.gd rfl rfl (Tells.v _ _) (fun hg => mv (ot rfl)) (by decide) ?_
  refine WL.gd rfl rfl (Tells.v _ _) (fun hg => shl_ (oc _) (og rfl hg) (by omega) (by show t.depth ≤ 64; omega) (IntWalk.i64_in _ (by rw [Int.one_mul]; omega))) (by decide) ?_
  refine WL.gd rfl rfl (Tells.v _ _) (fun hg => mv (ot rfl)) (by decide) ?_
  refine WL.gd rfl rfl (Tells.v _ _) (fun hg => add (og rfl hg) (oc _) (by omega)) (by decide) ?_
  refine WL.gd rfl rfl (Tells.v _ _) (fun hg => mv (ot rfl)) (by decide) ?_
  refine WL.gd rfl rfl (Tells.v _ _) (fun hg => add (og rfl hg) (oc _) (by omega)) (by decide) ?_
  refine WL.gd rfl rfl (Tells.v _ _) (fun hg => mul (og rfl hg) (og rfl hg) (by omega)) (by decide) ?_
  refine WL.gd rfl rfl (Tells.v _ _) (fun hg => leq (og rfl hg) (og rfl hg)) (by decide) ?_
  refine WL.op (and_ (ot rfl) (ot rfl)) (by decide) ?_
  refine WL.op (asg (ot rfl)) (by decide) ?_
  refine WL.nl (.thn ?_)
  exact WP.rt (.r1 rfl rfl (imp_eq (congrArg (fun b => val (.bool b)) (by simp; omega))))
theorem c_w33_awake : PureC Try.prog 12 [] (val (.bool true)) := by
  refine PureC.of_wp Try.func12 (by kernel_rfl) rfl Try.ntmps12 (le_ rfl) (fun w0 M0 => ?_)
  refine WP.seq ?_
  -- region 0 law.go:12
  refine WP.region ?_
  refine WL.op (asg (oc _)) (by decide) ?_
  refine WL.nl (.thn ?_)
  refine WP.seq ?_
  -- region 1 law.go:13
  refine WP.region ?_
  refine WL.op (call (c_x_New) .n) (by decide) ?_
  refine WL.op (bld zr_Extent rfl ps_Extent (.c (oc _) (.leaf (.val rfl)) pl_Extent_1 rfl (le_ rfl) (.c (oc _) (.leaf (.val rfl)) pl_Extent_2 rfl (le_ rfl) .n))) (by decide) ?_
  refine WL.op (call (c_x_Put (t := .nil) (x := ⟨0, 4, 10⟩) wt_nil (by decide) (by unfold Vx; decide)) (.c (ot rfl) (.c (ot rfl) .n))) (by decide) ?_
  refine WL.op (mv (ot rfl)) (by decide) ?_
  refine WL.op (ex (ot rfl) rfl) (by decide) ?_
  refine WL.op (ex (ot rfl) rfl) (by decide) ?_
  refine WL.op (ex (ot rfl) rfl) (by decide) ?_
  refine WL.alloc zr_Tree rfl (by decide) fun b1 => ?_
  refine WL.store 0 rfl (ot rfl) (ot rfl) (.agg _) sz_Tree rfl (le_ rfl) ?_
  refine WL.op (asg (ot rfl)) (by decide) ?_
  refine WL.op (asg (ot rfl)) (by decide) ?_
  refine WL.nl (.thn ?_)
  refine WP.seq ?_
  -- region 2 law.go:14
  refine WP.region ?_
  refine WL.op (lbs 0 rfl ag_Tree (ot rfl) (le_ rfl)) (by decide) ?_
  refine WL.op (bld zr_Extent rfl ps_Extent (.c (oc _) (.leaf (.val rfl)) pl_Extent_0 rfl (le_ rfl) (.c (oc _) (.leaf (.val rfl)) pl_Extent_1 rfl (le_ rfl) (.c (oc _) (.leaf (.val rfl)) pl_Extent_2 rfl (le_ rfl) .n)))) (by decide) ?_
  refine WL.op (call (c_x_Put (t := ex1) (x := ⟨4, 2, 14⟩) ex1_wt (by decide) (by unfold Vx; decide)) (.c (ot rfl) (.c (ot rfl) .n))) (by decide) ?_
  refine WL.op (mv (ot rfl)) (by decide) ?_
  refine WL.op (ex (ot rfl) rfl) (by decide) ?_
  refine WL.op (ex (ot rfl) rfl) (by decide) ?_
  refine WL.op (ex (ot rfl) rfl) (by decide) ?_
  refine WL.alloc zr_Tree rfl (by decide) fun b4 => ?_
  refine WL.store 0 rfl (ot rfl) (ot rfl) (.agg _) sz_Tree rfl (le_ rfl) ?_
  refine WL.op (asg (ot rfl)) (by decide) ?_
  refine WL.op (asg (ot rfl)) (by decide) ?_
  refine WL.nl (.thn ?_)
  refine WP.seq ?_
  -- region 3 law.go:15
  refine WP.region ?_
  refine WL.op (lbs 0 rfl ag_Tree (ot rfl) (le_ rfl)) (by decide) ?_
  refine WL.op (call (c_x_Cut (t := ex2) (a := 2) (n := 2) ex2_wt (by unfold Wi; decide) (by decide)) (.c (ot rfl) (.c (oc _) (.c (oc _) .n)))) (by decide) ?_
  refine WL.op (mv (ot rfl)) (by decide) ?_
  refine WL.op (ex (ot rfl) rfl) (by decide) ?_
  refine WL.op (ex (ot rfl) rfl) (by decide) ?_
  refine WL.op (ex (ot rfl) rfl) (by decide) ?_
  refine WL.alloc zr_Tree rfl (by decide) fun b7 => ?_
  refine WL.store 0 rfl (ot rfl) (ot rfl) (.agg _) sz_Tree rfl (le_ rfl) ?_
  refine WL.op (asg (ot rfl)) (by decide) ?_
  refine WL.op (asg (ot rfl)) (by decide) ?_
  refine WL.nl (.thn ?_)
  refine WP.seq ?_
  -- region 4 law.go:16
  refine WP.region ?_
  refine WL.op (mv (ot rfl)) (by decide) ?_
  refine WL.op (eql (ot rfl) (oc _)) (by decide) ?_
  refine WL.op (mv (ot rfl)) (by decide) ?_
  refine WL.gd rfl rfl (Tells.v _ _) (fun hg => mv (ot rfl)) (by decide) ?_
  refine WL.gd rfl rfl (Tells.v _ _) (fun hg => eql (og rfl hg) (oc _)) (by decide) ?_
  refine WL.op (and_ (ot rfl) (ot rfl)) (by decide) ?_
  refine WL.op (mv (ot rfl)) (by decide) ?_
  refine WL.gd rfl rfl (Tells.v _ _) (fun hg => mv (ot rfl)) (by decide) ?_
  refine WL.gd rfl rfl (Tells.v _ _) (fun hg => eql (og rfl hg) (oc _)) (by decide) ?_
  refine WL.op (and_ (ot rfl) (ot rfl)) (by decide) ?_
  refine WL.op (mv (ot rfl)) (by decide) ?_
  refine WL.gd rfl rfl (Tells.v _ _) (fun hg => lbs 1 rfl ag_Tree (ot rfl) (le_ rfl)) (by decide) ?_
  refine WL.gd rfl rfl (Tells.v _ _) (fun hg => call (c_x_Tree_Len ex2) (.c (og rfl hg) .n)) (by decide) ?_
  refine WL.gd rfl rfl (Tells.v _ _) (fun hg => eql (og rfl hg) (oc _)) (by decide) ?_
  refine WL.op (and_ (ot rfl) (ot rfl)) (by decide) ?_
  refine WL.op (mv (ot rfl)) (by decide) ?_
  refine WL.gd rfl rfl (Tells.v _ _) (fun hg => lbs 1 rfl ag_Tree (ot rfl) (le_ rfl)) (by decide) ?_
  refine WL.gd rfl rfl (Tells.v _ _) (fun hg => call (c_x_Tree_Depth ex2) (.c (og rfl hg) .n)) (by decide) ?_
  refine WL.gd rfl rfl (Tells.v _ _) (fun hg => eql (og rfl hg) (oc _)) (by decide) ?_
  refine WL.op (and_ (ot rfl) (ot rfl)) (by decide) ?_
  refine WL.op (mv (ot rfl)) (by decide) ?_
  refine WL.gd rfl rfl (Tells.v _ _) (fun hg => lbs 0 rfl ag_Tree (ot rfl) (le_ rfl)) (by decide) ?_
  refine WL.gd rfl rfl (Tells.v _ _) (fun hg => call (c_x_Tree_Len ex3.1) (.c (og rfl hg) .n)) (by decide) ?_
  refine WL.gd rfl rfl (Tells.v _ _) (fun hg => eql (og rfl hg) (oc _)) (by decide) ?_
  refine WL.op (and_ (ot rfl) (ot rfl)) (by decide) ?_
  refine WL.op (mv (ot rfl)) (by decide) ?_
  refine WL.gd rfl rfl (Tells.v _ _) (fun hg => mv (ot rfl)) (by decide) ?_
  refine WL.gd rfl rfl (Tells.v _ _) (fun hg => len_ us_s_api_Extent (og rfl hg)) (by decide) ?_
  refine WL.gd rfl rfl (Tells.v _ _) (fun hg => eql (og rfl hg) (oc _)) (by decide) ?_
  refine WL.op (and_ (ot rfl) (ot rfl)) (by decide) ?_
  refine WL.op (mv (ot rfl)) (by decide) ?_
  refine WL.gd rfl rfl (Tells.v _ _) (fun hg => mv (ot rfl)) (by decide) ?_
  refine WL.gd rfl rfl (Tells.v _ _) (fun hg => ixd (f := FX) (xs := ex3.2.list) el_s_api_Extent (og rfl hg) (oc _) (by omega) (by rw [ex3_mid]; decide)) (by decide) ?_
  refine WL.gd rfl rfl (Tells.v _ _) (fun hg => ls ag_Extent (og rfl hg) (le_ rfl)) (by decide) ?_
  refine WL.gd rfl rfl (Tells.v _ _) (fun hg => bld zr_Extent rfl ps_Extent (.c (oc _) (.leaf (.val rfl)) pl_Extent_0 rfl (le_ rfl) (.c (oc _) (.leaf (.val rfl)) pl_Extent_1 rfl (le_ rfl) (.c (oc _) (.leaf (.val rfl)) pl_Extent_2 rfl (le_ rfl) .n)))) (by decide) ?_
  refine WL.gd rfl rfl (Tells.v _ _) (fun hg => eqs (us := [(ex3.2.list.getD 0 default).a, (ex3.2.list.getD 0 default).n, (ex3.2.list.getD 0 default).s]) (cs := [2, 2, 12]) iF_Extent rfl rfl (og rfl hg) (og rfl hg)) (by decide) ?_
  refine WL.op (and_ (ot rfl) (ot rfl)) (by decide) ?_
  refine WL.op (asg (ot rfl)) (by decide) ?_
  refine WL.nl (.thn ?_)
  exact WP.rt (.r1 rfl rfl (imp_eq (congrArg (fun b => val (.bool b)) (by simp [ex2_count, ex2_depth, ex3_count, ex3_mid]; show ((ex3.2.list.length : Nat) : Int) = 1; rw [ex3_mid]; rfl))))
end Go.Proofs.Ytjglgfnhgehpeaa

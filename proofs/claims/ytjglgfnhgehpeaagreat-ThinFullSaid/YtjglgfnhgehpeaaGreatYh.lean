/- Parts: Tree, Sp, Tree2. -/
import Derived.Test.YtjglgfnhgehpeaaGreatYg
/- What the functions of the persistent trees compute. -/
set_option linter.unusedVariables false
set_option linter.unusedSimpArgs false
set_option maxRecDepth 4000
namespace Go.Proofs.YtjglgfnhgehpeaaGreat
open Go.RowKit Go.Fw Go.Xt

abbrev I (n : Int) : Rp := val (.int .i64 n)
def tree : Tr → Rp
  | .nil => val (.pointer none)
  | .node l x r => at_ [I x.a, I x.n, I x.s, tree l, tree r, I (1 + max l.depth r.depth), I (1 + l.count + r.count), I (x.n + l.blocks + r.blocks)]
theorem leaf_tree : ∀ t : Tr, Leaf (tree t)
  | .nil => .val rfl
  | .node _ _ _ => .at_ _
def ext (x : X) : Rp := agg [I x.a, I x.n, I x.s]

theorem c_n_deep_nil : PureC Tryz.prog 157 [tree .nil] (I (Tr.depth .nil)) := by
  refine PureC.of_wp Tryz.func157 (by kernel_rfl) rfl Tryz.ntmps157 (le_ rfl) (fun w0 M0 => ?_)
  refine WP.seq ?_
  refine WP.region ?_
  refine WL.op (asg (oc _)) (by decide) ?_
  refine WL.nl (.thn ?_)
  refine WP.seq ?_
  refine WP.seq ?_
  refine WP.region ?_
  refine WL.op (mv (ot rfl)) (by decide) ?_
  refine WL.op (isnil pt_p_extree_node (ot rfl)) (by decide) ?_
  refine WL.nl (.thn ?_)
  refine WP.condT rfl ?_
  refine WP.seq ?_
  refine WP.region ?_
  refine WL.op (asg (oc _)) (by decide) ?_
  refine WL.nl (.thn ?_)
  exact WP.rt (.rthn (.r1 rfl rfl (imp _)))
theorem c_n_deep_node (l r : Tr) (x : X) : PureC Tryz.prog 157 [tree (.node l x r)] (I (Tr.depth (.node l x r))) := by
  refine PureC.of_wp Tryz.func157 (by kernel_rfl) rfl Tryz.ntmps157 (le_ rfl) (fun w0 M0 => ?_)
  refine WP.seq ?_
  refine WP.region ?_
  refine WL.op (asg (oc _)) (by decide) ?_
  refine WL.nl (.thn ?_)
  refine WP.seq ?_
  refine WP.seq ?_
  refine WP.region ?_
  refine WL.op (mv (ot rfl)) (by decide) ?_
  refine WL.op (notnil pt_p_extree_node (ot rfl)) (by decide) ?_
  refine WL.nl (.thn ?_)
  refine WP.condF rfl ?_
  refine WP.sk (.thn ?_)
  refine WP.seq ?_
  refine WP.region ?_
  refine WL.op (mv (ot rfl)) (by decide) ?_
  refine WL.op (nc (ot rfl)) (by decide) ?_
  refine WL.op (fa fo_node_3 (ot rfl)) (by decide) ?_
  refine WL.op (ld sc_int (ot rfl)) (by decide) ?_
  refine WL.op (asg (ot rfl)) (by decide) ?_
  refine WL.nl (.thn ?_)
  exact WP.rt (.r1 rfl rfl (imp _))
theorem c_n_deep : ∀ {t : Tr}, PureC Tryz.prog 157 [tree t] (I t.depth)
  | .nil => c_n_deep_nil
  | .node l x r => c_n_deep_node l r x
theorem c_n_size_nil : PureC Tryz.prog 176 [tree .nil] (I (Tr.count .nil)) := by
  refine PureC.of_wp Tryz.func176 (by kernel_rfl) rfl Tryz.ntmps176 (le_ rfl) (fun w0 M0 => ?_)
  refine WP.seq ?_
  refine WP.region ?_
  refine WL.op (asg (oc _)) (by decide) ?_
  refine WL.nl (.thn ?_)
  refine WP.seq ?_
  refine WP.seq ?_
  refine WP.region ?_
  refine WL.op (mv (ot rfl)) (by decide) ?_
  refine WL.op (isnil pt_p_extree_node (ot rfl)) (by decide) ?_
  refine WL.nl (.thn ?_)
  refine WP.condT rfl ?_
  refine WP.seq ?_
  refine WP.region ?_
  refine WL.op (asg (oc _)) (by decide) ?_
  refine WL.nl (.thn ?_)
  exact WP.rt (.rthn (.r1 rfl rfl (imp _)))
theorem c_n_size_node (l r : Tr) (x : X) : PureC Tryz.prog 176 [tree (.node l x r)] (I (Tr.count (.node l x r))) := by
  refine PureC.of_wp Tryz.func176 (by kernel_rfl) rfl Tryz.ntmps176 (le_ rfl) (fun w0 M0 => ?_)
  refine WP.seq ?_
  refine WP.region ?_
  refine WL.op (asg (oc _)) (by decide) ?_
  refine WL.nl (.thn ?_)
  refine WP.seq ?_
  refine WP.seq ?_
  refine WP.region ?_
  refine WL.op (mv (ot rfl)) (by decide) ?_
  refine WL.op (notnil pt_p_extree_node (ot rfl)) (by decide) ?_
  refine WL.nl (.thn ?_)
  refine WP.condF rfl ?_
  refine WP.sk (.thn ?_)
  refine WP.seq ?_
  refine WP.region ?_
  refine WL.op (mv (ot rfl)) (by decide) ?_
  refine WL.op (nc (ot rfl)) (by decide) ?_
  refine WL.op (fa fo_node_4 (ot rfl)) (by decide) ?_
  refine WL.op (ld sc_int (ot rfl)) (by decide) ?_
  refine WL.op (asg (ot rfl)) (by decide) ?_
  refine WL.nl (.thn ?_)
  exact WP.rt (.r1 rfl rfl (imp _))
theorem c_n_size : ∀ {t : Tr}, PureC Tryz.prog 176 [tree t] (I t.count)
  | .nil => c_n_size_nil
  | .node l x r => c_n_size_node l r x
theorem c_n_mapped_nil : PureC Tryz.prog 103 [tree .nil] (I (Tr.blocks .nil)) := by
  refine PureC.of_wp Tryz.func103 (by kernel_rfl) rfl Tryz.ntmps103 (le_ rfl) (fun w0 M0 => ?_)
  refine WP.seq ?_
  refine WP.region ?_
  refine WL.op (asg (oc _)) (by decide) ?_
  refine WL.nl (.thn ?_)
  refine WP.seq ?_
  refine WP.seq ?_
  refine WP.region ?_
  refine WL.op (mv (ot rfl)) (by decide) ?_
  refine WL.op (isnil pt_p_extree_node (ot rfl)) (by decide) ?_
  refine WL.nl (.thn ?_)
  refine WP.condT rfl ?_
  refine WP.seq ?_
  refine WP.region ?_
  refine WL.op (asg (oc _)) (by decide) ?_
  refine WL.nl (.thn ?_)
  exact WP.rt (.rthn (.r1 rfl rfl (imp _)))
theorem c_n_mapped_node (l r : Tr) (x : X) : PureC Tryz.prog 103 [tree (.node l x r)] (I (Tr.blocks (.node l x r))) := by
  refine PureC.of_wp Tryz.func103 (by kernel_rfl) rfl Tryz.ntmps103 (le_ rfl) (fun w0 M0 => ?_)
  refine WP.seq ?_
  refine WP.region ?_
  refine WL.op (asg (oc _)) (by decide) ?_
  refine WL.nl (.thn ?_)
  refine WP.seq ?_
  refine WP.seq ?_
  refine WP.region ?_
  refine WL.op (mv (ot rfl)) (by decide) ?_
  refine WL.op (notnil pt_p_extree_node (ot rfl)) (by decide) ?_
  refine WL.nl (.thn ?_)
  refine WP.condF rfl ?_
  refine WP.sk (.thn ?_)
  refine WP.seq ?_
  refine WP.region ?_
  refine WL.op (mv (ot rfl)) (by decide) ?_
  refine WL.op (nc (ot rfl)) (by decide) ?_
  refine WL.op (fa fo_node_5 (ot rfl)) (by decide) ?_
  refine WL.op (ld sc_int (ot rfl)) (by decide) ?_
  refine WL.op (asg (ot rfl)) (by decide) ?_
  refine WL.nl (.thn ?_)
  exact WP.rt (.r1 rfl rfl (imp _))
theorem c_n_mapped : ∀ {t : Tr}, PureC Tryz.prog 103 [tree t] (I t.blocks)
  | .nil => c_n_mapped_nil
  | .node l x r => c_n_mapped_node l r x
theorem c_x_build {l r : Tr} {a n s : Int} (h : Sz l ∧ Sz r ∧ 0 ≤ n ∧ n ≤ 1000000) : PureC Tryz.prog 159 [tree l, agg [I a, I n, I s], tree r] (tree (.node l ⟨a, n, s⟩ r)) := by
  unfold Sz at h
  refine PureC.of_wp Tryz.func159 (by kernel_rfl) rfl Tryz.ntmps159 (le_ rfl) (fun w0 M0 => ?_)
  refine WP.seq ?_
  refine WP.region ?_
  refine WL.box (ot rfl) (.agg _) (by decide) fun b4 => ?_
  refine WL.op (asg (oc _)) (by decide) ?_
  refine WL.nl (.thn ?_)
  refine WP.seq ?_
  refine WP.draws ?_
  refine RG.op (lbs 0 rfl ag_Extent (ot rfl) (le_ rfl)) ?_
  refine RG.op (mv (ot rfl)) ?_
  refine RG.op (mv (ot rfl)) ?_
  refine RG.op (mv (ot rfl)) ?_
  refine RG.op (call c_n_deep (.c (ot rfl) .n)) ?_
  refine RG.op (mv (ot rfl)) ?_
  refine RG.op (call c_n_deep (.c (ot rfl) .n)) ?_
  refine RG.op (mx_ (ot rfl) (ot rfl)) ?_
  refine RG.op (add (oc _) (ot rfl) (by omega)) ?_
  refine RG.op (mv (ot rfl)) ?_
  refine RG.op (call c_n_size (.c (ot rfl) .n)) ?_
  refine RG.op (add (oc _) (ot rfl) (by omega)) ?_
  refine RG.op (mv (ot rfl)) ?_
  refine RG.op (call c_n_size (.c (ot rfl) .n)) ?_
  refine RG.op (add (ot rfl) (ot rfl) (by omega)) ?_
  refine RG.op (fv fo_Extent_1 (ot rfl)) ?_
  refine RG.op (lb 0 rfl sc_int (ot rfl) rfl) ?_
  refine RG.op (mv (ot rfl)) ?_
  refine RG.op (call c_n_mapped (.c (ot rfl) .n)) ?_
  refine RG.op (add (ot rfl) (ot rfl) (by omega)) ?_
  refine RG.op (mv (ot rfl)) ?_
  refine RG.op (call c_n_mapped (.c (ot rfl) .n)) ?_
  refine RG.op (add (ot rfl) (ot rfl) (by omega)) ?_
  refine RG.op (bld zr_node rfl ps_node (.c (ot rfl) (.agg _) pl_node_0 rfl (le_ rfl) (.c (ot rfl) (.leaf (leaf_tree _)) pl_node_1 rfl (le_ rfl) (.c (ot rfl) (.leaf (leaf_tree _)) pl_node_2 rfl (le_ rfl) (.c (ot rfl) (.leaf (.val rfl)) pl_node_3 rfl (le_ rfl) (.c (ot rfl) (.leaf (.val rfl)) pl_node_4 rfl (le_ rfl) (.c (ot rfl) (.leaf (.val rfl)) pl_node_5 rfl (le_ rfl) .n))))))) ?_
  refine RG.op (boxi (ot rfl) (.agg _)) ?_
  refine RG.op (asg (ot rfl)) ?_
  refine RG.fin HM (by kernel_rfl) ?_
  show WL _ _ _ _ _ _ _ _ _
  refine WL.nl (.thn ?_)
  exact WP.rt (.r1 rfl rfl (imp_eq rfl))
theorem c_x_balance {l r : Tr} {a n s : Int} (h : Bd (l.list ++ ⟨a, n, s⟩ :: r.list)) : PureC Tryz.prog 158 [tree l, agg [I a, I n, I s], tree r] (tree (bal l ⟨a, n, s⟩ r)) := by
  obtain ⟨hl, hx, hr⟩ := h.mid
  have hx : 0 ≤ n ∧ n ≤ 65536 := hx
  have kl := hl.tr
  have kr := hr.tr
  refine PureC.of_wp Tryz.func158 (by kernel_rfl) rfl Tryz.ntmps158 (le_ rfl) (fun w0 M0 => ?_)
  refine WP.seq ?_
  refine WP.region ?_
  refine WL.box (ot rfl) (.agg _) (by decide) fun b4 => ?_
  refine WL.op (asg (oc _)) (by decide) ?_
  refine WL.nl (.thn ?_)
  refine WP.seq ?_
  refine WP.block ?_
  refine WP.seq ?_
  refine WP.region ?_
  refine WL.op (mv (ot rfl)) (by decide) ?_
  refine WL.op (call c_n_deep (.c (ot rfl) .n)) (by decide) ?_
  refine WL.op (mv (ot rfl)) (by decide) ?_
  refine WL.op (call c_n_deep (.c (ot rfl) .n)) (by decide) ?_
  refine WL.op (add (ot rfl) (oc _) (by omega)) (by decide) ?_
  refine WL.op (gtr (ot rfl) (ot rfl)) (by decide) ?_
  refine WL.op (asg (ot rfl)) (by decide) ?_
  refine WL.nl (.thn ?_)
  refine WP.cond rfl (fun hc => ?_) (fun hc => ?_)
  · skip
    have h1 := of_decide_eq_true hc
    obtain ⟨ll, lx, lr, rfl⟩ := depth_pos_iff l (by omega)
    obtain ⟨hll, hlx, hlr⟩ := hl.node
    have kll := hll.tr
    have klr := hlr.tr
    refine WP.seq ?_
    refine WP.seq ?_
    refine WP.draws ?_
    refine RG.op (mv (ot rfl)) ?_
    refine RG.op (nc (ot rfl)) ?_
    refine RG.op (fa fo_node_1 (ot rfl)) ?_
    refine RG.op (ld sc_p_extree_node (ot rfl)) ?_
    refine RG.op (call c_n_deep (.c (ot rfl) .n)) ?_
    refine RG.op (mv (ot rfl)) ?_
    refine RG.op (nc (ot rfl)) ?_
    refine RG.op (fa fo_node_2 (ot rfl)) ?_
    refine RG.op (ld sc_p_extree_node (ot rfl)) ?_
    refine RG.op (call c_n_deep (.c (ot rfl) .n)) ?_
    refine RG.op (geq (ot rfl) (ot rfl)) ?_
    refine RG.fin HM (by kernel_rfl) ?_
    show WL _ _ _ _ _ _ _ _ _
    refine WL.nl (.thn ?_)
    refine WP.cond rfl (fun hc => ?_) (fun hc => ?_)
    · skip
      have h2 := of_decide_eq_true hc
      refine WP.seq ?_
      refine WP.draws ?_
      refine RG.op (mv (ot rfl)) ?_
      refine RG.op (nc (ot rfl)) ?_
      refine RG.op (fa fo_node_1 (ot rfl)) ?_
      refine RG.op (ld sc_p_extree_node (ot rfl)) ?_
      refine RG.op (mv (ot rfl)) ?_
      refine RG.op (nc (ot rfl)) ?_
      refine RG.op (fa fo_node_0 (ot rfl)) ?_
      refine RG.op (ls ag_Extent (ot rfl) (le_ rfl)) ?_
      refine RG.op (mv (ot rfl)) ?_
      refine RG.op (nc (ot rfl)) ?_
      refine RG.op (fa fo_node_2 (ot rfl)) ?_
      refine RG.op (ld sc_p_extree_node (ot rfl)) ?_
      refine RG.op (lbs 0 rfl ag_Extent (ot rfl) (le_ rfl)) ?_
      refine RG.op (mv (ot rfl)) ?_
      refine RG.op (call (c_x_build (by simp only [Sz, Tr.depth, Tr.count, Tr.blocks]; omega)) (.c (ot rfl) (.c (ot rfl) (.c (ot rfl) .n)))) ?_
      refine RG.op (call (c_x_build (by simp only [Sz, Tr.depth, Tr.count, Tr.blocks]; omega)) (.c (ot rfl) (.c (ot rfl) (.c (ot rfl) .n)))) ?_
      refine RG.op (asg (ot rfl)) ?_
      refine RG.fin HM (by kernel_rfl) ?_
      show WL _ _ _ _ _ _ _ _ _
      refine WL.nl (.thn ?_)
      exact WP.rt (.rthn (.rblk (.rthn (.r1 rfl rfl (imp_eq (congrArg tree (by simp only [bal]; rw [if_pos h1, if_pos h2])))))))
    · skip
      have h2 := of_decide_eq_false hc
      obtain ⟨ml, mx, mr, rfl⟩ := depth_pos_iff lr (by omega)
      obtain ⟨hml, hmx, hmr⟩ := hlr.node
      have kml := hml.tr
      have kmr := hmr.tr
      refine WP.sk (.thn ?_)
      refine WP.seq ?_
      refine WP.region ?_
      refine WL.op (mv (ot rfl)) (by decide) ?_
      refine WL.op (nc (ot rfl)) (by decide) ?_
      refine WL.op (fa fo_node_2 (ot rfl)) (by decide) ?_
      refine WL.op (ld sc_p_extree_node (ot rfl)) (by decide) ?_
      refine WL.op (asg (ot rfl)) (by decide) ?_
      refine WL.nl (.thn ?_)
      refine WP.seq ?_
      refine WP.draws ?_
      refine RG.op (mv (ot rfl)) ?_
      refine RG.op (nc (ot rfl)) ?_
      refine RG.op (fa fo_node_1 (ot rfl)) ?_
      refine RG.op (ld sc_p_extree_node (ot rfl)) ?_
      refine RG.op (mv (ot rfl)) ?_
      refine RG.op (nc (ot rfl)) ?_
      refine RG.op (fa fo_node_0 (ot rfl)) ?_
      refine RG.op (ls ag_Extent (ot rfl) (le_ rfl)) ?_
      refine RG.op (mv (ot rfl)) ?_
      refine RG.op (nc (ot rfl)) ?_
      refine RG.op (fa fo_node_1 (ot rfl)) ?_
      refine RG.op (ld sc_p_extree_node (ot rfl)) ?_
      refine RG.op (call (c_x_build (by simp only [Sz, Tr.depth, Tr.count, Tr.blocks]; omega)) (.c (ot rfl) (.c (ot rfl) (.c (ot rfl) .n)))) ?_
      refine RG.op (mv (ot rfl)) ?_
      refine RG.op (nc (ot rfl)) ?_
      refine RG.op (fa fo_node_0 (ot rfl)) ?_
      refine RG.op (ls ag_Extent (ot rfl) (le_ rfl)) ?_
      refine RG.op (mv (ot rfl)) ?_
      refine RG.op (nc (ot rfl)) ?_
      refine RG.op (fa fo_node_2 (ot rfl)) ?_
      refine RG.op (ld sc_p_extree_node (ot rfl)) ?_
      refine RG.op (lbs 0 rfl ag_Extent (ot rfl) (le_ rfl)) ?_
      refine RG.op (mv (ot rfl)) ?_
      refine RG.op (call (c_x_build (by simp only [Sz, Tr.depth, Tr.count, Tr.blocks]; omega)) (.c (ot rfl) (.c (ot rfl) (.c (ot rfl) .n)))) ?_
      refine RG.op (call (c_x_build (by simp only [Sz, Tr.depth, Tr.count, Tr.blocks]; omega)) (.c (ot rfl) (.c (ot rfl) (.c (ot rfl) .n)))) ?_
      refine RG.op (asg (ot rfl)) ?_
      refine RG.fin HM (by kernel_rfl) ?_
      show WL _ _ _ _ _ _ _ _ _
      refine WL.nl (.thn ?_)
      exact WP.rt (.rblk (.rthn (.r1 rfl rfl (imp_eq (congrArg tree (by simp only [bal]; rw [if_pos h1, if_neg (by omega)]))))))
  · skip
    have h0 := of_decide_eq_false hc
    refine WP.seq ?_
    refine WP.region ?_
    refine WL.op (mv (ot rfl)) (by decide) ?_
    refine WL.op (call c_n_deep (.c (ot rfl) .n)) (by decide) ?_
    refine WL.op (mv (ot rfl)) (by decide) ?_
    refine WL.op (call c_n_deep (.c (ot rfl) .n)) (by decide) ?_
    refine WL.op (add (ot rfl) (oc _) (by omega)) (by decide) ?_
    refine WL.op (gtr (ot rfl) (ot rfl)) (by decide) ?_
    refine WL.op (asg (ot rfl)) (by decide) ?_
    refine WL.nl (.thn ?_)
    refine WP.cond rfl (fun hc => ?_) (fun hc => ?_)
    · skip
      have h1 := of_decide_eq_true hc
      obtain ⟨rl, rx, rr, rfl⟩ := depth_pos_iff r (by omega)
      obtain ⟨hrl, hrx, hrr⟩ := hr.node
      have krl := hrl.tr
      have krr := hrr.tr
      refine WP.seq ?_
      refine WP.seq ?_
      refine WP.draws ?_
      refine RG.op (mv (ot rfl)) ?_
      refine RG.op (nc (ot rfl)) ?_
      refine RG.op (fa fo_node_2 (ot rfl)) ?_
      refine RG.op (ld sc_p_extree_node (ot rfl)) ?_
      refine RG.op (call c_n_deep (.c (ot rfl) .n)) ?_
      refine RG.op (mv (ot rfl)) ?_
      refine RG.op (nc (ot rfl)) ?_
      refine RG.op (fa fo_node_1 (ot rfl)) ?_
      refine RG.op (ld sc_p_extree_node (ot rfl)) ?_
      refine RG.op (call c_n_deep (.c (ot rfl) .n)) ?_
      refine RG.op (geq (ot rfl) (ot rfl)) ?_
      refine RG.fin HM (by kernel_rfl) ?_
      show WL _ _ _ _ _ _ _ _ _
      refine WL.nl (.thn ?_)
      refine WP.cond rfl (fun hc => ?_) (fun hc => ?_)
      · skip
        have h2 := of_decide_eq_true hc
        refine WP.seq ?_
        refine WP.draws ?_
        refine RG.op (mv (ot rfl)) ?_
        refine RG.op (lbs 0 rfl ag_Extent (ot rfl) (le_ rfl)) ?_
        refine RG.op (mv (ot rfl)) ?_
        refine RG.op (nc (ot rfl)) ?_
        refine RG.op (fa fo_node_1 (ot rfl)) ?_
        refine RG.op (ld sc_p_extree_node (ot rfl)) ?_
        refine RG.op (call (c_x_build (by simp only [Sz, Tr.depth, Tr.count, Tr.blocks]; omega)) (.c (ot rfl) (.c (ot rfl) (.c (ot rfl) .n)))) ?_
        refine RG.op (mv (ot rfl)) ?_
        refine RG.op (nc (ot rfl)) ?_
        refine RG.op (fa fo_node_0 (ot rfl)) ?_
        refine RG.op (ls ag_Extent (ot rfl) (le_ rfl)) ?_
        refine RG.op (mv (ot rfl)) ?_
        refine RG.op (nc (ot rfl)) ?_
        refine RG.op (fa fo_node_2 (ot rfl)) ?_
        refine RG.op (ld sc_p_extree_node (ot rfl)) ?_
        refine RG.op (call (c_x_build (by simp only [Sz, Tr.depth, Tr.count, Tr.blocks]; omega)) (.c (ot rfl) (.c (ot rfl) (.c (ot rfl) .n)))) ?_
        refine RG.op (asg (ot rfl)) ?_
        refine RG.fin HM (by kernel_rfl) ?_
        show WL _ _ _ _ _ _ _ _ _
        refine WL.nl (.thn ?_)
        exact WP.rt (.rthn (.rblk (.rthn (.r1 rfl rfl (imp_eq (congrArg tree (by simp only [bal]; rw [if_neg (by omega), if_pos h1, if_pos h2])))))))
      · skip
        have h2 := of_decide_eq_false hc
        obtain ⟨ml, mx, mr, rfl⟩ := depth_pos_iff rl (by omega)
        obtain ⟨hml, hmx, hmr⟩ := hrl.node
        have kml := hml.tr
        have kmr := hmr.tr
        refine WP.sk (.thn ?_)
        refine WP.seq ?_
        refine WP.region ?_
        refine WL.op (mv (ot rfl)) (by decide) ?_
        refine WL.op (nc (ot rfl)) (by decide) ?_
        refine WL.op (fa fo_node_1 (ot rfl)) (by decide) ?_
        refine WL.op (ld sc_p_extree_node (ot rfl)) (by decide) ?_
        refine WL.op (asg (ot rfl)) (by decide) ?_
        refine WL.nl (.thn ?_)
        refine WP.seq ?_
        refine WP.draws ?_
        refine RG.op (mv (ot rfl)) ?_
        refine RG.op (lbs 0 rfl ag_Extent (ot rfl) (le_ rfl)) ?_
        refine RG.op (mv (ot rfl)) ?_
        refine RG.op (nc (ot rfl)) ?_
        refine RG.op (fa fo_node_1 (ot rfl)) ?_
        refine RG.op (ld sc_p_extree_node (ot rfl)) ?_
        refine RG.op (call (c_x_build (by simp only [Sz, Tr.depth, Tr.count, Tr.blocks]; omega)) (.c (ot rfl) (.c (ot rfl) (.c (ot rfl) .n)))) ?_
        refine RG.op (mv (ot rfl)) ?_
        refine RG.op (nc (ot rfl)) ?_
        refine RG.op (fa fo_node_0 (ot rfl)) ?_
        refine RG.op (ls ag_Extent (ot rfl) (le_ rfl)) ?_
        refine RG.op (mv (ot rfl)) ?_
        refine RG.op (nc (ot rfl)) ?_
        refine RG.op (fa fo_node_2 (ot rfl)) ?_
        refine RG.op (ld sc_p_extree_node (ot rfl)) ?_
        refine RG.op (mv (ot rfl)) ?_
        refine RG.op (nc (ot rfl)) ?_
        refine RG.op (fa fo_node_0 (ot rfl)) ?_
        refine RG.op (ls ag_Extent (ot rfl) (le_ rfl)) ?_
        refine RG.op (mv (ot rfl)) ?_
        refine RG.op (nc (ot rfl)) ?_
        refine RG.op (fa fo_node_2 (ot rfl)) ?_
        refine RG.op (ld sc_p_extree_node (ot rfl)) ?_
        refine RG.op (call (c_x_build (by simp only [Sz, Tr.depth, Tr.count, Tr.blocks]; omega)) (.c (ot rfl) (.c (ot rfl) (.c (ot rfl) .n)))) ?_
        refine RG.op (call (c_x_build (by simp only [Sz, Tr.depth, Tr.count, Tr.blocks]; omega)) (.c (ot rfl) (.c (ot rfl) (.c (ot rfl) .n)))) ?_
        refine RG.op (asg (ot rfl)) ?_
        refine RG.fin HM (by kernel_rfl) ?_
        show WL _ _ _ _ _ _ _ _ _
        refine WL.nl (.thn ?_)
        exact WP.rt (.rblk (.rthn (.r1 rfl rfl (imp_eq (congrArg tree (by simp only [bal]; rw [if_neg (by omega), if_pos h1, if_neg (by omega)]))))))
    · skip
      have h00 := of_decide_eq_false hc
      refine WP.sk (.blk (.thn ?_))
      refine WP.seq ?_
      refine WP.region ?_
      refine WL.op (mv (ot rfl)) (by decide) ?_
      refine WL.op (lbs 0 rfl ag_Extent (ot rfl) (le_ rfl)) (by decide) ?_
      refine WL.op (mv (ot rfl)) (by decide) ?_
      refine WL.op (call (c_x_build (by simp only [Sz, Tr.depth, Tr.count, Tr.blocks]; omega)) (.c (ot rfl) (.c (ot rfl) (.c (ot rfl) .n)))) (by decide) ?_
      refine WL.op (asg (ot rfl)) (by decide) ?_
      refine WL.nl (.thn ?_)
      exact WP.rt (.r1 rfl rfl (imp_eq (congrArg tree (by simp only [bal]; rw [if_neg (by omega), if_neg (by omega)]))))
theorem c_x_join_0 {a n s : Int} (h : Bd (Tr.nil.list ++ ⟨a, n, s⟩ :: Tr.nil.list)) : PureC Tryz.prog 130 [tree .nil, agg [I a, I n, I s], tree .nil] (tree (join .nil ⟨a, n, s⟩ .nil)) := by
  have hx : 0 ≤ n ∧ n ≤ 65536 := h.mid.2.1
  refine PureC.of_wp Tryz.func130 (by kernel_rfl) rfl Tryz.ntmps130 (le_ rfl) (fun w0 M0 => ?_)
  refine WP.seq ?_
  refine WP.region ?_
  refine WL.box (ot rfl) (.agg _) (by decide) fun b4 => ?_
  refine WL.op (asg (oc _)) (by decide) ?_
  refine WL.nl (.thn ?_)
  refine WP.seq ?_
  refine WP.block ?_
  refine WP.seq ?_
  refine WP.region ?_
  refine WL.op (mv (ot rfl)) (by decide) ?_
  refine WL.op (call (c_n_deep (t := .nil)) (.c (ot rfl) .n)) (by decide) ?_
  refine WL.op (mv (ot rfl)) (by decide) ?_
  refine WL.op (call (c_n_deep (t := .nil)) (.c (ot rfl) .n)) (by decide) ?_
  refine WL.op (add (ot rfl) (oc _) (by simp only [Tr.depth]; omega)) (by decide) ?_
  refine WL.op (gtr (ot rfl) (ot rfl)) (by decide) ?_
  refine WL.op (asg (ot rfl)) (by decide) ?_
  refine WL.nl (.thn ?_)
  refine WP.cond rfl (fun hc => ?_) (fun hc => ?_)
  · skip
    exact absurd (of_decide_eq_true hc) (by simp [Tr.depth])
  · skip
    refine WP.seq ?_
    refine WP.region ?_
    refine WL.op (mv (ot rfl)) (by decide) ?_
    refine WL.op (call (c_n_deep (t := .nil)) (.c (ot rfl) .n)) (by decide) ?_
    refine WL.op (mv (ot rfl)) (by decide) ?_
    refine WL.op (call (c_n_deep (t := .nil)) (.c (ot rfl) .n)) (by decide) ?_
    refine WL.op (add (ot rfl) (oc _) (by simp only [Tr.depth]; omega)) (by decide) ?_
    refine WL.op (gtr (ot rfl) (ot rfl)) (by decide) ?_
    refine WL.op (asg (ot rfl)) (by decide) ?_
    refine WL.nl (.thn ?_)
    refine WP.cond rfl (fun hc => ?_) (fun hc => ?_)
    · skip
      exact absurd (of_decide_eq_true hc) (by simp [Tr.depth])
    · skip
      refine WP.sk (.blk (.thn ?_))
      refine WP.seq ?_
      refine WP.region ?_
      refine WL.op (mv (ot rfl)) (by decide) ?_
      refine WL.op (lbs 0 rfl ag_Extent (ot rfl) (le_ rfl)) (by decide) ?_
      refine WL.op (mv (ot rfl)) (by decide) ?_
      refine WL.op (call (c_x_build (by simp only [Sz, Tr.depth, Tr.count, Tr.blocks]; omega)) (.c (ot rfl) (.c (ot rfl) (.c (ot rfl) .n)))) (by decide) ?_
      refine WL.op (asg (ot rfl)) (by decide) ?_
      refine WL.nl (.thn ?_)
      exact WP.rt (.r1 rfl rfl (imp_eq (congrArg tree (join_n (by simp [Tr.depth]) (by simp [Tr.depth])).symm)))
theorem c_x_join_k (k : Nat) : ∀ (l r : Tr) (a n s : Int), l.size + r.size ≤ k → l.Bal → r.Bal → Bd (l.list ++ ⟨a, n, s⟩ :: r.list) → PureC Tryz.prog 130 [tree l, agg [I a, I n, I s], tree r] (tree (join l ⟨a, n, s⟩ r)) := by
  induction k with
  | zero =>
    intro l r a n s hk bl br h
    cases l with
    | node => simp [Tr.size] at hk
    | nil => cases r with
      | node => simp [Tr.size] at hk
      | nil => exact c_x_join_0 h
  | succ k ih =>
  intro l r a n s hk bl br h
  obtain ⟨hl, hx, hr⟩ := h.mid
  have hx : 0 ≤ n ∧ n ≤ 65536 := hx
  have kl := hl.tr
  have kr := hr.tr
  refine PureC.of_wp Tryz.func130 (by kernel_rfl) rfl Tryz.ntmps130 (le_ rfl) (fun w0 M0 => ?_)
  refine WP.seq ?_
  refine WP.region ?_
  refine WL.box (ot rfl) (.agg _) (by decide) fun b4 => ?_
  refine WL.op (asg (oc _)) (by decide) ?_
  refine WL.nl (.thn ?_)
  refine WP.seq ?_
  refine WP.block ?_
  refine WP.seq ?_
  refine WP.region ?_
  refine WL.op (mv (ot rfl)) (by decide) ?_
  refine WL.op (call c_n_deep (.c (ot rfl) .n)) (by decide) ?_
  refine WL.op (mv (ot rfl)) (by decide) ?_
  refine WL.op (call c_n_deep (.c (ot rfl) .n)) (by decide) ?_
  refine WL.op (add (ot rfl) (oc _) (by omega)) (by decide) ?_
  refine WL.op (gtr (ot rfl) (ot rfl)) (by decide) ?_
  refine WL.op (asg (ot rfl)) (by decide) ?_
  refine WL.nl (.thn ?_)
  refine WP.cond rfl (fun hc => ?_) (fun hc => ?_)
  · skip
    have h1' := of_decide_eq_true hc
    obtain ⟨ll, lx, lr, rfl⟩ := depth_pos_iff l (by omega)
    have h2 : Bd (ll.list ++ lx :: (lr.list ++ ⟨a, n, s⟩ :: r.list)) := by simpa [Tr.list] using h
    have h1 := h2.mid.2.2
    obtain ⟨hll, hlx, hlr⟩ := hl.node
    have kll := hll.tr
    have klr := hlr.tr
    refine WP.seq ?_
    refine WP.draws ?_
    refine RG.op (mv (ot rfl)) ?_
    refine RG.op (nc (ot rfl)) ?_
    refine RG.op (fa fo_node_1 (ot rfl)) ?_
    refine RG.op (ld sc_p_extree_node (ot rfl)) ?_
    refine RG.op (mv (ot rfl)) ?_
    refine RG.op (nc (ot rfl)) ?_
    refine RG.op (fa fo_node_0 (ot rfl)) ?_
    refine RG.op (ls ag_Extent (ot rfl) (le_ rfl)) ?_
    refine RG.op (mv (ot rfl)) ?_
    refine RG.op (nc (ot rfl)) ?_
    refine RG.op (fa fo_node_2 (ot rfl)) ?_
    refine RG.op (ld sc_p_extree_node (ot rfl)) ?_
    refine RG.op (lbs 0 rfl ag_Extent (ot rfl) (le_ rfl)) ?_
    refine RG.op (mv (ot rfl)) ?_
    refine RG.op (call (ih _ _ _ _ _ (by simp only [Tr.size] at hk; omega) bl.2.1 br h1) (.c (ot rfl) (.c (ot rfl) (.c (ot rfl) .n)))) ?_
    refine RG.op (call (c_x_balance (by rw [join_list bl.2.1 br]; exact h2)) (.c (ot rfl) (.c (ot rfl) (.c (ot rfl) .n)))) ?_
    refine RG.op (asg (ot rfl)) ?_
    refine RG.fin HM (by kernel_rfl) ?_
    show WL _ _ _ _ _ _ _ _ _
    refine WL.nl (.thn ?_)
    exact WP.rt (.rblk (.rthn (.r1 rfl rfl (imp_eq (congrArg tree (join_l h1').symm)))))
  · skip
    have h0 := of_decide_eq_false hc
    refine WP.seq ?_
    refine WP.region ?_
    refine WL.op (mv (ot rfl)) (by decide) ?_
    refine WL.op (call c_n_deep (.c (ot rfl) .n)) (by decide) ?_
    refine WL.op (mv (ot rfl)) (by decide) ?_
    refine WL.op (call c_n_deep (.c (ot rfl) .n)) (by decide) ?_
    refine WL.op (add (ot rfl) (oc _) (by omega)) (by decide) ?_
    refine WL.op (gtr (ot rfl) (ot rfl)) (by decide) ?_
    refine WL.op (asg (ot rfl)) (by decide) ?_
    refine WL.nl (.thn ?_)
    refine WP.cond rfl (fun hc => ?_) (fun hc => ?_)
    · skip
      have h1' := of_decide_eq_true hc
      obtain ⟨rl, rx, rr, rfl⟩ := depth_pos_iff r (by omega)
      have h2 : Bd ((l.list ++ ⟨a, n, s⟩ :: rl.list) ++ rx :: rr.list) := by simpa [Tr.list] using h
      have h1 := h2.mid.1
      obtain ⟨hrl, hrx, hrr⟩ := hr.node
      have krl := hrl.tr
      have krr := hrr.tr
      refine WP.seq ?_
      refine WP.draws ?_
      refine RG.op (mv (ot rfl)) ?_
      refine RG.op (lbs 0 rfl ag_Extent (ot rfl) (le_ rfl)) ?_
      refine RG.op (mv (ot rfl)) ?_
      refine RG.op (nc (ot rfl)) ?_
      refine RG.op (fa fo_node_1 (ot rfl)) ?_
      refine RG.op (ld sc_p_extree_node (ot rfl)) ?_
      refine RG.op (call (ih _ _ _ _ _ (by simp only [Tr.size] at hk; omega) bl br.1 h1) (.c (ot rfl) (.c (ot rfl) (.c (ot rfl) .n)))) ?_
      refine RG.op (mv (ot rfl)) ?_
      refine RG.op (nc (ot rfl)) ?_
      refine RG.op (fa fo_node_0 (ot rfl)) ?_
      refine RG.op (ls ag_Extent (ot rfl) (le_ rfl)) ?_
      refine RG.op (mv (ot rfl)) ?_
      refine RG.op (nc (ot rfl)) ?_
      refine RG.op (fa fo_node_2 (ot rfl)) ?_
      refine RG.op (ld sc_p_extree_node (ot rfl)) ?_
      refine RG.op (call (c_x_balance (by rw [join_list bl br.1]; exact h2)) (.c (ot rfl) (.c (ot rfl) (.c (ot rfl) .n)))) ?_
      refine RG.op (asg (ot rfl)) ?_
      refine RG.fin HM (by kernel_rfl) ?_
      show WL _ _ _ _ _ _ _ _ _
      refine WL.nl (.thn ?_)
      exact WP.rt (.rblk (.rthn (.r1 rfl rfl (imp_eq (congrArg tree (join_r (by omega) h1').symm)))))
    · skip
      have h00 := of_decide_eq_false hc
      refine WP.sk (.blk (.thn ?_))
      refine WP.seq ?_
      refine WP.region ?_
      refine WL.op (mv (ot rfl)) (by decide) ?_
      refine WL.op (lbs 0 rfl ag_Extent (ot rfl) (le_ rfl)) (by decide) ?_
      refine WL.op (mv (ot rfl)) (by decide) ?_
      refine WL.op (call (c_x_build (by simp only [Sz, Tr.depth, Tr.count, Tr.blocks]; omega)) (.c (ot rfl) (.c (ot rfl) (.c (ot rfl) .n)))) (by decide) ?_
      refine WL.op (asg (ot rfl)) (by decide) ?_
      refine WL.nl (.thn ?_)
      exact WP.rt (.r1 rfl rfl (imp_eq (congrArg tree (join_n (by omega) (by omega)).symm)))
theorem c_x_join {l r : Tr} {a n s : Int} (bl : l.Bal) (br : r.Bal) (h : Bd (l.list ++ ⟨a, n, s⟩ :: r.list)) : PureC Tryz.prog 130 [tree l, agg [I a, I n, I s], tree r] (tree (join l ⟨a, n, s⟩ r)) := c_x_join_k _ l r a n s (Nat.le_refl _) bl br h
end Go.Proofs.YtjglgfnhgehpeaaGreat

/- Steps of the scripts on trees. -/
set_option linter.unusedVariables false
namespace Go.Proofs.YtjglgfnhgehpeaaGreat
open Go.RowKit Go.Fw Go.Xt
structure Sp where
  c : Bool
  a : Int
  n : Int
  s : Int
deriving Inhabited
def FS (x : Sp) : List Rp := [val (.bool x.c), val (.int .u8 x.a), val (.int .u8 x.n), val (.int .u8 x.s)]
def U8 (x : Sp) : Prop := 0 ≤ x.a ∧ x.a ≤ 255 ∧ 0 ≤ x.n ∧ x.n ≤ 255 ∧ 0 ≤ x.s ∧ x.s ≤ 255
end Go.Proofs.YtjglgfnhgehpeaaGreat

/- First, last, split, list: what the functions of the persistent trees compute. -/
set_option linter.unusedVariables false
set_option linter.unusedSimpArgs false
set_option maxRecDepth 4000
namespace Go.Proofs.YtjglgfnhgehpeaaGreat
open Go.RowKit Go.Fw Go.Xt
theorem c_n_first_0 (r : Tr) (x : X) : PureC Tryz.prog 129 [tree (.node .nil x r)] (tup [ext (first .nil x r).1, tree (first .nil x r).2]) := by
  refine PureC.of_wp Tryz.func129 (by kernel_rfl) rfl Tryz.ntmps129 (le_ rfl) (fun w0 M0 => ?_)
  refine WP.seq ?_
  refine WP.region ?_
  refine WL.alloc zr_Extent rfl (by decide) fun b2 => ?_
  refine WL.op (asg (oc _)) (by decide) ?_
  refine WL.nl (.thn ?_)
  refine WP.seq ?_
  refine WP.seq ?_
  refine WP.region ?_
  refine WL.op (mv (ot rfl)) (by decide) ?_
  refine WL.op (nc (ot rfl)) (by decide) ?_
  refine WL.op (fa fo_node_1 (ot rfl)) (by decide) ?_
  refine WL.op (ld sc_p_extree_node (ot rfl)) (by decide) ?_
  refine WL.op (isnil pt_p_extree_node (ot rfl)) (by decide) ?_
  refine WL.nl (.thn ?_)
  refine WP.condT rfl ?_
  refine WP.seq ?_
  refine WP.drawsH [0] ?_
  refine RG.opE (mv (ot rfl)) ?_
  refine RG.opE (nc (ot rfl)) ?_
  refine RG.opE (fa fo_node_0 (ot rfl)) ?_
  refine RG.opE (ls ag_Extent (ot rfl) (le_ rfl)) ?_
  refine RG.op (mv (ot rfl)) ?_
  refine RG.op (nc (ot rfl)) ?_
  refine RG.op (fa fo_node_2 (ot rfl)) ?_
  refine RG.op (ld sc_p_extree_node (ot rfl)) ?_
  refine RG.sx (OpE.store 0 rfl (ot rfl) (ot rfl) (.agg _) sz_Extent rfl (le_ rfl)) rfl ?_
  refine RG.op (asg (ot rfl)) ?_
  refine RG.fin HM (by kernel_rfl) ?_
  show WL _ _ _ _ _ _ _ _ _
  refine WL.nl (.thn ?_)
  exact WP.rt (.rthn (.rN rfl (.cons (.bx 0 rfl rfl ag_Extent) (.cons (.tm rfl) .nil)) (le_ rfl) (imp_eq rfl)))
theorem c_n_first : ∀ (l : Tr) (x : X) (r : Tr), (Tr.node l x r).Bal → Bd (Tr.node l x r).list → PureC Tryz.prog 129 [tree (.node l x r)] (tup [ext (first l x r).1, tree (first l x r).2]) := by
  intro l
  induction l with
  | nil => intro x r _ _; exact c_n_first_0 r x
  | node ll lx lr ih _ =>
  intro x r hb hB
  obtain ⟨f1, f2⟩ := first_spec ll lx lr hb.1
  have hB' : Bd ((first ll lx lr).2.list ++ x :: r.list) := by
    have h : Bd ((Tr.node ll lx lr).list ++ x :: r.list) := hB
    rw [← f1, List.cons_append] at h
    exact h.tail
  refine PureC.of_wp Tryz.func129 (by kernel_rfl) rfl Tryz.ntmps129 (le_ rfl) (fun w0 M0 => ?_)
  refine WP.seq ?_
  refine WP.region ?_
  refine WL.alloc zr_Extent rfl (by decide) fun b2 => ?_
  refine WL.op (asg (oc _)) (by decide) ?_
  refine WL.nl (.thn ?_)
  refine WP.seq ?_
  refine WP.seq ?_
  refine WP.region ?_
  refine WL.op (mv (ot rfl)) (by decide) ?_
  refine WL.op (nc (ot rfl)) (by decide) ?_
  refine WL.op (fa fo_node_1 (ot rfl)) (by decide) ?_
  refine WL.op (ld sc_p_extree_node (ot rfl)) (by decide) ?_
  refine WL.op (notnil pt_p_extree_node (ot rfl)) (by decide) ?_
  refine WL.nl (.thn ?_)
  refine WP.condF rfl ?_
  refine WP.sk (.thn ?_)
  refine WP.seq ?_
  refine WP.region ?_
  refine WL.op (mv (ot rfl)) (by decide) ?_
  refine WL.op (nc (ot rfl)) (by decide) ?_
  refine WL.op (fa fo_node_1 (ot rfl)) (by decide) ?_
  refine WL.op (ld sc_p_extree_node (ot rfl)) (by decide) ?_
  refine WL.op (call (ih lx lr hb.1 hB.mid.1) (.c (ot rfl) .n)) (by decide) ?_
  refine WL.op (mv (ot rfl)) (by decide) ?_
  refine WL.op (ex (ot rfl) rfl) (by decide) ?_
  refine WL.op (ex (ot rfl) rfl) (by decide) ?_
  refine WL.alloc zr_Extent rfl (by decide) fun b4 => ?_
  refine WL.store 0 rfl (ot rfl) (ot rfl) (.agg _) sz_Extent rfl (le_ rfl) ?_
  refine WL.op (asg (ot rfl)) (by decide) ?_
  refine WL.nl (.thn ?_)
  refine WP.seq ?_
  refine WP.drawsH [1] ?_
  refine RG.opE (lbs 0 rfl ag_Extent (ot rfl) (le_ rfl)) ?_
  refine RG.op (mv (ot rfl)) ?_
  refine RG.op (mv (ot rfl)) ?_
  refine RG.op (nc (ot rfl)) ?_
  refine RG.op (fa fo_node_0 (ot rfl)) ?_
  refine RG.op (ls ag_Extent (ot rfl) (le_ rfl)) ?_
  refine RG.op (mv (ot rfl)) ?_
  refine RG.op (nc (ot rfl)) ?_
  refine RG.op (fa fo_node_2 (ot rfl)) ?_
  refine RG.op (ld sc_p_extree_node (ot rfl)) ?_
  refine RG.opE (call (c_x_join (l := (first ll lx lr).2) f2 hb.2.1 hB') (.c (ot rfl) (.c (ot rfl) (.c (ot rfl) .n)))) ?_
  refine RG.sx (OpE.store 1 rfl (ot rfl) (ot rfl) (.agg _) sz_Extent rfl (le_ rfl)) rfl ?_
  refine RG.op (asg (ot rfl)) ?_
  refine RG.fin HM (by kernel_rfl) ?_
  show WL _ _ _ _ _ _ _ _ _
  refine WL.nl (.thn ?_)
  exact WP.rt (.rN rfl (.cons (.bx 1 rfl rfl ag_Extent) (.cons (.tm rfl) .nil)) (le_ rfl) (imp_eq rfl))
theorem c_n_last_0 (l : Tr) (x : X) : PureC Tryz.prog 127 [tree (.node l x .nil)] (tup [ext (last l x .nil).1, tree (last l x .nil).2]) := by
  refine PureC.of_wp Tryz.func127 (by kernel_rfl) rfl Tryz.ntmps127 (le_ rfl) (fun w0 M0 => ?_)
  refine WP.seq ?_
  refine WP.region ?_
  refine WL.alloc zr_Extent rfl (by decide) fun b2 => ?_
  refine WL.op (asg (oc _)) (by decide) ?_
  refine WL.nl (.thn ?_)
  refine WP.seq ?_
  refine WP.seq ?_
  refine WP.region ?_
  refine WL.op (mv (ot rfl)) (by decide) ?_
  refine WL.op (nc (ot rfl)) (by decide) ?_
  refine WL.op (fa fo_node_2 (ot rfl)) (by decide) ?_
  refine WL.op (ld sc_p_extree_node (ot rfl)) (by decide) ?_
  refine WL.op (isnil pt_p_extree_node (ot rfl)) (by decide) ?_
  refine WL.nl (.thn ?_)
  refine WP.condT rfl ?_
  refine WP.seq ?_
  refine WP.drawsH [0] ?_
  refine RG.opE (mv (ot rfl)) ?_
  refine RG.opE (nc (ot rfl)) ?_
  refine RG.opE (fa fo_node_0 (ot rfl)) ?_
  refine RG.opE (ls ag_Extent (ot rfl) (le_ rfl)) ?_
  refine RG.op (mv (ot rfl)) ?_
  refine RG.op (nc (ot rfl)) ?_
  refine RG.op (fa fo_node_1 (ot rfl)) ?_
  refine RG.op (ld sc_p_extree_node (ot rfl)) ?_
  refine RG.sx (OpE.store 0 rfl (ot rfl) (ot rfl) (.agg _) sz_Extent rfl (le_ rfl)) rfl ?_
  refine RG.op (asg (ot rfl)) ?_
  refine RG.fin HM (by kernel_rfl) ?_
  show WL _ _ _ _ _ _ _ _ _
  refine WL.nl (.thn ?_)
  exact WP.rt (.rthn (.rN rfl (.cons (.bx 0 rfl rfl ag_Extent) (.cons (.tm rfl) .nil)) (le_ rfl) (imp_eq rfl)))
theorem c_n_last : ∀ (r : Tr) (l : Tr) (x : X), (Tr.node l x r).Bal → Bd (Tr.node l x r).list → PureC Tryz.prog 127 [tree (.node l x r)] (tup [ext (last l x r).1, tree (last l x r).2]) := by
  intro r
  induction r with
  | nil => intro l x _ _; exact c_n_last_0 l x
  | node rl rx rr _ ih =>
  intro l x hb hB
  obtain ⟨f1, f2⟩ := last_spec rr rl rx hb.2.1
  have hB' : Bd (l.list ++ x :: (last rl rx rr).2.list) := by
    have h : Bd (l.list ++ x :: (Tr.node rl rx rr).list) := hB
    rw [← f1, ← List.cons_append, ← List.append_assoc] at h
    exact h.left
  refine PureC.of_wp Tryz.func127 (by kernel_rfl) rfl Tryz.ntmps127 (le_ rfl) (fun w0 M0 => ?_)
  refine WP.seq ?_
  refine WP.region ?_
  refine WL.alloc zr_Extent rfl (by decide) fun b2 => ?_
  refine WL.op (asg (oc _)) (by decide) ?_
  refine WL.nl (.thn ?_)
  refine WP.seq ?_
  refine WP.seq ?_
  refine WP.region ?_
  refine WL.op (mv (ot rfl)) (by decide) ?_
  refine WL.op (nc (ot rfl)) (by decide) ?_
  refine WL.op (fa fo_node_2 (ot rfl)) (by decide) ?_
  refine WL.op (ld sc_p_extree_node (ot rfl)) (by decide) ?_
  refine WL.op (notnil pt_p_extree_node (ot rfl)) (by decide) ?_
  refine WL.nl (.thn ?_)
  refine WP.condF rfl ?_
  refine WP.sk (.thn ?_)
  refine WP.seq ?_
  refine WP.region ?_
  refine WL.op (mv (ot rfl)) (by decide) ?_
  refine WL.op (nc (ot rfl)) (by decide) ?_
  refine WL.op (fa fo_node_2 (ot rfl)) (by decide) ?_
  refine WL.op (ld sc_p_extree_node (ot rfl)) (by decide) ?_
  refine WL.op (call (ih rl rx hb.2.1 hB.mid.2.2) (.c (ot rfl) .n)) (by decide) ?_
  refine WL.op (mv (ot rfl)) (by decide) ?_
  refine WL.op (ex (ot rfl) rfl) (by decide) ?_
  refine WL.op (ex (ot rfl) rfl) (by decide) ?_
  refine WL.alloc zr_Extent rfl (by decide) fun b4 => ?_
  refine WL.store 0 rfl (ot rfl) (ot rfl) (.agg _) sz_Extent rfl (le_ rfl) ?_
  refine WL.op (asg (ot rfl)) (by decide) ?_
  refine WL.nl (.thn ?_)
  refine WP.seq ?_
  refine WP.drawsH [1] ?_
  refine RG.opE (lbs 0 rfl ag_Extent (ot rfl) (le_ rfl)) ?_
  refine RG.op (mv (ot rfl)) ?_
  refine RG.op (nc (ot rfl)) ?_
  refine RG.op (fa fo_node_1 (ot rfl)) ?_
  refine RG.op (ld sc_p_extree_node (ot rfl)) ?_
  refine RG.op (mv (ot rfl)) ?_
  refine RG.op (nc (ot rfl)) ?_
  refine RG.op (fa fo_node_0 (ot rfl)) ?_
  refine RG.op (ls ag_Extent (ot rfl) (le_ rfl)) ?_
  refine RG.op (mv (ot rfl)) ?_
  refine RG.opE (call (c_x_join (r := (last rl rx rr).2) hb.1 f2 hB') (.c (ot rfl) (.c (ot rfl) (.c (ot rfl) .n)))) ?_
  refine RG.sx (OpE.store 1 rfl (ot rfl) (ot rfl) (.agg _) sz_Extent rfl (le_ rfl)) rfl ?_
  refine RG.op (asg (ot rfl)) ?_
  refine RG.fin HM (by kernel_rfl) ?_
  show WL _ _ _ _ _ _ _ _ _
  refine WL.nl (.thn ?_)
  exact WP.rt (.rN rfl (.cons (.bx 1 rfl rfl ag_Extent) (.cons (.tm rfl) .nil)) (le_ rfl) (imp_eq rfl))
theorem c_x_concat_0 (l : Tr) : PureC Tryz.prog 133 [tree l, tree .nil] (tree (concat l .nil)) := by
  refine PureC.of_wp Tryz.func133 (by kernel_rfl) rfl Tryz.ntmps133 (le_ rfl) (fun w0 M0 => ?_)
  refine WP.seq ?_
  refine WP.region ?_
  refine WL.op (asg (oc _)) (by decide) ?_
  refine WL.nl (.thn ?_)
  refine WP.seq ?_
  refine WP.seq ?_
  refine WP.region ?_
  refine WL.op (mv (ot rfl)) (by decide) ?_
  refine WL.op (isnil pt_p_extree_node (ot rfl)) (by decide) ?_
  refine WL.nl (.thn ?_)
  refine WP.condT rfl ?_
  refine WP.seq ?_
  refine WP.region ?_
  refine WL.op (mv (ot rfl)) (by decide) ?_
  refine WL.op (asg (ot rfl)) (by decide) ?_
  refine WL.nl (.thn ?_)
  exact WP.rt (.rthn (.r1 rfl rfl (imp_eq rfl)))
theorem c_x_concat : ∀ {l r : Tr}, l.Bal → r.Bal → Bd (l.list ++ r.list) → PureC Tryz.prog 133 [tree l, tree r] (tree (concat l r)) := by
  intro l r bl br hB
  cases r with
  | nil => exact c_x_concat_0 l
  | node rl rx rr =>
  obtain ⟨f1, f2⟩ := first_spec rl rx rr br
  have hB' : Bd (l.list ++ (first rl rx rr).1 :: (first rl rx rr).2.list) := by rw [f1]; exact hB
  refine PureC.of_wp Tryz.func133 (by kernel_rfl) rfl Tryz.ntmps133 (le_ rfl) (fun w0 M0 => ?_)
  refine WP.seq ?_
  refine WP.region ?_
  refine WL.op (asg (oc _)) (by decide) ?_
  refine WL.nl (.thn ?_)
  refine WP.seq ?_
  refine WP.seq ?_
  refine WP.region ?_
  refine WL.op (mv (ot rfl)) (by decide) ?_
  refine WL.op (notnil pt_p_extree_node (ot rfl)) (by decide) ?_
  refine WL.nl (.thn ?_)
  refine WP.condF rfl ?_
  refine WP.sk (.thn ?_)
  refine WP.seq ?_
  refine WP.region ?_
  refine WL.op (mv (ot rfl)) (by decide) ?_
  refine WL.op (call (c_n_first rl rx rr br hB.right) (.c (ot rfl) .n)) (by decide) ?_
  refine WL.op (mv (ot rfl)) (by decide) ?_
  refine WL.op (ex (ot rfl) rfl) (by decide) ?_
  refine WL.op (ex (ot rfl) rfl) (by decide) ?_
  refine WL.alloc zr_Extent rfl (by decide) fun b5 => ?_
  refine WL.store 0 rfl (ot rfl) (ot rfl) (.agg _) sz_Extent rfl (le_ rfl) ?_
  refine WL.op (asg (ot rfl)) (by decide) ?_
  refine WL.nl (.thn ?_)
  refine WP.seq ?_
  refine WP.region ?_
  refine WL.op (mv (ot rfl)) (by decide) ?_
  refine WL.op (lbs 0 rfl ag_Extent (ot rfl) (le_ rfl)) (by decide) ?_
  refine WL.op (mv (ot rfl)) (by decide) ?_
  refine WL.op (call (c_x_join (r := (first rl rx rr).2) bl f2 hB') (.c (ot rfl) (.c (ot rfl) (.c (ot rfl) .n)))) (by decide) ?_
  refine WL.op (asg (ot rfl)) (by decide) ?_
  refine WL.nl (.thn ?_)
  exact WP.rt (.r1 rfl rfl (imp_eq rfl))
theorem c_n_split_0 (at_ : Int) : PureC Tryz.prog 126 [tree .nil, I at_] (tup [tree (split .nil at_).1, tree (split .nil at_).2]) := by
  refine PureC.of_wp Tryz.func126 (by kernel_rfl) rfl Tryz.ntmps126 (le_ rfl) (fun w0 M0 => ?_)
  refine WP.seq ?_
  refine WP.region ?_
  refine WL.op (asg (oc _)) (by decide) ?_
  refine WL.op (asg (oc _)) (by decide) ?_
  refine WL.nl (.thn ?_)
  refine WP.seq ?_
  refine WP.seq ?_
  refine WP.region ?_
  refine WL.op (mv (ot rfl)) (by decide) ?_
  refine WL.op (isnil pt_p_extree_node (ot rfl)) (by decide) ?_
  refine WL.nl (.thn ?_)
  refine WP.condT rfl ?_
  refine WP.seq ?_
  refine WP.region ?_
  refine WL.op (asg (oc _)) (by decide) ?_
  refine WL.op (asg (oc _)) (by decide) ?_
  refine WL.nl (.thn ?_)
  exact WP.rt (.rthn (.rN rfl (.cons (.tm rfl) (.cons (.tm rfl) .nil)) (le_ rfl) (imp_eq rfl)))

theorem Ok.node {lo : Int} {l r : Tr} {x : X} (h : Ok lo (Tr.node l x r).list) : Ok lo l.list ∧ lo ≤ x.a ∧ 1 ≤ x.n ∧ 0 ≤ x.s ∧ x.a + x.n ≤ 65536 ∧ x.s + x.n ≤ 65536 ∧ Ok (x.a + x.n) r.list := by
  have h : Ok lo (l.list ++ x :: r.list) := h
  have h2 := h.append_right
  exact ⟨h.append_left, h2.1, h2.2.1, h2.2.2.1, h2.2.2.2.1, h2.2.2.2.2.1, h2.2.2.2.2.2⟩
theorem split_l {l r : Tr} {x : X} {at_ : Int} (h : at_ ≤ x.a) : split (.node l x r) at_ = ((split l at_).1, join (split l at_).2 x r) := by
  conv => lhs; unfold split
  exact if_pos h
theorem split_r {l r : Tr} {x : X} {at_ : Int} (h0 : ¬ at_ ≤ x.a) (h : x.a + x.n ≤ at_) : split (.node l x r) at_ = (join l x (split r at_).1, (split r at_).2) := by
  conv => lhs; unfold split
  exact (if_neg h0).trans (if_pos h)
theorem split_m {l r : Tr} {x : X} {at_ : Int} (h0 : ¬ at_ ≤ x.a) (h : ¬ x.a + x.n ≤ at_) : split (.node l x r) at_ = (join l (x.head (at_ - x.a)) .nil, join .nil (x.tail at_ (at_ - x.a)) r) := by
  conv => lhs; unfold split
  exact (if_neg h0).trans (if_neg h)

theorem c_n_split : ∀ (t : Tr) (at_ : Int), t.Bal → Ok 0 t.list → PureC Tryz.prog 126 [tree t, I at_] (tup [tree (split t at_).1, tree (split t at_).2]) := by
  intro t
  induction t with
  | nil => intro at_ _ _; exact c_n_split_0 at_
  | node l x r ihl ihr =>
  intro at_ hb ho
  obtain ⟨b1, b2, _, _⟩ := hb
  obtain ⟨oL, x1, x2, x3, x4, x5, oR⟩ := Ok.node ho
  have eL := Ok.ends (A := l.list) (y := x) (B := r.list) ho
  have sL := oL.starts
  have sR := oR.starts
  have hB : Bd (l.list ++ x :: r.list) := ho.bd (Int.le_refl 0)
  refine PureC.of_wp Tryz.func126 (by kernel_rfl) rfl Tryz.ntmps126 (le_ rfl) (fun w0 M0 => ?_)
  refine WP.seq ?_
  refine WP.region ?_
  refine WL.op (asg (oc _)) (by decide) ?_
  refine WL.op (asg (oc _)) (by decide) ?_
  refine WL.nl (.thn ?_)
  refine WP.seq ?_
  refine WP.seq ?_
  refine WP.region ?_
  refine WL.op (mv (ot rfl)) (by decide) ?_
  refine WL.op (notnil pt_p_extree_node (ot rfl)) (by decide) ?_
  refine WL.nl (.thn ?_)
  refine WP.condF rfl ?_
  refine WP.sk (.thn ?_)
  refine WP.seq ?_
  refine WP.seq ?_
  refine WP.region ?_
  refine WL.op (mv (ot rfl)) (by decide) ?_
  refine WL.op (nc (ot rfl)) (by decide) ?_
  refine WL.op (fa fo_node_0 (ot rfl)) (by decide) ?_
  refine WL.op (ls ag_Extent (ot rfl) (le_ rfl)) (by decide) ?_
  refine WL.alloc zr_Extent rfl (by decide) fun b6 => ?_
  refine WL.store 0 rfl (ot rfl) (ot rfl) (.agg _) sz_Extent rfl (le_ rfl) ?_
  refine WL.nl (.thn ?_)
  refine WP.block ?_
  refine WP.seq ?_
  refine WP.region ?_
  refine WL.op (mv (ot rfl)) (by decide) ?_
  refine WL.op (fv fo_Extent_0 (ot rfl)) (by decide) ?_
  refine WL.op (lb 0 rfl sc_int (ot rfl) rfl) (by decide) ?_
  refine WL.op (leq (ot rfl) (ot rfl)) (by decide) ?_
  refine WL.op (asg (ot rfl)) (by decide) ?_
  refine WL.nl (.thn ?_)
  refine WP.cond rfl (fun hc => ?_) (fun hc => ?_)
  · skip
    have h1 : at_ ≤ x.a := of_decide_eq_true hc
    obtain ⟨p1, p2, p3, p4⟩ := split_spec l at_ b1 oL
    have hJ : Bd ((split l at_).2.list ++ x :: r.list) := by
      rw [p2]
      refine (?_ : Ok 0 _).bd (Int.le_refl 0)
      have e : parts l.list at_ 65536 ++ x :: r.list = parts (l.list ++ x :: r.list) at_ 65536 := by
        rw [parts_mid, parts_all (L := [x]) (by simp; omega), parts_all (L := r.list) (fun y hy => by have := sR y hy; omega)]; rfl
      rw [e]; exact ok_parts ho (by omega)
    refine WP.seq ?_
    refine WP.region ?_
    refine WL.op (mv (ot rfl)) (by decide) ?_
    refine WL.op (nc (ot rfl)) (by decide) ?_
    refine WL.op (fa fo_node_1 (ot rfl)) (by decide) ?_
    refine WL.op (ld sc_p_extree_node (ot rfl)) (by decide) ?_
    refine WL.op (mv (ot rfl)) (by decide) ?_
    refine WL.op (call (ihl at_ b1 oL) (.c (ot rfl) (.c (ot rfl) .n))) (by decide) ?_
    refine WL.op (mv (ot rfl)) (by decide) ?_
    refine WL.op (ex (ot rfl) rfl) (by decide) ?_
    refine WL.op (ex (ot rfl) rfl) (by decide) ?_
    refine WL.op (asg (ot rfl)) (by decide) ?_
    refine WL.op (asg (ot rfl)) (by decide) ?_
    refine WL.nl (.thn ?_)
    refine WP.seq ?_
    refine WP.draws ?_
    refine RG.op (mv (ot rfl)) ?_
    refine RG.op (mv (ot rfl)) ?_
    refine RG.op (lbs 0 rfl ag_Extent (ot rfl) (le_ rfl)) ?_
    refine RG.op (mv (ot rfl)) ?_
    refine RG.op (nc (ot rfl)) ?_
    refine RG.op (fa fo_node_2 (ot rfl)) ?_
    refine RG.op (ld sc_p_extree_node (ot rfl)) ?_
    refine RG.op (call (c_x_join (l := (split l at_).2) (r := r) p4 b2 hJ) (.c (ot rfl) (.c (ot rfl) (.c (ot rfl) .n)))) ?_
    refine RG.op (asg (ot rfl)) ?_
    refine RG.op (asg (ot rfl)) ?_
    refine RG.fin HM (by kernel_rfl) ?_
    show WL _ _ _ _ _ _ _ _ _
    refine WL.nl (.thn ?_)
    exact WP.rt (.rblk (.rthn (.rN rfl (.cons (.tm rfl) (.cons (.tm rfl) .nil)) (le_ rfl) (imp_eq (by rw [split_l h1])))))
  · skip
    have h0 : ¬ at_ ≤ x.a := of_decide_eq_false hc
    refine WP.seq ?_
    refine WP.region ?_
    refine WL.op (mv (ot rfl)) (by decide) ?_
    refine WL.op (fv fo_Extent_0 (ot rfl)) (by decide) ?_
    refine WL.op (lb 0 rfl sc_int (ot rfl) rfl) (by decide) ?_
    refine WL.op (fv fo_Extent_1 (ot rfl)) (by decide) ?_
    refine WL.op (lb 0 rfl sc_int (ot rfl) rfl) (by decide) ?_
    refine WL.op (add (ot rfl) (ot rfl) (by omega)) (by decide) ?_
    refine WL.op (geq (ot rfl) (ot rfl)) (by decide) ?_
    refine WL.op (asg (ot rfl)) (by decide) ?_
    refine WL.nl (.thn ?_)
    refine WP.cond rfl (fun hc => ?_) (fun hc => ?_)
    · skip
      have h2 : x.a + x.n ≤ at_ := of_decide_eq_true hc
      obtain ⟨p1, p2, p3, p4⟩ := split_spec r at_ b2 (oR.lower (by omega))
      have hJ : Bd (l.list ++ x :: (split r at_).1.list) := by
        rw [p1]
        refine (?_ : Ok 0 _).bd (Int.le_refl 0)
        have e : l.list ++ x :: parts r.list 0 at_ = parts (l.list ++ x :: r.list) 0 at_ := by
          rw [parts_mid, parts_all (L := l.list) (fun y hy => by have := sL y hy; have := eL y hy; omega), parts_all (L := [x]) (by simp; omega)]; rfl
        rw [e]; exact ok_parts ho (by omega)
      refine WP.seq ?_
      refine WP.region ?_
      refine WL.op (mv (ot rfl)) (by decide) ?_
      refine WL.op (nc (ot rfl)) (by decide) ?_
      refine WL.op (fa fo_node_2 (ot rfl)) (by decide) ?_
      refine WL.op (ld sc_p_extree_node (ot rfl)) (by decide) ?_
      refine WL.op (mv (ot rfl)) (by decide) ?_
      refine WL.op (call (ihr at_ b2 (oR.lower (by omega))) (.c (ot rfl) (.c (ot rfl) .n))) (by decide) ?_
      refine WL.op (mv (ot rfl)) (by decide) ?_
      refine WL.op (ex (ot rfl) rfl) (by decide) ?_
      refine WL.op (ex (ot rfl) rfl) (by decide) ?_
      refine WL.op (asg (ot rfl)) (by decide) ?_
      refine WL.op (asg (ot rfl)) (by decide) ?_
      refine WL.nl (.thn ?_)
      refine WP.seq ?_
      refine WP.draws ?_
      refine RG.op (mv (ot rfl)) ?_
      refine RG.op (nc (ot rfl)) ?_
      refine RG.op (fa fo_node_1 (ot rfl)) ?_
      refine RG.op (ld sc_p_extree_node (ot rfl)) ?_
      refine RG.op (lbs 0 rfl ag_Extent (ot rfl) (le_ rfl)) ?_
      refine RG.op (mv (ot rfl)) ?_
      refine RG.op (call (c_x_join (l := l) (r := (split r at_).1) b1 p3 hJ) (.c (ot rfl) (.c (ot rfl) (.c (ot rfl) .n)))) ?_
      refine RG.op (mv (ot rfl)) ?_
      refine RG.op (asg (ot rfl)) ?_
      refine RG.op (asg (ot rfl)) ?_
      refine RG.fin HM (by kernel_rfl) ?_
      show WL _ _ _ _ _ _ _ _ _
      refine WL.nl (.thn ?_)
      exact WP.rt (.rblk (.rthn (.rN rfl (.cons (.tm rfl) (.cons (.tm rfl) .nil)) (le_ rfl) (imp_eq (by rw [split_r h0 h2])))))
    · skip
      have h00 : ¬ x.a + x.n ≤ at_ := of_decide_eq_false hc
      have hJ1 : Bd (l.list ++ (x.head (at_ - x.a)) :: Tr.nil.list) := by
        have h5 := hB.mid.1.2.1; have h6 := hB.mid.1.2.2; have h7 := hB.2.1; have h8 := hB.2.2; have h9 := sumN_nn hB.mid.2.2.1
        rw [List.length_append, List.length_cons] at h7
        rw [sumN_append, sumN] at h8
        refine ⟨fun y hy => ?_, by simp [Tr.list]; omega, by rw [sumN_append]; simp only [sumN, Tr.list, X.head]; omega⟩
        rcases List.mem_append.1 hy with hy | hy
        · exact hB.mid.1.1 y hy
        · simp [Tr.list] at hy; subst hy; simp only [X.head]; omega
      have hJ2 : Bd (Tr.nil.list ++ (x.tail at_ (at_ - x.a)) :: r.list) := by
        have h5 := hB.mid.2.2.2.1; have h6 := hB.mid.2.2.2.2; have h7 := hB.2.1; have h8 := hB.2.2; have h9 := sumN_nn hB.mid.1.1
        rw [List.length_append, List.length_cons] at h7
        rw [sumN_append, sumN] at h8
        refine ⟨fun y hy => ?_, by simp [Tr.list]; omega, by simp only [sumN, Tr.list, X.tail, List.nil_append]; omega⟩
        simp only [Tr.list, List.nil_append, List.mem_cons] at hy
        rcases hy with hy | hy
        · subst hy; simp only [X.tail]; omega
        · exact hB.mid.2.2.1 y hy
      refine WP.sk (.blk (.thn ?_))
      refine WP.seq ?_
      refine WP.region ?_
      refine WL.op (mv (ot rfl)) (by decide) ?_
      refine WL.op (mv (ot rfl)) (by decide) ?_
      refine WL.op (nc (ot rfl)) (by decide) ?_
      refine WL.op (fa fo_node_0 (ot rfl)) (by decide) ?_
      refine WL.op (fa fo_Extent_0 (ot rfl)) (by decide) ?_
      refine WL.op (ld sc_int (ot rfl)) (by decide) ?_
      refine WL.op (sub (ot rfl) (ot rfl) (by omega)) (by decide) ?_
      refine WL.op (asg (ot rfl)) (by decide) ?_
      refine WL.nl (.thn ?_)
      refine WP.seq ?_
      refine WP.draws ?_
      refine RG.op (mv (ot rfl)) ?_
      refine RG.op (nc (ot rfl)) ?_
      refine RG.op (fa fo_node_0 (ot rfl)) ?_
      refine RG.op (fa fo_Extent_0 (ot rfl)) ?_
      refine RG.op (ld sc_int (ot rfl)) ?_
      refine RG.op (mv (ot rfl)) ?_
      refine RG.op (mv (ot rfl)) ?_
      refine RG.op (nc (ot rfl)) ?_
      refine RG.op (fa fo_node_0 (ot rfl)) ?_
      refine RG.op (fa fo_Extent_2 (ot rfl)) ?_
      refine RG.op (ld sc_int (ot rfl)) ?_
      refine RG.op (bld zr_Extent rfl ps_Extent (.c (ot rfl) (.leaf (.val rfl)) pl_Extent_0 rfl (le_ rfl) (.c (ot rfl) (.leaf (.val rfl)) pl_Extent_1 rfl (le_ rfl) (.c (ot rfl) (.leaf (.val rfl)) pl_Extent_2 rfl (le_ rfl) .n)))) ?_
      refine RG.bx (.alloc zr_Extent rfl) ?_
      refine RG.fin HM (by kernel_rfl) ?_
      intro b12
      show WL _ _ _ _ _ _ _ _ _
      refine WL.store 0 rfl (ot rfl) (ot rfl) (.agg _) sz_Extent rfl (le_ rfl) ?_
      refine WL.nl (.thn ?_)
      refine WP.seq ?_
      refine WP.draws ?_
      refine RG.op (mv (ot rfl)) ?_
      refine RG.op (mv (ot rfl)) ?_
      refine RG.op (nc (ot rfl)) ?_
      refine RG.op (fa fo_node_0 (ot rfl)) ?_
      refine RG.op (fa fo_Extent_1 (ot rfl)) ?_
      refine RG.op (ld sc_int (ot rfl)) ?_
      refine RG.op (mv (ot rfl)) ?_
      refine RG.op (sub (ot rfl) (ot rfl) (by omega)) ?_
      refine RG.op (mv (ot rfl)) ?_
      refine RG.op (nc (ot rfl)) ?_
      refine RG.op (fa fo_node_0 (ot rfl)) ?_
      refine RG.op (fa fo_Extent_2 (ot rfl)) ?_
      refine RG.op (ld sc_int (ot rfl)) ?_
      refine RG.op (mv (ot rfl)) ?_
      refine RG.op (add (ot rfl) (ot rfl) (by omega)) ?_
      refine RG.op (bld zr_Extent rfl ps_Extent (.c (ot rfl) (.leaf (.val rfl)) pl_Extent_0 rfl (le_ rfl) (.c (ot rfl) (.leaf (.val rfl)) pl_Extent_1 rfl (le_ rfl) (.c (ot rfl) (.leaf (.val rfl)) pl_Extent_2 rfl (le_ rfl) .n)))) ?_
      refine RG.bx (.alloc zr_Extent rfl) ?_
      refine RG.fin HM (by kernel_rfl) ?_
      intro b13
      show WL _ _ _ _ _ _ _ _ _
      refine WL.store 0 rfl (ot rfl) (ot rfl) (.agg _) sz_Extent rfl (le_ rfl) ?_
      refine WL.nl (.thn ?_)
      refine WP.seq ?_
      refine WP.draws ?_
      refine RG.op (mv (ot rfl)) ?_
      refine RG.op (nc (ot rfl)) ?_
      refine RG.op (fa fo_node_1 (ot rfl)) ?_
      refine RG.op (ld sc_p_extree_node (ot rfl)) ?_
      refine RG.op (lbs 1 rfl ag_Extent (ot rfl) (le_ rfl)) ?_
      refine RG.op (call (c_x_join (l := l) (r := .nil) b1 bal_nil hJ1) (.c (ot rfl) (.c (ot rfl) (.c (oc _) .n)))) ?_
      refine RG.op (lbs 0 rfl ag_Extent (ot rfl) (le_ rfl)) ?_
      refine RG.op (mv (ot rfl)) ?_
      refine RG.op (nc (ot rfl)) ?_
      refine RG.op (fa fo_node_2 (ot rfl)) ?_
      refine RG.op (ld sc_p_extree_node (ot rfl)) ?_
      refine RG.op (call (c_x_join (l := .nil) (r := r) bal_nil b2 hJ2) (.c (oc _) (.c (ot rfl) (.c (ot rfl) .n)))) ?_
      refine RG.op (asg (ot rfl)) ?_
      refine RG.op (asg (ot rfl)) ?_
      refine RG.fin HM (by kernel_rfl) ?_
      show WL _ _ _ _ _ _ _ _ _
      refine WL.nl (.thn ?_)
      exact WP.rt (.rN rfl (.cons (.tm rfl) (.cons (.tm rfl) .nil)) (le_ rfl) (imp_eq (by rw [split_m h0 h00]; rfl)))
end Go.Proofs.YtjglgfnhgehpeaaGreat

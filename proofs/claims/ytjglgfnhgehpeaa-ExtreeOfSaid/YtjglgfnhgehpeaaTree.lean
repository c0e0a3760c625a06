/- What the functions of the persistent trees compute. -/
import Derived.Test.YtjglgfnhgehpeaaLay
import Derived.Test.YtjglgfnhgehpeaaPlain
set_option linter.unusedVariables false
set_option linter.unusedSimpArgs false
set_option maxRecDepth 4000
namespace Go.Proofs.Ytjglgfnhgehpeaa
open Go.RowKit Go.Fw Go.Xt

abbrev I (n : Int) : Rp := val (.int .i64 n)
def tree : Tr → Rp
  | .nil => val (.pointer none)
  | .node l x r => at_ [I x.a, I x.n, I x.s, tree l, tree r, I (1 + max l.depth r.depth), I (1 + l.count + r.count), I (x.n + l.blocks + r.blocks)]
theorem leaf_tree : ∀ t : Tr, Leaf (tree t)
  | .nil => .val rfl
  | .node _ _ _ => .at_ _
def ext (x : X) : Rp := agg [I x.a, I x.n, I x.s]

theorem c_n_deep_nil : PureC Try.prog 66 [tree .nil] (I (Tr.depth .nil)) := by
  refine PureC.of_wp Try.func66 (by kernel_rfl) rfl Try.ntmps66 (le_ rfl) (fun w0 M0 => ?_)
  refine WP.seq ?_
  -- region 0 extree.go:24
  refine WP.region ?_
  refine WL.op (asg (oc _)) (by decide) ?_
  refine WL.nl (.thn ?_)
  refine WP.seq ?_
  refine WP.seq ?_
  -- region 1 extree.go:25
  refine WP.region ?_
  refine WL.op (mv (ot rfl)) (by decide) ?_
  refine WL.op (isnil pt_p_extree_node (ot rfl)) (by decide) ?_
  refine WL.nl (.thn ?_)
  -- extree.go:25
  refine WP.condT rfl ?_
  refine WP.seq ?_
  -- region 2 extree.go:26
  refine WP.region ?_
  refine WL.op (asg (oc _)) (by decide) ?_
  refine WL.nl (.thn ?_)
  exact WP.rt (.rthn (.r1 rfl rfl (imp _)))
theorem c_n_deep_node (l r : Tr) (x : X) : PureC Try.prog 66 [tree (.node l x r)] (I (Tr.depth (.node l x r))) := by
  refine PureC.of_wp Try.func66 (by kernel_rfl) rfl Try.ntmps66 (le_ rfl) (fun w0 M0 => ?_)
  refine WP.seq ?_
  -- region 0 extree.go:24
  refine WP.region ?_
  refine WL.op (asg (oc _)) (by decide) ?_
  refine WL.nl (.thn ?_)
  refine WP.seq ?_
  refine WP.seq ?_
  -- region 1 extree.go:25
  refine WP.region ?_
  refine WL.op (mv (ot rfl)) (by decide) ?_
  refine WL.op (notnil pt_p_extree_node (ot rfl)) (by decide) ?_
  refine WL.nl (.thn ?_)
  -- extree.go:25
  refine WP.condF rfl ?_
  refine WP.sk (.thn ?_)
  refine WP.seq ?_
  -- region 3 extree.go:28
  refine WP.region ?_
  refine WL.op (mv (ot rfl)) (by decide) ?_
  refine WL.op (nc (ot rfl)) (by decide) ?_
  refine WL.op (fa fo_node_3 (ot rfl)) (by decide) ?_
  refine WL.op (ld sc_int (ot rfl)) (by decide) ?_
  refine WL.op (asg (ot rfl)) (by decide) ?_
  refine WL.nl (.thn ?_)
  exact WP.rt (.r1 rfl rfl (imp _))
theorem c_n_deep : ∀ {t : Tr}, PureC Try.prog 66 [tree t] (I t.depth)
  | .nil => c_n_deep_nil
  | .node l x r => c_n_deep_node l r x
theorem c_n_size_nil : PureC Try.prog 48 [tree .nil] (I (Tr.count .nil)) := by
  refine PureC.of_wp Try.func48 (by kernel_rfl) rfl Try.ntmps48 (le_ rfl) (fun w0 M0 => ?_)
  refine WP.seq ?_
  -- region 0 extree.go:32
  refine WP.region ?_
  refine WL.op (asg (oc _)) (by decide) ?_
  refine WL.nl (.thn ?_)
  refine WP.seq ?_
  refine WP.seq ?_
  -- region 1 extree.go:33
  refine WP.region ?_
  refine WL.op (mv (ot rfl)) (by decide) ?_
  refine WL.op (isnil pt_p_extree_node (ot rfl)) (by decide) ?_
  refine WL.nl (.thn ?_)
  -- extree.go:33
  refine WP.condT rfl ?_
  refine WP.seq ?_
  -- region 2 extree.go:34
  refine WP.region ?_
  refine WL.op (asg (oc _)) (by decide) ?_
  refine WL.nl (.thn ?_)
  exact WP.rt (.rthn (.r1 rfl rfl (imp _)))
theorem c_n_size_node (l r : Tr) (x : X) : PureC Try.prog 48 [tree (.node l x r)] (I (Tr.count (.node l x r))) := by
  refine PureC.of_wp Try.func48 (by kernel_rfl) rfl Try.ntmps48 (le_ rfl) (fun w0 M0 => ?_)
  refine WP.seq ?_
  -- region 0 extree.go:32
  refine WP.region ?_
  refine WL.op (asg (oc _)) (by decide) ?_
  refine WL.nl (.thn ?_)
  refine WP.seq ?_
  refine WP.seq ?_
  -- region 1 extree.go:33
  refine WP.region ?_
  refine WL.op (mv (ot rfl)) (by decide) ?_
  refine WL.op (notnil pt_p_extree_node (ot rfl)) (by decide) ?_
  refine WL.nl (.thn ?_)
  -- extree.go:33
  refine WP.condF rfl ?_
  refine WP.sk (.thn ?_)
  refine WP.seq ?_
  -- region 3 extree.go:36
  refine WP.region ?_
  refine WL.op (mv (ot rfl)) (by decide) ?_
  refine WL.op (nc (ot rfl)) (by decide) ?_
  refine WL.op (fa fo_node_4 (ot rfl)) (by decide) ?_
  refine WL.op (ld sc_int (ot rfl)) (by decide) ?_
  refine WL.op (asg (ot rfl)) (by decide) ?_
  refine WL.nl (.thn ?_)
  exact WP.rt (.r1 rfl rfl (imp _))
theorem c_n_size : ∀ {t : Tr}, PureC Try.prog 48 [tree t] (I t.count)
  | .nil => c_n_size_nil
  | .node l x r => c_n_size_node l r x
theorem c_n_mapped_nil : PureC Try.prog 49 [tree .nil] (I (Tr.blocks .nil)) := by
  refine PureC.of_wp Try.func49 (by kernel_rfl) rfl Try.ntmps49 (le_ rfl) (fun w0 M0 => ?_)
  refine WP.seq ?_
  -- region 0 extree.go:40
  refine WP.region ?_
  refine WL.op (asg (oc _)) (by decide) ?_
  refine WL.nl (.thn ?_)
  refine WP.seq ?_
  refine WP.seq ?_
  -- region 1 extree.go:41
  refine WP.region ?_
  refine WL.op (mv (ot rfl)) (by decide) ?_
  refine WL.op (isnil pt_p_extree_node (ot rfl)) (by decide) ?_
  refine WL.nl (.thn ?_)
  -- extree.go:41
  refine WP.condT rfl ?_
  refine WP.seq ?_
  -- region 2 extree.go:42
  refine WP.region ?_
  refine WL.op (asg (oc _)) (by decide) ?_
  refine WL.nl (.thn ?_)
  exact WP.rt (.rthn (.r1 rfl rfl (imp _)))
theorem c_n_mapped_node (l r : Tr) (x : X) : PureC Try.prog 49 [tree (.node l x r)] (I (Tr.blocks (.node l x r))) := by
  refine PureC.of_wp Try.func49 (by kernel_rfl) rfl Try.ntmps49 (le_ rfl) (fun w0 M0 => ?_)
  refine WP.seq ?_
  -- region 0 extree.go:40
  refine WP.region ?_
  refine WL.op (asg (oc _)) (by decide) ?_
  refine WL.nl (.thn ?_)
  refine WP.seq ?_
  refine WP.seq ?_
  -- region 1 extree.go:41
  refine WP.region ?_
  refine WL.op (mv (ot rfl)) (by decide) ?_
  refine WL.op (notnil pt_p_extree_node (ot rfl)) (by decide) ?_
  refine WL.nl (.thn ?_)
  -- extree.go:41
  refine WP.condF rfl ?_
  refine WP.sk (.thn ?_)
  refine WP.seq ?_
  -- region 3 extree.go:44
  refine WP.region ?_
  refine WL.op (mv (ot rfl)) (by decide) ?_
  refine WL.op (nc (ot rfl)) (by decide) ?_
  refine WL.op (fa fo_node_5 (ot rfl)) (by decide) ?_
  refine WL.op (ld sc_int (ot rfl)) (by decide) ?_
  refine WL.op (asg (ot rfl)) (by decide) ?_
  refine WL.nl (.thn ?_)
  exact WP.rt (.r1 rfl rfl (imp _))
theorem c_n_mapped : ∀ {t : Tr}, PureC Try.prog 49 [tree t] (I t.blocks)
  | .nil => c_n_mapped_nil
  | .node l x r => c_n_mapped_node l r x
theorem c_x_build {l r : Tr} {a n s : Int} (h : Sz l ∧ Sz r ∧ 0 ≤ n ∧ n ≤ 1000000) : PureC Try.prog 71 [tree l, agg [I a, I n, I s], tree r] (tree (.node l ⟨a, n, s⟩ r)) := by
  unfold Sz at h
  refine PureC.of_wp Try.func71 (by kernel_rfl) rfl Try.ntmps71 (le_ rfl) (fun w0 M0 => ?_)
  refine WP.seq ?_
  -- region 0 extree.go:48
  refine WP.region ?_
  refine WL.box (ot rfl) (.agg _) (by decide) fun b4 => ?_
  refine WL.op (asg (oc _)) (by decide) ?_
  refine WL.nl (.thn ?_)
  refine WP.seq ?_
  -- region 1 draws extree.go:49
  refine WP.draws ?_
  refine RG.op (lbs 0 rfl ag_Extent (ot rfl) (le_ rfl)) ?_
  refine RG.op (mv (ot rfl)) ?_
  refine RG.op (mv (ot rfl)) ?_
  refine RG.op (mv (ot rfl)) ?_
  refine RG.op (call c_n_deep (.c (ot rfl) .n)) ?_
  refine RG.op (mv (ot rfl)) ?_
  refine RG.op (call c_n_deep (.c (ot rfl) .n)) ?_
  refine RG.op (mx_ (ot rfl) (ot rfl)) ?_
  refine RG.op (add (oc _) (ot rfl) (by omega)) ?_
  refine RG.op (mv (ot rfl)) ?_
  refine RG.op (call c_n_size (.c (ot rfl) .n)) ?_
  refine RG.op (add (oc _) (ot rfl) (by omega)) ?_
  refine RG.op (mv (ot rfl)) ?_
  refine RG.op (call c_n_size (.c (ot rfl) .n)) ?_
  refine RG.op (add (ot rfl) (ot rfl) (by omega)) ?_
  refine RG.op (fv fo_Extent_1 (ot rfl)) ?_
  refine RG.op (lb 0 rfl sc_int (ot rfl) rfl) ?_
  refine RG.op (mv (ot rfl)) ?_
  refine RG.op (call c_n_mapped (.c (ot rfl) .n)) ?_
  refine RG.op (add (ot rfl) (ot rfl) (by omega)) ?_
  refine RG.op (mv (ot rfl)) ?_
  refine RG.op (call c_n_mapped (.c (ot rfl) .n)) ?_
  refine RG.op (add (ot rfl) (ot rfl) (by omega)) ?_
  refine RG.op (bld zr_node rfl ps_node (.c (ot rfl) (.agg _) pl_node_0 rfl (le_ rfl) (.c (ot rfl) (.leaf (leaf_tree _)) pl_node_1 rfl (le_ rfl) (.c (ot rfl) (.leaf (leaf_tree _)) pl_node_2 rfl (le_ rfl) (.c (ot rfl) (.leaf (.val rfl)) pl_node_3 rfl (le_ rfl) (.c (ot rfl) (.leaf (.val rfl)) pl_node_4 rfl (le_ rfl) (.c (ot rfl) (.leaf (.val rfl)) pl_node_5 rfl (le_ rfl) .n))))))) ?_
  refine RG.op (boxi (ot rfl) (.agg _)) ?_
  refine RG.op (asg (ot rfl)) ?_
  refine RG.fin HM (by kernel_rfl) ?_
  show WL _ _ _ _ _ _ _ _ _
  refine WL.nl (.thn ?_)
  exact WP.rt (.r1 rfl rfl (imp_eq rfl))
theorem c_x_balance {l r : Tr} {a n s : Int} (h : Bd (l.list ++ ⟨a, n, s⟩ :: r.list)) : PureC Try.prog 70 [tree l, agg [I a, I n, I s], tree r] (tree (bal l ⟨a, n, s⟩ r)) := by
  obtain ⟨hl, hx, hr⟩ := h.mid
  have hx : 0 ≤ n ∧ n ≤ 65536 := hx
  have kl := hl.tr
  have kr := hr.tr
  refine PureC.of_wp Try.func70 (by kernel_rfl) rfl Try.ntmps70 (le_ rfl) (fun w0 M0 => ?_)
  refine WP.seq ?_
  -- region 0 extree.go:53
  refine WP.region ?_
  refine WL.box (ot rfl) (.agg _) (by decide) fun b4 => ?_
  refine WL.op (asg (oc _)) (by decide) ?_
  refine WL.nl (.thn ?_)
  refine WP.seq ?_
  refine WP.block ?_
  refine WP.seq ?_
  -- region 1 extree.go:55
  refine WP.region ?_
  refine WL.op (mv (ot rfl)) (by decide) ?_
  refine WL.op (call c_n_deep (.c (ot rfl) .n)) (by decide) ?_
  refine WL.op (mv (ot rfl)) (by decide) ?_
  refine WL.op (call c_n_deep (.c (ot rfl) .n)) (by decide) ?_
  refine WL.op (add (ot rfl) (oc _) (by omega)) (by decide) ?_
  refine WL.op (gtr (ot rfl) (ot rfl)) (by decide) ?_
  refine WL.op (asg (ot rfl)) (by decide) ?_
  refine WL.nl (.thn ?_)
  -- extree.go:55
  refine WP.cond rfl (fun hc => ?_) (fun hc => ?_)
  · skip
    have h1 := of_decide_eq_true hc
    obtain ⟨ll, lx, lr, rfl⟩ := depth_pos_iff l (by omega)
    obtain ⟨hll, hlx, hlr⟩ := hl.node
    have kll := hll.tr
    have klr := hlr.tr
    refine WP.seq ?_
    refine WP.seq ?_
    -- region 2 draws extree.go:56
    refine WP.draws ?_
    refine RG.op (mv (ot rfl)) ?_
    refine RG.op (nc (ot rfl)) ?_
    refine RG.op (fa fo_node_1 (ot rfl)) ?_
    refine RG.op (ld sc_p_extree_node (ot rfl)) ?_
    refine RG.op (call c_n_deep (.c (ot rfl) .n)) ?_
    refine RG.op (mv (ot rfl)) ?_
    refine RG.op (nc (ot rfl)) ?_
    refine RG.op (fa fo_node_2 (ot rfl)) ?_
    refine RG.op (ld sc_p_extree_node (ot rfl)) ?_
    refine RG.op (call c_n_deep (.c (ot rfl) .n)) ?_
    refine RG.op (geq (ot rfl) (ot rfl)) ?_
    refine RG.fin HM (by kernel_rfl) ?_
    show WL _ _ _ _ _ _ _ _ _
    refine WL.nl (.thn ?_)
    -- extree.go:56
    refine WP.cond rfl (fun hc => ?_) (fun hc => ?_)
    · skip
      have h2 := of_decide_eq_true hc
      refine WP.seq ?_
      -- region 3 draws extree.go:57
      refine WP.draws ?_
      refine RG.op (mv (ot rfl)) ?_
      refine RG.op (nc (ot rfl)) ?_
      refine RG.op (fa fo_node_1 (ot rfl)) ?_
      refine RG.op (ld sc_p_extree_node (ot rfl)) ?_
      refine RG.op (mv (ot rfl)) ?_
      refine RG.op (nc (ot rfl)) ?_
      refine RG.op (fa fo_node_0 (ot rfl)) ?_
      refine RG.op (ls ag_Extent (ot rfl) (le_ rfl)) ?_
      refine RG.op (mv (ot rfl)) ?_
      refine RG.op (nc (ot rfl)) ?_
      refine RG.op (fa fo_node_2 (ot rfl)) ?_
      refine RG.op (ld sc_p_extree_node (ot rfl)) ?_
      refine RG.op (lbs 0 rfl ag_Extent (ot rfl) (le_ rfl)) ?_
      refine RG.op (mv (ot rfl)) ?_
      refine RG.op (call (c_x_build (by simp only [Sz, Tr.depth, Tr.count, Tr.blocks]; omega)) (.c (ot rfl) (.c (ot rfl) (.c (ot rfl) .n)))) ?_
      refine RG.op (call (c_x_build (by simp only [Sz, Tr.depth, Tr.count, Tr.blocks]; omega)) (.c (ot rfl) (.c (ot rfl) (.c (ot rfl) .n)))) ?_
      refine RG.op (asg (ot rfl)) ?_
      refine RG.fin HM (by kernel_rfl) ?_
      show WL _ _ _ _ _ _ _ _ _
      refine WL.nl (.thn ?_)
      exact WP.rt (.rthn (.rblk (.rthn (.r1 rfl rfl (imp_eq (congrArg tree (by simp only [bal]; rw [if_pos h1, if_pos h2])))))))
    · skip
      have h2 := of_decide_eq_false hc
      obtain ⟨ml, mx, mr, rfl⟩ := depth_pos_iff lr (by omega)
      obtain ⟨hml, hmx, hmr⟩ := hlr.node
      have kml := hml.tr
      have kmr := hmr.tr
      refine WP.sk (.thn ?_)
      refine WP.seq ?_
      -- region 4 extree.go:59
      refine WP.region ?_
      refine WL.op (mv (ot rfl)) (by decide) ?_
      refine WL.op (nc (ot rfl)) (by decide) ?_
      refine WL.op (fa fo_node_2 (ot rfl)) (by decide) ?_
      refine WL.op (ld sc_p_extree_node (ot rfl)) (by decide) ?_
      refine WL.op (asg (ot rfl)) (by decide) ?_
      refine WL.nl (.thn ?_)
      refine WP.seq ?_
      -- region 5 draws extree.go:60
      refine WP.draws ?_
      refine RG.op (mv (ot rfl)) ?_
      refine RG.op (nc (ot rfl)) ?_
      refine RG.op (fa fo_node_1 (ot rfl)) ?_
      refine RG.op (ld sc_p_extree_node (ot rfl)) ?_
      refine RG.op (mv (ot rfl)) ?_
      refine RG.op (nc (ot rfl)) ?_
      refine RG.op (fa fo_node_0 (ot rfl)) ?_
      refine RG.op (ls ag_Extent (ot rfl) (le_ rfl)) ?_
      refine RG.op (mv (ot rfl)) ?_
      refine RG.op (nc (ot rfl)) ?_
      refine RG.op (fa fo_node_1 (ot rfl)) ?_
      refine RG.op (ld sc_p_extree_node (ot rfl)) ?_
      refine RG.op (call (c_x_build (by simp only [Sz, Tr.depth, Tr.count, Tr.blocks]; omega)) (.c (ot rfl) (.c (ot rfl) (.c (ot rfl) .n)))) ?_
      refine RG.op (mv (ot rfl)) ?_
      refine RG.op (nc (ot rfl)) ?_
      refine RG.op (fa fo_node_0 (ot rfl)) ?_
      refine RG.op (ls ag_Extent (ot rfl) (le_ rfl)) ?_
      refine RG.op (mv (ot rfl)) ?_
      refine RG.op (nc (ot rfl)) ?_
      refine RG.op (fa fo_node_2 (ot rfl)) ?_
      refine RG.op (ld sc_p_extree_node (ot rfl)) ?_
      refine RG.op (lbs 0 rfl ag_Extent (ot rfl) (le_ rfl)) ?_
      refine RG.op (mv (ot rfl)) ?_
      refine RG.op (call (c_x_build (by simp only [Sz, Tr.depth, Tr.count, Tr.blocks]; omega)) (.c (ot rfl) (.c (ot rfl) (.c (ot rfl) .n)))) ?_
      refine RG.op (call (c_x_build (by simp only [Sz, Tr.depth, Tr.count, Tr.blocks]; omega)) (.c (ot rfl) (.c (ot rfl) (.c (ot rfl) .n)))) ?_
      refine RG.op (asg (ot rfl)) ?_
      refine RG.fin HM (by kernel_rfl) ?_
      show WL _ _ _ _ _ _ _ _ _
      refine WL.nl (.thn ?_)
      exact WP.rt (.rblk (.rthn (.r1 rfl rfl (imp_eq (congrArg tree (by simp only [bal]; rw [if_pos h1, if_neg (by omega)]))))))
  · skip
    have h0 := of_decide_eq_false hc
    refine WP.seq ?_
    -- region 6 extree.go:61
    refine WP.region ?_
    refine WL.op (mv (ot rfl)) (by decide) ?_
    refine WL.op (call c_n_deep (.c (ot rfl) .n)) (by decide) ?_
    refine WL.op (mv (ot rfl)) (by decide) ?_
    refine WL.op (call c_n_deep (.c (ot rfl) .n)) (by decide) ?_
    refine WL.op (add (ot rfl) (oc _) (by omega)) (by decide) ?_
    refine WL.op (gtr (ot rfl) (ot rfl)) (by decide) ?_
    refine WL.op (asg (ot rfl)) (by decide) ?_
    refine WL.nl (.thn ?_)
    -- extree.go:61
    refine WP.cond rfl (fun hc => ?_) (fun hc => ?_)
    · skip
      have h1 := of_decide_eq_true hc
      obtain ⟨rl, rx, rr, rfl⟩ := depth_pos_iff r (by omega)
      obtain ⟨hrl, hrx, hrr⟩ := hr.node
      have krl := hrl.tr
      have krr := hrr.tr
      refine WP.seq ?_
      refine WP.seq ?_
      -- region 7 draws extree.go:62
      refine WP.draws ?_
      refine RG.op (mv (ot rfl)) ?_
      refine RG.op (nc (ot rfl)) ?_
      refine RG.op (fa fo_node_2 (ot rfl)) ?_
      refine RG.op (ld sc_p_extree_node (ot rfl)) ?_
      refine RG.op (call c_n_deep (.c (ot rfl) .n)) ?_
      refine RG.op (mv (ot rfl)) ?_
      refine RG.op (nc (ot rfl)) ?_
      refine RG.op (fa fo_node_1 (ot rfl)) ?_
      refine RG.op (ld sc_p_extree_node (ot rfl)) ?_
      refine RG.op (call c_n_deep (.c (ot rfl) .n)) ?_
      refine RG.op (geq (ot rfl) (ot rfl)) ?_
      refine RG.fin HM (by kernel_rfl) ?_
      show WL _ _ _ _ _ _ _ _ _
      refine WL.nl (.thn ?_)
      -- extree.go:62
      refine WP.cond rfl (fun hc => ?_) (fun hc => ?_)
      · skip
        have h2 := of_decide_eq_true hc
        refine WP.seq ?_
        -- region 8 draws extree.go:63
        refine WP.draws ?_
        refine RG.op (mv (ot rfl)) ?_
        refine RG.op (lbs 0 rfl ag_Extent (ot rfl) (le_ rfl)) ?_
        refine RG.op (mv (ot rfl)) ?_
        refine RG.op (nc (ot rfl)) ?_
        refine RG.op (fa fo_node_1 (ot rfl)) ?_
        refine RG.op (ld sc_p_extree_node (ot rfl)) ?_
        refine RG.op (call (c_x_build (by simp only [Sz, Tr.depth, Tr.count, Tr.blocks]; omega)) (.c (ot rfl) (.c (ot rfl) (.c (ot rfl) .n)))) ?_
        refine RG.op (mv (ot rfl)) ?_
        refine RG.op (nc (ot rfl)) ?_
        refine RG.op (fa fo_node_0 (ot rfl)) ?_
        refine RG.op (ls ag_Extent (ot rfl) (le_ rfl)) ?_
        refine RG.op (mv (ot rfl)) ?_
        refine RG.op (nc (ot rfl)) ?_
        refine RG.op (fa fo_node_2 (ot rfl)) ?_
        refine RG.op (ld sc_p_extree_node (ot rfl)) ?_
        refine RG.op (call (c_x_build (by simp only [Sz, Tr.depth, Tr.count, Tr.blocks]; omega)) (.c (ot rfl) (.c (ot rfl) (.c (ot rfl) .n)))) ?_
        refine RG.op (asg (ot rfl)) ?_
        refine RG.fin HM (by kernel_rfl) ?_
        show WL _ _ _ _ _ _ _ _ _
        refine WL.nl (.thn ?_)
        exact WP.rt (.rthn (.rblk (.rthn (.r1 rfl rfl (imp_eq (congrArg tree (by simp only [bal]; rw [if_neg (by omega), if_pos h1, if_pos h2])))))))
      · skip
        have h2 := of_decide_eq_false hc
        obtain ⟨ml, mx, mr, rfl⟩ := depth_pos_iff rl (by omega)
        obtain ⟨hml, hmx, hmr⟩ := hrl.node
        have kml := hml.tr
        have kmr := hmr.tr
        refine WP.sk (.thn ?_)
        refine WP.seq ?_
        -- region 9 extree.go:65
        refine WP.region ?_
        refine WL.op (mv (ot rfl)) (by decide) ?_
        refine WL.op (nc (ot rfl)) (by decide) ?_
        refine WL.op (fa fo_node_1 (ot rfl)) (by decide) ?_
        refine WL.op (ld sc_p_extree_node (ot rfl)) (by decide) ?_
        refine WL.op (asg (ot rfl)) (by decide) ?_
        refine WL.nl (.thn ?_)
        refine WP.seq ?_
        -- region 10 draws extree.go:66
        refine WP.draws ?_
        refine RG.op (mv (ot rfl)) ?_
        refine RG.op (lbs 0 rfl ag_Extent (ot rfl) (le_ rfl)) ?_
        refine RG.op (mv (ot rfl)) ?_
        refine RG.op (nc (ot rfl)) ?_
        refine RG.op (fa fo_node_1 (ot rfl)) ?_
        refine RG.op (ld sc_p_extree_node (ot rfl)) ?_
        refine RG.op (call (c_x_build (by simp only [Sz, Tr.depth, Tr.count, Tr.blocks]; omega)) (.c (ot rfl) (.c (ot rfl) (.c (ot rfl) .n)))) ?_
        refine RG.op (mv (ot rfl)) ?_
        refine RG.op (nc (ot rfl)) ?_
        refine RG.op (fa fo_node_0 (ot rfl)) ?_
        refine RG.op (ls ag_Extent (ot rfl) (le_ rfl)) ?_
        refine RG.op (mv (ot rfl)) ?_
        refine RG.op (nc (ot rfl)) ?_
        refine RG.op (fa fo_node_2 (ot rfl)) ?_
        refine RG.op (ld sc_p_extree_node (ot rfl)) ?_
        refine RG.op (mv (ot rfl)) ?_
        refine RG.op (nc (ot rfl)) ?_
        refine RG.op (fa fo_node_0 (ot rfl)) ?_
        refine RG.op (ls ag_Extent (ot rfl) (le_ rfl)) ?_
        refine RG.op (mv (ot rfl)) ?_
        refine RG.op (nc (ot rfl)) ?_
        refine RG.op (fa fo_node_2 (ot rfl)) ?_
        refine RG.op (ld sc_p_extree_node (ot rfl)) ?_
        refine RG.op (call (c_x_build (by simp only [Sz, Tr.depth, Tr.count, Tr.blocks]; omega)) (.c (ot rfl) (.c (ot rfl) (.c (ot rfl) .n)))) ?_
        refine RG.op (call (c_x_build (by simp only [Sz, Tr.depth, Tr.count, Tr.blocks]; omega)) (.c (ot rfl) (.c (ot rfl) (.c (ot rfl) .n)))) ?_
        refine RG.op (asg (ot rfl)) ?_
        refine RG.fin HM (by kernel_rfl) ?_
        show WL _ _ _ _ _ _ _ _ _
        refine WL.nl (.thn ?_)
        exact WP.rt (.rblk (.rthn (.r1 rfl rfl (imp_eq (congrArg tree (by simp only [bal]; rw [if_neg (by omega), if_pos h1, if_neg (by omega)]))))))
    · skip
      have h00 := of_decide_eq_false hc
      refine WP.sk (.blk (.thn ?_))
      refine WP.seq ?_
      -- region 11 extree.go:68
      refine WP.region ?_
      refine WL.op (mv (ot rfl)) (by decide) ?_
      refine WL.op (lbs 0 rfl ag_Extent (ot rfl) (le_ rfl)) (by decide) ?_
      refine WL.op (mv (ot rfl)) (by decide) ?_
      refine WL.op (call (c_x_build (by simp only [Sz, Tr.depth, Tr.count, Tr.blocks]; omega)) (.c (ot rfl) (.c (ot rfl) (.c (ot rfl) .n)))) (by decide) ?_
      refine WL.op (asg (ot rfl)) (by decide) ?_
      refine WL.nl (.thn ?_)
      exact WP.rt (.r1 rfl rfl (imp_eq (congrArg tree (by simp only [bal]; rw [if_neg (by omega), if_neg (by omega)]))))
theorem c_x_join_0 {a n s : Int} (h : Bd (Tr.nil.list ++ ⟨a, n, s⟩ :: Tr.nil.list)) : PureC Try.prog 47 [tree .nil, agg [I a, I n, I s], tree .nil] (tree (join .nil ⟨a, n, s⟩ .nil)) := by
  have hx : 0 ≤ n ∧ n ≤ 65536 := h.mid.2.1
  refine PureC.of_wp Try.func47 (by kernel_rfl) rfl Try.ntmps47 (le_ rfl) (fun w0 M0 => ?_)
  refine WP.seq ?_
  -- region 0 extree.go:72
  refine WP.region ?_
  refine WL.box (ot rfl) (.agg _) (by decide) fun b4 => ?_
  refine WL.op (asg (oc _)) (by decide) ?_
  refine WL.nl (.thn ?_)
  refine WP.seq ?_
  refine WP.block ?_
  refine WP.seq ?_
  -- region 1 extree.go:74
  refine WP.region ?_
  refine WL.op (mv (ot rfl)) (by decide) ?_
  refine WL.op (call (c_n_deep (t := .nil)) (.c (ot rfl) .n)) (by decide) ?_
  refine WL.op (mv (ot rfl)) (by decide) ?_
  refine WL.op (call (c_n_deep (t := .nil)) (.c (ot rfl) .n)) (by decide) ?_
  refine WL.op (add (ot rfl) (oc _) (by simp only [Tr.depth]; omega)) (by decide) ?_
  refine WL.op (gtr (ot rfl) (ot rfl)) (by decide) ?_
  refine WL.op (asg (ot rfl)) (by decide) ?_
  refine WL.nl (.thn ?_)
  -- extree.go:74
  refine WP.cond rfl (fun hc => ?_) (fun hc => ?_)
  · skip
    exact absurd (of_decide_eq_true hc) (by simp [Tr.depth])
  · skip
    refine WP.seq ?_
    -- region 3 extree.go:76
    refine WP.region ?_
    refine WL.op (mv (ot rfl)) (by decide) ?_
    refine WL.op (call (c_n_deep (t := .nil)) (.c (ot rfl) .n)) (by decide) ?_
    refine WL.op (mv (ot rfl)) (by decide) ?_
    refine WL.op (call (c_n_deep (t := .nil)) (.c (ot rfl) .n)) (by decide) ?_
    refine WL.op (add (ot rfl) (oc _) (by simp only [Tr.depth]; omega)) (by decide) ?_
    refine WL.op (gtr (ot rfl) (ot rfl)) (by decide) ?_
    refine WL.op (asg (ot rfl)) (by decide) ?_
    refine WL.nl (.thn ?_)
    -- extree.go:76
    refine WP.cond rfl (fun hc => ?_) (fun hc => ?_)
    · skip
      exact absurd (of_decide_eq_true hc) (by simp [Tr.depth])
    · skip
      refine WP.sk (.blk (.thn ?_))
      refine WP.seq ?_
      -- region 5 extree.go:79
      refine WP.region ?_
      refine WL.op (mv (ot rfl)) (by decide) ?_
      refine WL.op (lbs 0 rfl ag_Extent (ot rfl) (le_ rfl)) (by decide) ?_
      refine WL.op (mv (ot rfl)) (by decide) ?_
      refine WL.op (call (c_x_build (by simp only [Sz, Tr.depth, Tr.count, Tr.blocks]; omega)) (.c (ot rfl) (.c (ot rfl) (.c (ot rfl) .n)))) (by decide) ?_
      refine WL.op (asg (ot rfl)) (by decide) ?_
      refine WL.nl (.thn ?_)
      exact WP.rt (.r1 rfl rfl (imp_eq (congrArg tree (join_n (by simp [Tr.depth]) (by simp [Tr.depth])).symm)))
theorem c_x_join_k (k : Nat) : ∀ (l r : Tr) (a n s : Int), l.size + r.size ≤ k → l.Bal → r.Bal → Bd (l.list ++ ⟨a, n, s⟩ :: r.list) → PureC Try.prog 47 [tree l, agg [I a, I n, I s], tree r] (tree (join l ⟨a, n, s⟩ r)) := by
  induction k with
  | zero =>
    intro l r a n s hk bl br h
    cases l with
    | node => simp [Tr.size] at hk
    | nil => cases r with
      | node => simp [Tr.size] at hk
      | nil => exact c_x_join_0 h
  | succ k ih =>
  intro l r a n s hk bl br h
  obtain ⟨hl, hx, hr⟩ := h.mid
  have hx : 0 ≤ n ∧ n ≤ 65536 := hx
  have kl := hl.tr
  have kr := hr.tr
  refine PureC.of_wp Try.func47 (by kernel_rfl) rfl Try.ntmps47 (le_ rfl) (fun w0 M0 => ?_)
  refine WP.seq ?_
  -- region 0 extree.go:72
  refine WP.region ?_
  refine WL.box (ot rfl) (.agg _) (by decide) fun b4 => ?_
  refine WL.op (asg (oc _)) (by decide) ?_
  refine WL.nl (.thn ?_)
  refine WP.seq ?_
  refine WP.block ?_
  refine WP.seq ?_
  -- region 1 extree.go:74
  refine WP.region ?_
  refine WL.op (mv (ot rfl)) (by decide) ?_
  refine WL.op (call c_n_deep (.c (ot rfl) .n)) (by decide) ?_
  refine WL.op (mv (ot rfl)) (by decide) ?_
  refine WL.op (call c_n_deep (.c (ot rfl) .n)) (by decide) ?_
  refine WL.op (add (ot rfl) (oc _) (by omega)) (by decide) ?_
  refine WL.op (gtr (ot rfl) (ot rfl)) (by decide) ?_
  refine WL.op (asg (ot rfl)) (by decide) ?_
  refine WL.nl (.thn ?_)
  -- extree.go:74
  refine WP.cond rfl (fun hc => ?_) (fun hc => ?_)
  · skip
    have h1' := of_decide_eq_true hc
    obtain ⟨ll, lx, lr, rfl⟩ := depth_pos_iff l (by omega)
    have h2 : Bd (ll.list ++ lx :: (lr.list ++ ⟨a, n, s⟩ :: r.list)) := by simpa [Tr.list] using h
    have h1 := h2.mid.2.2
    obtain ⟨hll, hlx, hlr⟩ := hl.node
    have kll := hll.tr
    have klr := hlr.tr
    refine WP.seq ?_
    -- region 2 draws extree.go:75
    refine WP.draws ?_
    refine RG.op (mv (ot rfl)) ?_
    refine RG.op (nc (ot rfl)) ?_
    refine RG.op (fa fo_node_1 (ot rfl)) ?_
    refine RG.op (ld sc_p_extree_node (ot rfl)) ?_
    refine RG.op (mv (ot rfl)) ?_
    refine RG.op (nc (ot rfl)) ?_
    refine RG.op (fa fo_node_0 (ot rfl)) ?_
    refine RG.op (ls ag_Extent (ot rfl) (le_ rfl)) ?_
    refine RG.op (mv (ot rfl)) ?_
    refine RG.op (nc (ot rfl)) ?_
    refine RG.op (fa fo_node_2 (ot rfl)) ?_
    refine RG.op (ld sc_p_extree_node (ot rfl)) ?_
    refine RG.op (lbs 0 rfl ag_Extent (ot rfl) (le_ rfl)) ?_
    refine RG.op (mv (ot rfl)) ?_
    refine RG.op (call (ih _ _ _ _ _ (by simp only [Tr.size] at hk; omega) bl.2.1 br h1) (.c (ot rfl) (.c (ot rfl) (.c (ot rfl) .n)))) ?_
    refine RG.op (call (c_x_balance (by rw [join_list bl.2.1 br]; exact h2)) (.c (ot rfl) (.c (ot rfl) (.c (ot rfl) .n)))) ?_
    refine RG.op (asg (ot rfl)) ?_
    refine RG.fin HM (by kernel_rfl) ?_
    show WL _ _ _ _ _ _ _ _ _
    refine WL.nl (.thn ?_)
    exact WP.rt (.rblk (.rthn (.r1 rfl rfl (imp_eq (congrArg tree (join_l h1').symm)))))
  · skip
    have h0 := of_decide_eq_false hc
    refine WP.seq ?_
    -- region 3 extree.go:76
    refine WP.region ?_
    refine WL.op (mv (ot rfl)) (by decide) ?_
    refine WL.op (call c_n_deep (.c (ot rfl) .n)) (by decide) ?_
    refine WL.op (mv (ot rfl)) (by decide) ?_
    refine WL.op (call c_n_deep (.c (ot rfl) .n)) (by decide) ?_
    refine WL.op (add (ot rfl) (oc _) (by omega)) (by decide) ?_
    refine WL.op (gtr (ot rfl) (ot rfl)) (by decide) ?_
    refine WL.op (asg (ot rfl)) (by decide) ?_
    refine WL.nl (.thn ?_)
    -- extree.go:76
    refine WP.cond rfl (fun hc => ?_) (fun hc => ?_)
    · skip
      have h1' := of_decide_eq_true hc
      obtain ⟨rl, rx, rr, rfl⟩ := depth_pos_iff r (by omega)
      have h2 : Bd ((l.list ++ ⟨a, n, s⟩ :: rl.list) ++ rx :: rr.list) := by simpa [Tr.list] using h
      have h1 := h2.mid.1
      obtain ⟨hrl, hrx, hrr⟩ := hr.node
      have krl := hrl.tr
      have krr := hrr.tr
      refine WP.seq ?_
      -- region 4 draws extree.go:77
      refine WP.draws ?_
      refine RG.op (mv (ot rfl)) ?_
      refine RG.op (lbs 0 rfl ag_Extent (ot rfl) (le_ rfl)) ?_
      refine RG.op (mv (ot rfl)) ?_
      refine RG.op (nc (ot rfl)) ?_
      refine RG.op (fa fo_node_1 (ot rfl)) ?_
      refine RG.op (ld sc_p_extree_node (ot rfl)) ?_
      refine RG.op (call (ih _ _ _ _ _ (by simp only [Tr.size] at hk; omega) bl br.1 h1) (.c (ot rfl) (.c (ot rfl) (.c (ot rfl) .n)))) ?_
      refine RG.op (mv (ot rfl)) ?_
      refine RG.op (nc (ot rfl)) ?_
      refine RG.op (fa fo_node_0 (ot rfl)) ?_
      refine RG.op (ls ag_Extent (ot rfl) (le_ rfl)) ?_
      refine RG.op (mv (ot rfl)) ?_
      refine RG.op (nc (ot rfl)) ?_
      refine RG.op (fa fo_node_2 (ot rfl)) ?_
      refine RG.op (ld sc_p_extree_node (ot rfl)) ?_
      refine RG.op (call (c_x_balance (by rw [join_list bl br.1]; exact h2)) (.c (ot rfl) (.c (ot rfl) (.c (ot rfl) .n)))) ?_
      refine RG.op (asg (ot rfl)) ?_
      refine RG.fin HM (by kernel_rfl) ?_
      show WL _ _ _ _ _ _ _ _ _
      refine WL.nl (.thn ?_)
      exact WP.rt (.rblk (.rthn (.r1 rfl rfl (imp_eq (congrArg tree (join_r (by omega) h1').symm)))))
    · skip
      have h00 := of_decide_eq_false hc
      refine WP.sk (.blk (.thn ?_))
      refine WP.seq ?_
      -- region 5 extree.go:79
      refine WP.region ?_
      refine WL.op (mv (ot rfl)) (by decide) ?_
      refine WL.op (lbs 0 rfl ag_Extent (ot rfl) (le_ rfl)) (by decide) ?_
      refine WL.op (mv (ot rfl)) (by decide) ?_
      refine WL.op (call (c_x_build (by simp only [Sz, Tr.depth, Tr.count, Tr.blocks]; omega)) (.c (ot rfl) (.c (ot rfl) (.c (ot rfl) .n)))) (by decide) ?_
      refine WL.op (asg (ot rfl)) (by decide) ?_
      refine WL.nl (.thn ?_)
      exact WP.rt (.r1 rfl rfl (imp_eq (congrArg tree (join_n (by omega) (by omega)).symm)))
theorem c_x_join {l r : Tr} {a n s : Int} (bl : l.Bal) (br : r.Bal) (h : Bd (l.list ++ ⟨a, n, s⟩ :: r.list)) : PureC Try.prog 47 [tree l, agg [I a, I n, I s], tree r] (tree (join l ⟨a, n, s⟩ r)) := c_x_join_k _ l r a n s (Nat.le_refl _) bl br h
end Go.Proofs.Ytjglgfnhgehpeaa

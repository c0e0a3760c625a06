/- Parts: Tree2, Tree3, Iter. -/
import Derived.Test.YtjglgfnhgehpeaaGreatZh
import Derived.RangeFuncKeeps
import Derived.RangeFuncBound
import Derived.RangeFuncLeaves
import Derived.RangeFuncFrom
import Derived.Shelf.Abstract
import Derived.WalkKit
import Derived.OwnWalkIn
import Derived.TacticsInMore
/- First, last, split, list: what the functions of the persistent trees compute. -/
set_option linter.unusedVariables false
set_option linter.unusedSimpArgs false
set_option maxRecDepth 4000
namespace Go.Proofs.YtjglgfnhgehpeaaGreat
open Go.RowKit Go.Fw Go.Xt
theorem c_n_first_0 (r : Tr) (x : X) : PureC Tryz.prog 129 [tree (.node .nil x r)] (tup [ext (first .nil x r).1, tree (first .nil x r).2]) := by
  refine PureC.of_wp Tryz.func129 (by kernel_rfl) rfl Tryz.ntmps129 (le_ rfl) (fun w0 M0 => ?_)
  refine WP.seq ?_
  refine WP.region ?_
  refine WL.alloc zr_Extent rfl (by decide) fun b2 => ?_
  refine WL.op (asg (oc _)) (by decide) ?_
  refine WL.nl (.thn ?_)
  refine WP.seq ?_
  refine WP.seq ?_
  refine WP.region ?_
  refine WL.op (mv (ot rfl)) (by decide) ?_
  refine WL.op (nc (ot rfl)) (by decide) ?_
  refine WL.op (fa fo_node_1 (ot rfl)) (by decide) ?_
  refine WL.op (ld sc_p_extree_node (ot rfl)) (by decide) ?_
  refine WL.op (isnil pt_p_extree_node (ot rfl)) (by decide) ?_
  refine WL.nl (.thn ?_)
  refine WP.condT rfl ?_
  refine WP.seq ?_
  refine WP.drawsH [0] ?_
  refine RG.opE (mv (ot rfl)) ?_
  refine RG.opE (nc (ot rfl)) ?_
  refine RG.opE (fa fo_node_0 (ot rfl)) ?_
  refine RG.opE (ls ag_Extent (ot rfl) (le_ rfl)) ?_
  refine RG.op (mv (ot rfl)) ?_
  refine RG.op (nc (ot rfl)) ?_
  refine RG.op (fa fo_node_2 (ot rfl)) ?_
  refine RG.op (ld sc_p_extree_node (ot rfl)) ?_
  refine RG.sx (OpE.store 0 rfl (ot rfl) (ot rfl) (.agg _) sz_Extent rfl (le_ rfl)) rfl ?_
  refine RG.op (asg (ot rfl)) ?_
  refine RG.fin HM (by kernel_rfl) ?_
  show WL _ _ _ _ _ _ _ _ _
  refine WL.nl (.thn ?_)
  exact WP.rt (.rthn (.rN rfl (.cons (.bx 0 rfl rfl ag_Extent) (.cons (.tm rfl) .nil)) (le_ rfl) (imp_eq rfl)))
theorem c_n_first : ∀ (l : Tr) (x : X) (r : Tr), (Tr.node l x r).Bal → Bd (Tr.node l x r).list → PureC Tryz.prog 129 [tree (.node l x r)] (tup [ext (first l x r).1, tree (first l x r).2]) := by
  intro l
  induction l with
  | nil => intro x r _ _; exact c_n_first_0 r x
  | node ll lx lr ih _ =>
  intro x r hb hB
  obtain ⟨f1, f2⟩ := first_spec ll lx lr hb.1
  have hB' : Bd ((first ll lx lr).2.list ++ x :: r.list) := by
    have h : Bd ((Tr.node ll lx lr).list ++ x :: r.list) := hB
    rw [← f1, List.cons_append] at h
    exact h.tail
  refine PureC.of_wp Tryz.func129 (by kernel_rfl) rfl Tryz.ntmps129 (le_ rfl) (fun w0 M0 => ?_)
  refine WP.seq ?_
  refine WP.region ?_
  refine WL.alloc zr_Extent rfl (by decide) fun b2 => ?_
  refine WL.op (asg (oc _)) (by decide) ?_
  refine WL.nl (.thn ?_)
  refine WP.seq ?_
  refine WP.seq ?_
  refine WP.region ?_
  refine WL.op (mv (ot rfl)) (by decide) ?_
  refine WL.op (nc (ot rfl)) (by decide) ?_
  refine WL.op (fa fo_node_1 (ot rfl)) (by decide) ?_
  refine WL.op (ld sc_p_extree_node (ot rfl)) (by decide) ?_
  refine WL.op (notnil pt_p_extree_node (ot rfl)) (by decide) ?_
  refine WL.nl (.thn ?_)
  refine WP.condF rfl ?_
  refine WP.sk (.thn ?_)
  refine WP.seq ?_
  refine WP.region ?_
  refine WL.op (mv (ot rfl)) (by decide) ?_
  refine WL.op (nc (ot rfl)) (by decide) ?_
  refine WL.op (fa fo_node_1 (ot rfl)) (by decide) ?_
  refine WL.op (ld sc_p_extree_node (ot rfl)) (by decide) ?_
  refine WL.op (call (ih lx lr hb.1 hB.mid.1) (.c (ot rfl) .n)) (by decide) ?_
  refine WL.op (mv (ot rfl)) (by decide) ?_
  refine WL.op (ex (ot rfl) rfl) (by decide) ?_
  refine WL.op (ex (ot rfl) rfl) (by decide) ?_
  refine WL.alloc zr_Extent rfl (by decide) fun b4 => ?_
  refine WL.store 0 rfl (ot rfl) (ot rfl) (.agg _) sz_Extent rfl (le_ rfl) ?_
  refine WL.op (asg (ot rfl)) (by decide) ?_
  refine WL.nl (.thn ?_)
  refine WP.seq ?_
  refine WP.drawsH [1] ?_
  refine RG.opE (lbs 0 rfl ag_Extent (ot rfl) (le_ rfl)) ?_
  refine RG.op (mv (ot rfl)) ?_
  refine RG.op (mv (ot rfl)) ?_
  refine RG.op (nc (ot rfl)) ?_
  refine RG.op (fa fo_node_0 (ot rfl)) ?_
  refine RG.op (ls ag_Extent (ot rfl) (le_ rfl)) ?_
  refine RG.op (mv (ot rfl)) ?_
  refine RG.op (nc (ot rfl)) ?_
  refine RG.op (fa fo_node_2 (ot rfl)) ?_
  refine RG.op (ld sc_p_extree_node (ot rfl)) ?_
  refine RG.opE (call (c_x_join (l := (first ll lx lr).2) f2 hb.2.1 hB') (.c (ot rfl) (.c (ot rfl) (.c (ot rfl) .n)))) ?_
  refine RG.sx (OpE.store 1 rfl (ot rfl) (ot rfl) (.agg _) sz_Extent rfl (le_ rfl)) rfl ?_
  refine RG.op (asg (ot rfl)) ?_
  refine RG.fin HM (by kernel_rfl) ?_
  show WL _ _ _ _ _ _ _ _ _
  refine WL.nl (.thn ?_)
  exact WP.rt (.rN rfl (.cons (.bx 1 rfl rfl ag_Extent) (.cons (.tm rfl) .nil)) (le_ rfl) (imp_eq rfl))
theorem c_n_last_0 (l : Tr) (x : X) : PureC Tryz.prog 127 [tree (.node l x .nil)] (tup [ext (last l x .nil).1, tree (last l x .nil).2]) := by
  refine PureC.of_wp Tryz.func127 (by kernel_rfl) rfl Tryz.ntmps127 (le_ rfl) (fun w0 M0 => ?_)
  refine WP.seq ?_
  refine WP.region ?_
  refine WL.alloc zr_Extent rfl (by decide) fun b2 => ?_
  refine WL.op (asg (oc _)) (by decide) ?_
  refine WL.nl (.thn ?_)
  refine WP.seq ?_
  refine WP.seq ?_
  refine WP.region ?_
  refine WL.op (mv (ot rfl)) (by decide) ?_
  refine WL.op (nc (ot rfl)) (by decide) ?_
  refine WL.op (fa fo_node_2 (ot rfl)) (by decide) ?_
  refine WL.op (ld sc_p_extree_node (ot rfl)) (by decide) ?_
  refine WL.op (isnil pt_p_extree_node (ot rfl)) (by decide) ?_
  refine WL.nl (.thn ?_)
  refine WP.condT rfl ?_
  refine WP.seq ?_
  refine WP.drawsH [0] ?_
  refine RG.opE (mv (ot rfl)) ?_
  refine RG.opE (nc (ot rfl)) ?_
  refine RG.opE (fa fo_node_0 (ot rfl)) ?_
  refine RG.opE (ls ag_Extent (ot rfl) (le_ rfl)) ?_
  refine RG.op (mv (ot rfl)) ?_
  refine RG.op (nc (ot rfl)) ?_
  refine RG.op (fa fo_node_1 (ot rfl)) ?_
  refine RG.op (ld sc_p_extree_node (ot rfl)) ?_
  refine RG.sx (OpE.store 0 rfl (ot rfl) (ot rfl) (.agg _) sz_Extent rfl (le_ rfl)) rfl ?_
  refine RG.op (asg (ot rfl)) ?_
  refine RG.fin HM (by kernel_rfl) ?_
  show WL _ _ _ _ _ _ _ _ _
  refine WL.nl (.thn ?_)
  exact WP.rt (.rthn (.rN rfl (.cons (.bx 0 rfl rfl ag_Extent) (.cons (.tm rfl) .nil)) (le_ rfl) (imp_eq rfl)))
theorem c_n_last : ∀ (r : Tr) (l : Tr) (x : X), (Tr.node l x r).Bal → Bd (Tr.node l x r).list → PureC Tryz.prog 127 [tree (.node l x r)] (tup [ext (last l x r).1, tree (last l x r).2]) := by
  intro r
  induction r with
  | nil => intro l x _ _; exact c_n_last_0 l x
  | node rl rx rr _ ih =>
  intro l x hb hB
  obtain ⟨f1, f2⟩ := last_spec rr rl rx hb.2.1
  have hB' : Bd (l.list ++ x :: (last rl rx rr).2.list) := by
    have h : Bd (l.list ++ x :: (Tr.node rl rx rr).list) := hB
    rw [← f1, ← List.cons_append, ← List.append_assoc] at h
    exact h.left
  refine PureC.of_wp Tryz.func127 (by kernel_rfl) rfl Tryz.ntmps127 (le_ rfl) (fun w0 M0 => ?_)
  refine WP.seq ?_
  refine WP.region ?_
  refine WL.alloc zr_Extent rfl (by decide) fun b2 => ?_
  refine WL.op (asg (oc _)) (by decide) ?_
  refine WL.nl (.thn ?_)
  refine WP.seq ?_
  refine WP.seq ?_
  refine WP.region ?_
  refine WL.op (mv (ot rfl)) (by decide) ?_
  refine WL.op (nc (ot rfl)) (by decide) ?_
  refine WL.op (fa fo_node_2 (ot rfl)) (by decide) ?_
  refine WL.op (ld sc_p_extree_node (ot rfl)) (by decide) ?_
  refine WL.op (notnil pt_p_extree_node (ot rfl)) (by decide) ?_
  refine WL.nl (.thn ?_)
  refine WP.condF rfl ?_
  refine WP.sk (.thn ?_)
  refine WP.seq ?_
  refine WP.region ?_
  refine WL.op (mv (ot rfl)) (by decide) ?_
  refine WL.op (nc (ot rfl)) (by decide) ?_
  refine WL.op (fa fo_node_2 (ot rfl)) (by decide) ?_
  refine WL.op (ld sc_p_extree_node (ot rfl)) (by decide) ?_
  refine WL.op (call (ih rl rx hb.2.1 hB.mid.2.2) (.c (ot rfl) .n)) (by decide) ?_
  refine WL.op (mv (ot rfl)) (by decide) ?_
  refine WL.op (ex (ot rfl) rfl) (by decide) ?_
  refine WL.op (ex (ot rfl) rfl) (by decide) ?_
  refine WL.alloc zr_Extent rfl (by decide) fun b4 => ?_
  refine WL.store 0 rfl (ot rfl) (ot rfl) (.agg _) sz_Extent rfl (le_ rfl) ?_
  refine WL.op (asg (ot rfl)) (by decide) ?_
  refine WL.nl (.thn ?_)
  refine WP.seq ?_
  refine WP.drawsH [1] ?_
  refine RG.opE (lbs 0 rfl ag_Extent (ot rfl) (le_ rfl)) ?_
  refine RG.op (mv (ot rfl)) ?_
  refine RG.op (nc (ot rfl)) ?_
  refine RG.op (fa fo_node_1 (ot rfl)) ?_
  refine RG.op (ld sc_p_extree_node (ot rfl)) ?_
  refine RG.op (mv (ot rfl)) ?_
  refine RG.op (nc (ot rfl)) ?_
  refine RG.op (fa fo_node_0 (ot rfl)) ?_
  refine RG.op (ls ag_Extent (ot rfl) (le_ rfl)) ?_
  refine RG.op (mv (ot rfl)) ?_
  refine RG.opE (call (c_x_join (r := (last rl rx rr).2) hb.1 f2 hB') (.c (ot rfl) (.c (ot rfl) (.c (ot rfl) .n)))) ?_
  refine RG.sx (OpE.store 1 rfl (ot rfl) (ot rfl) (.agg _) sz_Extent rfl (le_ rfl)) rfl ?_
  refine RG.op (asg (ot rfl)) ?_
  refine RG.fin HM (by kernel_rfl) ?_
  show WL _ _ _ _ _ _ _ _ _
  refine WL.nl (.thn ?_)
  exact WP.rt (.rN rfl (.cons (.bx 1 rfl rfl ag_Extent) (.cons (.tm rfl) .nil)) (le_ rfl) (imp_eq rfl))
theorem c_x_concat_0 (l : Tr) : PureC Tryz.prog 133 [tree l, tree .nil] (tree (concat l .nil)) := by
  refine PureC.of_wp Tryz.func133 (by kernel_rfl) rfl Tryz.ntmps133 (le_ rfl) (fun w0 M0 => ?_)
  refine WP.seq ?_
  refine WP.region ?_
  refine WL.op (asg (oc _)) (by decide) ?_
  refine WL.nl (.thn ?_)
  refine WP.seq ?_
  refine WP.seq ?_
  refine WP.region ?_
  refine WL.op (mv (ot rfl)) (by decide) ?_
  refine WL.op (isnil pt_p_extree_node (ot rfl)) (by decide) ?_
  refine WL.nl (.thn ?_)
  refine WP.condT rfl ?_
  refine WP.seq ?_
  refine WP.region ?_
  refine WL.op (mv (ot rfl)) (by decide) ?_
  refine WL.op (asg (ot rfl)) (by decide) ?_
  refine WL.nl (.thn ?_)
  exact WP.rt (.rthn (.r1 rfl rfl (imp_eq rfl)))
theorem c_x_concat : ∀ {l r : Tr}, l.Bal → r.Bal → Bd (l.list ++ r.list) → PureC Tryz.prog 133 [tree l, tree r] (tree (concat l r)) := by
  intro l r bl br hB
  cases r with
  | nil => exact c_x_concat_0 l
  | node rl rx rr =>
  obtain ⟨f1, f2⟩ := first_spec rl rx rr br
  have hB' : Bd (l.list ++ (first rl rx rr).1 :: (first rl rx rr).2.list) := by rw [f1]; exact hB
  refine PureC.of_wp Tryz.func133 (by kernel_rfl) rfl Tryz.ntmps133 (le_ rfl) (fun w0 M0 => ?_)
  refine WP.seq ?_
  refine WP.region ?_
  refine WL.op (asg (oc _)) (by decide) ?_
  refine WL.nl (.thn ?_)
  refine WP.seq ?_
  refine WP.seq ?_
  refine WP.region ?_
  refine WL.op (mv (ot rfl)) (by decide) ?_
  refine WL.op (notnil pt_p_extree_node (ot rfl)) (by decide) ?_
  refine WL.nl (.thn ?_)
  refine WP.condF rfl ?_
  refine WP.sk (.thn ?_)
  refine WP.seq ?_
  refine WP.region ?_
  refine WL.op (mv (ot rfl)) (by decide) ?_
  refine WL.op (call (c_n_first rl rx rr br hB.right) (.c (ot rfl) .n)) (by decide) ?_
  refine WL.op (mv (ot rfl)) (by decide) ?_
  refine WL.op (ex (ot rfl) rfl) (by decide) ?_
  refine WL.op (ex (ot rfl) rfl) (by decide) ?_
  refine WL.alloc zr_Extent rfl (by decide) fun b5 => ?_
  refine WL.store 0 rfl (ot rfl) (ot rfl) (.agg _) sz_Extent rfl (le_ rfl) ?_
  refine WL.op (asg (ot rfl)) (by decide) ?_
  refine WL.nl (.thn ?_)
  refine WP.seq ?_
  refine WP.region ?_
  refine WL.op (mv (ot rfl)) (by decide) ?_
  refine WL.op (lbs 0 rfl ag_Extent (ot rfl) (le_ rfl)) (by decide) ?_
  refine WL.op (mv (ot rfl)) (by decide) ?_
  refine WL.op (call (c_x_join (r := (first rl rx rr).2) bl f2 hB') (.c (ot rfl) (.c (ot rfl) (.c (ot rfl) .n)))) (by decide) ?_
  refine WL.op (asg (ot rfl)) (by decide) ?_
  refine WL.nl (.thn ?_)
  exact WP.rt (.r1 rfl rfl (imp_eq rfl))
theorem c_n_split_0 (at_ : Int) : PureC Tryz.prog 126 [tree .nil, I at_] (tup [tree (split .nil at_).1, tree (split .nil at_).2]) := by
  refine PureC.of_wp Tryz.func126 (by kernel_rfl) rfl Tryz.ntmps126 (le_ rfl) (fun w0 M0 => ?_)
  refine WP.seq ?_
  refine WP.region ?_
  refine WL.op (asg (oc _)) (by decide) ?_
  refine WL.op (asg (oc _)) (by decide) ?_
  refine WL.nl (.thn ?_)
  refine WP.seq ?_
  refine WP.seq ?_
  refine WP.region ?_
  refine WL.op (mv (ot rfl)) (by decide) ?_
  refine WL.op (isnil pt_p_extree_node (ot rfl)) (by decide) ?_
  refine WL.nl (.thn ?_)
  refine WP.condT rfl ?_
  refine WP.seq ?_
  refine WP.region ?_
  refine WL.op (asg (oc _)) (by decide) ?_
  refine WL.op (asg (oc _)) (by decide) ?_
  refine WL.nl (.thn ?_)
  exact WP.rt (.rthn (.rN rfl (.cons (.tm rfl) (.cons (.tm rfl) .nil)) (le_ rfl) (imp_eq rfl)))

theorem Ok.node {lo : Int} {l r : Tr} {x : X} (h : Ok lo (Tr.node l x r).list) : Ok lo l.list ∧ lo ≤ x.a ∧ 1 ≤ x.n ∧ 0 ≤ x.s ∧ x.a + x.n ≤ 65536 ∧ x.s + x.n ≤ 65536 ∧ Ok (x.a + x.n) r.list := by
  have h : Ok lo (l.list ++ x :: r.list) := h
  have h2 := h.append_right
  exact ⟨h.append_left, h2.1, h2.2.1, h2.2.2.1, h2.2.2.2.1, h2.2.2.2.2.1, h2.2.2.2.2.2⟩
theorem split_l {l r : Tr} {x : X} {at_ : Int} (h : at_ ≤ x.a) : split (.node l x r) at_ = ((split l at_).1, join (split l at_).2 x r) := by
  conv => lhs; unfold split
  exact if_pos h
theorem split_r {l r : Tr} {x : X} {at_ : Int} (h0 : ¬ at_ ≤ x.a) (h : x.a + x.n ≤ at_) : split (.node l x r) at_ = (join l x (split r at_).1, (split r at_).2) := by
  conv => lhs; unfold split
  exact (if_neg h0).trans (if_pos h)
theorem split_m {l r : Tr} {x : X} {at_ : Int} (h0 : ¬ at_ ≤ x.a) (h : ¬ x.a + x.n ≤ at_) : split (.node l x r) at_ = (join l (x.head (at_ - x.a)) .nil, join .nil (x.tail at_ (at_ - x.a)) r) := by
  conv => lhs; unfold split
  exact (if_neg h0).trans (if_neg h)

theorem c_n_split : ∀ (t : Tr) (at_ : Int), t.Bal → Ok 0 t.list → PureC Tryz.prog 126 [tree t, I at_] (tup [tree (split t at_).1, tree (split t at_).2]) := by
  intro t
  induction t with
  | nil => intro at_ _ _; exact c_n_split_0 at_
  | node l x r ihl ihr =>
  intro at_ hb ho
  obtain ⟨b1, b2, _, _⟩ := hb
  obtain ⟨oL, x1, x2, x3, x4, x5, oR⟩ := Ok.node ho
  have eL := Ok.ends (A := l.list) (y := x) (B := r.list) ho
  have sL := oL.starts
  have sR := oR.starts
  have hB : Bd (l.list ++ x :: r.list) := ho.bd (Int.le_refl 0)
  refine PureC.of_wp Tryz.func126 (by kernel_rfl) rfl Tryz.ntmps126 (le_ rfl) (fun w0 M0 => ?_)
  refine WP.seq ?_
  refine WP.region ?_
  refine WL.op (asg (oc _)) (by decide) ?_
  refine WL.op (asg (oc _)) (by decide) ?_
  refine WL.nl (.thn ?_)
  refine WP.seq ?_
  refine WP.seq ?_
  refine WP.region ?_
  refine WL.op (mv (ot rfl)) (by decide) ?_
  refine WL.op (notnil pt_p_extree_node (ot rfl)) (by decide) ?_
  refine WL.nl (.thn ?_)
  refine WP.condF rfl ?_
  refine WP.sk (.thn ?_)
  refine WP.seq ?_
  refine WP.seq ?_
  refine WP.region ?_
  refine WL.op (mv (ot rfl)) (by decide) ?_
  refine WL.op (nc (ot rfl)) (by decide) ?_
  refine WL.op (fa fo_node_0 (ot rfl)) (by decide) ?_
  refine WL.op (ls ag_Extent (ot rfl) (le_ rfl)) (by decide) ?_
  refine WL.alloc zr_Extent rfl (by decide) fun b6 => ?_
  refine WL.store 0 rfl (ot rfl) (ot rfl) (.agg _) sz_Extent rfl (le_ rfl) ?_
  refine WL.nl (.thn ?_)
  refine WP.block ?_
  refine WP.seq ?_
  refine WP.region ?_
  refine WL.op (mv (ot rfl)) (by decide) ?_
  refine WL.op (fv fo_Extent_0 (ot rfl)) (by decide) ?_
  refine WL.op (lb 0 rfl sc_int (ot rfl) rfl) (by decide) ?_
  refine WL.op (leq (ot rfl) (ot rfl)) (by decide) ?_
  refine WL.op (asg (ot rfl)) (by decide) ?_
  refine WL.nl (.thn ?_)
  refine WP.cond rfl (fun hc => ?_) (fun hc => ?_)
  · skip
    have h1 : at_ ≤ x.a := of_decide_eq_true hc
    obtain ⟨p1, p2, p3, p4⟩ := split_spec l at_ b1 oL
    have hJ : Bd ((split l at_).2.list ++ x :: r.list) := by
      rw [p2]
      refine (?_ : Ok 0 _).bd (Int.le_refl 0)
      have e : parts l.list at_ 65536 ++ x :: r.list = parts (l.list ++ x :: r.list) at_ 65536 := by
        rw [parts_mid, parts_all (L := [x]) (by simp; omega), parts_all (L := r.list) (fun y hy => by have := sR y hy; omega)]; rfl
      rw [e]; exact ok_parts ho (by omega)
    refine WP.seq ?_
    refine WP.region ?_
    refine WL.op (mv (ot rfl)) (by decide) ?_
    refine WL.op (nc (ot rfl)) (by decide) ?_
    refine WL.op (fa fo_node_1 (ot rfl)) (by decide) ?_
    refine WL.op (ld sc_p_extree_node (ot rfl)) (by decide) ?_
    refine WL.op (mv (ot rfl)) (by decide) ?_
    refine WL.op (call (ihl at_ b1 oL) (.c (ot rfl) (.c (ot rfl) .n))) (by decide) ?_
    refine WL.op (mv (ot rfl)) (by decide) ?_
    refine WL.op (ex (ot rfl) rfl) (by decide) ?_
    refine WL.op (ex (ot rfl) rfl) (by decide) ?_
    refine WL.op (asg (ot rfl)) (by decide) ?_
    refine WL.op (asg (ot rfl)) (by decide) ?_
    refine WL.nl (.thn ?_)
    refine WP.seq ?_
    refine WP.draws ?_
    refine RG.op (mv (ot rfl)) ?_
    refine RG.op (mv (ot rfl)) ?_
    refine RG.op (lbs 0 rfl ag_Extent (ot rfl) (le_ rfl)) ?_
    refine RG.op (mv (ot rfl)) ?_
    refine RG.op (nc (ot rfl)) ?_
    refine RG.op (fa fo_node_2 (ot rfl)) ?_
    refine RG.op (ld sc_p_extree_node (ot rfl)) ?_
    refine RG.op (call (c_x_join (l := (split l at_).2) (r := r) p4 b2 hJ) (.c (ot rfl) (.c (ot rfl) (.c (ot rfl) .n)))) ?_
    refine RG.op (asg (ot rfl)) ?_
    refine RG.op (asg (ot rfl)) ?_
    refine RG.fin HM (by kernel_rfl) ?_
    show WL _ _ _ _ _ _ _ _ _
    refine WL.nl (.thn ?_)
    exact WP.rt (.rblk (.rthn (.rN rfl (.cons (.tm rfl) (.cons (.tm rfl) .nil)) (le_ rfl) (imp_eq (by rw [split_l h1])))))
  · skip
    have h0 : ¬ at_ ≤ x.a := of_decide_eq_false hc
    refine WP.seq ?_
    refine WP.region ?_
    refine WL.op (mv (ot rfl)) (by decide) ?_
    refine WL.op (fv fo_Extent_0 (ot rfl)) (by decide) ?_
    refine WL.op (lb 0 rfl sc_int (ot rfl) rfl) (by decide) ?_
    refine WL.op (fv fo_Extent_1 (ot rfl)) (by decide) ?_
    refine WL.op (lb 0 rfl sc_int (ot rfl) rfl) (by decide) ?_
    refine WL.op (add (ot rfl) (ot rfl) (by omega)) (by decide) ?_
    refine WL.op (geq (ot rfl) (ot rfl)) (by decide) ?_
    refine WL.op (asg (ot rfl)) (by decide) ?_
    refine WL.nl (.thn ?_)
    refine WP.cond rfl (fun hc => ?_) (fun hc => ?_)
    · skip
      have h2 : x.a + x.n ≤ at_ := of_decide_eq_true hc
      obtain ⟨p1, p2, p3, p4⟩ := split_spec r at_ b2 (oR.lower (by omega))
      have hJ : Bd (l.list ++ x :: (split r at_).1.list) := by
        rw [p1]
        refine (?_ : Ok 0 _).bd (Int.le_refl 0)
        have e : l.list ++ x :: parts r.list 0 at_ = parts (l.list ++ x :: r.list) 0 at_ := by
          rw [parts_mid, parts_all (L := l.list) (fun y hy => by have := sL y hy; have := eL y hy; omega), parts_all (L := [x]) (by simp; omega)]; rfl
        rw [e]; exact ok_parts ho (by omega)
      refine WP.seq ?_
      refine WP.region ?_
      refine WL.op (mv (ot rfl)) (by decide) ?_
      refine WL.op (nc (ot rfl)) (by decide) ?_
      refine WL.op (fa fo_node_2 (ot rfl)) (by decide) ?_
      refine WL.op (ld sc_p_extree_node (ot rfl)) (by decide) ?_
      refine WL.op (mv (ot rfl)) (by decide) ?_
      refine WL.op (call (ihr at_ b2 (oR.lower (by omega))) (.c (ot rfl) (.c (ot rfl) .n))) (by decide) ?_
      refine WL.op (mv (ot rfl)) (by decide) ?_
      refine WL.op (ex (ot rfl) rfl) (by decide) ?_
      refine WL.op (ex (ot rfl) rfl) (by decide) ?_
      refine WL.op (asg (ot rfl)) (by decide) ?_
      refine WL.op (asg (ot rfl)) (by decide) ?_
      refine WL.nl (.thn ?_)
      refine WP.seq ?_
      refine WP.draws ?_
      refine RG.op (mv (ot rfl)) ?_
      refine RG.op (nc (ot rfl)) ?_
      refine RG.op (fa fo_node_1 (ot rfl)) ?_
      refine RG.op (ld sc_p_extree_node (ot rfl)) ?_
      refine RG.op (lbs 0 rfl ag_Extent (ot rfl) (le_ rfl)) ?_
      refine RG.op (mv (ot rfl)) ?_
      refine RG.op (call (c_x_join (l := l) (r := (split r at_).1) b1 p3 hJ) (.c (ot rfl) (.c (ot rfl) (.c (ot rfl) .n)))) ?_
      refine RG.op (mv (ot rfl)) ?_
      refine RG.op (asg (ot rfl)) ?_
      refine RG.op (asg (ot rfl)) ?_
      refine RG.fin HM (by kernel_rfl) ?_
      show WL _ _ _ _ _ _ _ _ _
      refine WL.nl (.thn ?_)
      exact WP.rt (.rblk (.rthn (.rN rfl (.cons (.tm rfl) (.cons (.tm rfl) .nil)) (le_ rfl) (imp_eq (by rw [split_r h0 h2])))))
    · skip
      have h00 : ¬ x.a + x.n ≤ at_ := of_decide_eq_false hc
      have hJ1 : Bd (l.list ++ (x.head (at_ - x.a)) :: Tr.nil.list) := by
        have h5 := hB.mid.1.2.1; have h6 := hB.mid.1.2.2; have h7 := hB.2.1; have h8 := hB.2.2; have h9 := sumN_nn hB.mid.2.2.1
        rw [List.length_append, List.length_cons] at h7
        rw [sumN_append, sumN] at h8
        refine ⟨fun y hy => ?_, by simp [Tr.list]; omega, by rw [sumN_append]; simp only [sumN, Tr.list, X.head]; omega⟩
        rcases List.mem_append.1 hy with hy | hy
        · exact hB.mid.1.1 y hy
        · simp [Tr.list] at hy; subst hy; simp only [X.head]; omega
      have hJ2 : Bd (Tr.nil.list ++ (x.tail at_ (at_ - x.a)) :: r.list) := by
        have h5 := hB.mid.2.2.2.1; have h6 := hB.mid.2.2.2.2; have h7 := hB.2.1; have h8 := hB.2.2; have h9 := sumN_nn hB.mid.1.1
        rw [List.length_append, List.length_cons] at h7
        rw [sumN_append, sumN] at h8
        refine ⟨fun y hy => ?_, by simp [Tr.list]; omega, by simp only [sumN, Tr.list, X.tail, List.nil_append]; omega⟩
        simp only [Tr.list, List.nil_append, List.mem_cons] at hy
        rcases hy with hy | hy
        · subst hy; simp only [X.tail]; omega
        · exact hB.mid.2.2.1 y hy
      refine WP.sk (.blk (.thn ?_))
      refine WP.seq ?_
      refine WP.region ?_
      refine WL.op (mv (ot rfl)) (by decide) ?_
      refine WL.op (mv (ot rfl)) (by decide) ?_
      refine WL.op (nc (ot rfl)) (by decide) ?_
      refine WL.op (fa fo_node_0 (ot rfl)) (by decide) ?_
      refine WL.op (fa fo_Extent_0 (ot rfl)) (by decide) ?_
      refine WL.op (ld sc_int (ot rfl)) (by decide) ?_
      refine WL.op (sub (ot rfl) (ot rfl) (by omega)) (by decide) ?_
      refine WL.op (asg (ot rfl)) (by decide) ?_
      refine WL.nl (.thn ?_)
      refine WP.seq ?_
      refine WP.draws ?_
      refine RG.op (mv (ot rfl)) ?_
      refine RG.op (nc (ot rfl)) ?_
      refine RG.op (fa fo_node_0 (ot rfl)) ?_
      refine RG.op (fa fo_Extent_0 (ot rfl)) ?_
      refine RG.op (ld sc_int (ot rfl)) ?_
      refine RG.op (mv (ot rfl)) ?_
      refine RG.op (mv (ot rfl)) ?_
      refine RG.op (nc (ot rfl)) ?_
      refine RG.op (fa fo_node_0 (ot rfl)) ?_
      refine RG.op (fa fo_Extent_2 (ot rfl)) ?_
      refine RG.op (ld sc_int (ot rfl)) ?_
      refine RG.op (bld zr_Extent rfl ps_Extent (.c (ot rfl) (.leaf (.val rfl)) pl_Extent_0 rfl (le_ rfl) (.c (ot rfl) (.leaf (.val rfl)) pl_Extent_1 rfl (le_ rfl) (.c (ot rfl) (.leaf (.val rfl)) pl_Extent_2 rfl (le_ rfl) .n)))) ?_
      refine RG.bx (.alloc zr_Extent rfl) ?_
      refine RG.fin HM (by kernel_rfl) ?_
      intro b12
      show WL _ _ _ _ _ _ _ _ _
      refine WL.store 0 rfl (ot rfl) (ot rfl) (.agg _) sz_Extent rfl (le_ rfl) ?_
      refine WL.nl (.thn ?_)
      refine WP.seq ?_
      refine WP.draws ?_
      refine RG.op (mv (ot rfl)) ?_
      refine RG.op (mv (ot rfl)) ?_
      refine RG.op (nc (ot rfl)) ?_
      refine RG.op (fa fo_node_0 (ot rfl)) ?_
      refine RG.op (fa fo_Extent_1 (ot rfl)) ?_
      refine RG.op (ld sc_int (ot rfl)) ?_
      refine RG.op (mv (ot rfl)) ?_
      refine RG.op (sub (ot rfl) (ot rfl) (by omega)) ?_
      refine RG.op (mv (ot rfl)) ?_
      refine RG.op (nc (ot rfl)) ?_
      refine RG.op (fa fo_node_0 (ot rfl)) ?_
      refine RG.op (fa fo_Extent_2 (ot rfl)) ?_
      refine RG.op (ld sc_int (ot rfl)) ?_
      refine RG.op (mv (ot rfl)) ?_
      refine RG.op (add (ot rfl) (ot rfl) (by omega)) ?_
      refine RG.op (bld zr_Extent rfl ps_Extent (.c (ot rfl) (.leaf (.val rfl)) pl_Extent_0 rfl (le_ rfl) (.c (ot rfl) (.leaf (.val rfl)) pl_Extent_1 rfl (le_ rfl) (.c (ot rfl) (.leaf (.val rfl)) pl_Extent_2 rfl (le_ rfl) .n)))) ?_
      refine RG.bx (.alloc zr_Extent rfl) ?_
      refine RG.fin HM (by kernel_rfl) ?_
      intro b13
      show WL _ _ _ _ _ _ _ _ _
      refine WL.store 0 rfl (ot rfl) (ot rfl) (.agg _) sz_Extent rfl (le_ rfl) ?_
      refine WL.nl (.thn ?_)
      refine WP.seq ?_
      refine WP.draws ?_
      refine RG.op (mv (ot rfl)) ?_
      refine RG.op (nc (ot rfl)) ?_
      refine RG.op (fa fo_node_1 (ot rfl)) ?_
      refine RG.op (ld sc_p_extree_node (ot rfl)) ?_
      refine RG.op (lbs 1 rfl ag_Extent (ot rfl) (le_ rfl)) ?_
      refine RG.op (call (c_x_join (l := l) (r := .nil) b1 bal_nil hJ1) (.c (ot rfl) (.c (ot rfl) (.c (oc _) .n)))) ?_
      refine RG.op (lbs 0 rfl ag_Extent (ot rfl) (le_ rfl)) ?_
      refine RG.op (mv (ot rfl)) ?_
      refine RG.op (nc (ot rfl)) ?_
      refine RG.op (fa fo_node_2 (ot rfl)) ?_
      refine RG.op (ld sc_p_extree_node (ot rfl)) ?_
      refine RG.op (call (c_x_join (l := .nil) (r := r) bal_nil b2 hJ2) (.c (oc _) (.c (ot rfl) (.c (ot rfl) .n)))) ?_
      refine RG.op (asg (ot rfl)) ?_
      refine RG.op (asg (ot rfl)) ?_
      refine RG.fin HM (by kernel_rfl) ?_
      show WL _ _ _ _ _ _ _ _ _
      refine WL.nl (.thn ?_)
      exact WP.rt (.rN rfl (.cons (.tm rfl) (.cons (.tm rfl) .nil)) (le_ rfl) (imp_eq (by rw [split_m h0 h00]; rfl)))
end Go.Proofs.YtjglgfnhgehpeaaGreat

/- The list of a tree: a walk with a closure. -/
set_option linter.unusedVariables false
set_option linter.unusedSimpArgs false
set_option maxRecDepth 4000
namespace Go.Proofs.YtjglgfnhgehpeaaGreat
open Go.RowKit Go.Fw Go.Xt

def FX (x : X) : List Rp := [I x.a, I x.n, I x.s]
abbrev B2 (B : Nat) (y : Value × List X) : List Box := [.r y.1 65 3 y.2.length (y.2.flatMap FX), .b B 51 [val y.1]]
theorem TupAll.app {w : World} {M : Mask} : ∀ {rs : List Rp} {vs : List Value} {rs' : List Rp} {vs' : List Value}, TupAll w M rs vs → TupAll w M rs' vs' → TupAll w M (rs ++ rs') (vs ++ vs')
  | [], [], _, _, _, h => h
  | _ :: _, _ :: _, _, _, h, h' => ⟨h.1, TupAll.app h.2 h'⟩
theorem e_list_1 : Enters Tryz.prog 160 := enters_of Tryz.func160 rfl rfl
theorem e_walk : Enters Tryz.prog 136 := enters_of Tryz.func136 rfl rfl
abbrev fvl (B : Nat) : Value := .func (.func 160) #[] #[.pointer (some ⟨B, 0, none⟩)]

theorem l_list_1 {w0 : World} {M0 : Mask} {B : Nat} {v : Value} {pre : List X} {x : X} {w : World} {vs : List Value} (hm : Mem w0 M0 (B2 B (v, pre)) w) (hvs : TupAll w (mkM M0 (B2 B (v, pre))) [ext x, val (.pointer (some ⟨B, 0, none⟩))] vs) (hl : pre.length < 100000) :
    Calls Tryz.prog 160 vs.toArray w (Lent w0 M0 (B2 B (v, pre)) (B2 B) (fun y => y.2 = pre ++ [x]) (fun _ => val (.bool true)) w) := by
  refine calls_lent Tryz.func160 rfl Tryz.ntmps160 (le_ rfl) hm hvs ?_
  refine WP.seq ?_
  refine WP.region ?_
  refine WL.box (ot rfl) (.agg _) (by decide) fun b2 => ?_
  refine WL.op (asg (oc _)) (by decide) ?_
  refine WL.nl (.thn ?_)
  refine WP.seq ?_
  refine WP.region ?_
  refine WL.op (lb 2 rfl sc_s_api_Extent (ot rfl) rfl) (by decide) ?_
  refine WL.op (lbs 0 rfl ag_Extent (ot rfl) (le_ rfl)) (by decide) ?_
  refine WL.op (bsl1 (f := FX) (el := x) ei_s_api_Extent (ot rfl) (.agg _) rfl (by decide) (by decide)) (by decide) ?_
  refine WL.app 1 rfl ei_s_api_Extent (by decide) (ot rfl) (ot rfl) (by simp) (fun _ => rfl) (by simp; omega) (by simp; omega) (by decide) fun v7 h7 => ?_
  refine WL.store 2 rfl (ot rfl) (ot rfl) (.leaf (.val h7)) sz_s_api_Extent rfl (le_ rfl) ?_
  refine WL.nl (.thn ?_)
  refine WP.seq ?_
  refine WP.region ?_
  refine WL.op (asg (oc _)) (by decide) ?_
  refine WL.nl (.thn ?_)
  exact WP.rt (Lead.lent (i := 3) rfl rfl rfl 1 (v7, pre ++ [x]) rfl (by simp [B2, setAt]) (imp _))
theorem l_walk_nil {w0 : World} {M0 : Mask} {B : Nat} {v : Value} {pre : List X} {w : World} {vs : List Value} (hm : Mem w0 M0 (B2 B (v, pre)) w) (hvs : TupAll w (mkM M0 (B2 B (v, pre))) [tree Tr.nil, val (fvl B)] vs) :
    Calls Tryz.prog 136 vs.toArray w (Lent w0 M0 (B2 B (v, pre)) (B2 B) (fun y => y.2 = pre ++ (Tr.nil).list) (fun _ => val (.bool true)) w) := by
  refine calls_lent Tryz.func136 rfl Tryz.ntmps136 (le_ rfl) hm hvs ?_
  refine WP.seq ?_
  refine WP.region ?_
  refine WL.op (asg (oc _)) (by decide) ?_
  refine WL.nl (.thn ?_)
  refine WP.seq ?_
  refine WP.region ?_
  refine WL.op (mv (ot rfl)) (by decide) ?_
  refine WL.op (isnil pt_p_extree_node (ot rfl) ) (by decide) ?_
  refine WL.op (mv (ot rfl)) (by decide) ?_
  refine WL.gF rfl rfl (by decide) (le_ rfl) ?_
  refine WL.gF rfl rfl (by decide) (le_ rfl) ?_
  refine WL.gF rfl rfl (by decide) (le_ rfl) ?_
  refine WL.gF rfl rfl (by decide) (le_ rfl) ?_
  refine WL.gF rfl rfl (by decide) (le_ rfl) ?_
  refine WL.gF rfl rfl (by decide) (le_ rfl) ?_
  refine WL.gF rfl rfl (by decide) (le_ rfl) ?_
  refine WL.gU rfl rfl (le_ rfl) ?_
  refine WL.gU rfl rfl (le_ rfl) ?_
  refine WL.gU rfl rfl (le_ rfl) ?_
  refine WL.gU rfl rfl (le_ rfl) ?_
  refine WL.gU rfl rfl (le_ rfl) ?_
  refine WL.gU rfl rfl (le_ rfl) ?_
  refine WL.gF rfl rfl (by decide) (le_ rfl) ?_
  refine WL.gF rfl rfl (by decide) (le_ rfl) ?_
  refine WL.gU rfl rfl (le_ rfl) ?_
  refine WL.gU rfl rfl (le_ rfl) ?_
  refine WL.gU rfl rfl (le_ rfl) ?_
  refine WL.gU rfl rfl (le_ rfl) ?_
  refine WL.gU rfl rfl (le_ rfl) ?_
  refine WL.gU rfl rfl (le_ rfl) ?_
  refine WL.gF rfl rfl (by decide) (le_ rfl) ?_
  refine WL.op (pickT (ot rfl) (oc _)) (by decide) ?_
  refine WL.op (asg (ot rfl)) (by decide) ?_
  refine WL.nl (.thn ?_)
  exact WP.rt (Lead.lent (i := 4) rfl rfl rfl 0 (v, pre) (by simp [Tr.list]) rfl (imp _))
theorem l_walk (t : Tr) {w0 : World} {M0 : Mask} {B : Nat} {v : Value} {pre : List X} {w : World} {vs : List Value} (hm : Mem w0 M0 (B2 B (v, pre)) w) (hvs : TupAll w (mkM M0 (B2 B (v, pre))) [tree t, val (fvl B)] vs) (hl : pre.length + t.list.length ≤ 99999) :
    Calls Tryz.prog 136 vs.toArray w (Lent w0 M0 (B2 B (v, pre)) (B2 B) (fun y => y.2 = pre ++ (t).list) (fun _ => val (.bool true)) w) := by
  induction t generalizing v pre w vs with
  | nil => exact l_walk_nil hm hvs
  | node l x r ihl ihr =>
  have hl' : pre.length + l.list.length + 1 + r.list.length ≤ 99999 := by simpa [Tr.list, Nat.add_assoc, Nat.add_comm, Nat.add_left_comm] using hl
  refine calls_lent Tryz.func136 rfl Tryz.ntmps136 (le_ rfl) hm hvs ?_
  refine WP.seq ?_
  refine WP.region ?_
  refine WL.op (asg (oc _)) (by decide) ?_
  refine WL.nl (.thn ?_)
  refine WP.seq ?_
  refine WP.region ?_
  refine WL.op (mv (ot rfl)) (by decide) ?_
  refine WL.op (notnil pt_p_extree_node (ot rfl) ) (by decide) ?_
  refine WL.op (mv (ot rfl)) (by decide) ?_
  refine WL.gT rfl rfl ?_ -- g2
  refine WL.op (mv (ot rfl)) (by decide) ?_
  refine WL.gT rfl rfl ?_ -- g2
  refine WL.op (nc (ot rfl)) (by decide) ?_
  refine WL.gT rfl rfl ?_ -- g2
  refine WL.op (fa fo_node_1 (ot rfl)) (by decide) ?_
  refine WL.gT rfl rfl ?_ -- g2
  refine WL.op (ld sc_p_extree_node (ot rfl)) (by decide) ?_
  refine WL.gT rfl rfl ?_ -- g2
  refine WL.op (mv (ot rfl)) (by decide) ?_
  refine WL.gT rfl rfl ?_ -- g2
  refine WL.lent (bx := B2 B) (bs := B2 B (v, pre)) (I := fun y => y.2 = pre ++ l.list) (R := fun _ => val (.bool true)) (fun a w hok => ⟨_, _, run_callF (xs := [_, _]) (Rs := []) e_walk a w, ihl (w := w) hok.mem ((OFs.c (ot rfl) (.c (ot rfl) .n)).ok hok) (by omega)⟩) (by decide) ?_
  rintro ⟨v1, pre1⟩ h1
  have h1 : pre1 = pre ++ l.list := h1
  subst h1
  refine WL.gT rfl rfl ?_ -- g2
  refine WL.op (mv (ot rfl)) (by decide) ?_
  refine WL.gT rfl rfl ?_ -- g9
  refine WL.op (mv (ot rfl)) (by decide) ?_
  refine WL.gT rfl rfl ?_ -- g9
  refine WL.op (mv (ot rfl)) (by decide) ?_
  refine WL.gT rfl rfl ?_ -- g9
  refine WL.op (nc (ot rfl)) (by decide) ?_
  refine WL.gT rfl rfl ?_ -- g9
  refine WL.op (fa fo_node_0 (ot rfl)) (by decide) ?_
  refine WL.gT rfl rfl ?_ -- g9
  refine WL.op (ls ag_Extent (ot rfl) (le_ rfl)) (by decide) ?_
  refine WL.gT rfl rfl ?_ -- g9
  refine WL.lent (bx := B2 B) (bs := B2 B (v1, pre ++ l.list)) (I := fun y => y.2 = (pre ++ l.list) ++ [x]) (R := fun _ => val (.bool true)) (fun a w hok => ?_) (by decide) ?_
  · have h1 : a.tmps.getD 15 undef = fvl B := hok.facts 15 _ rfl
    have h2 : (ext x).h (a.tmps.getD 19 undef) w _ := hok.facts 19 _ rfl
    have h3 := l_list_1 (w := w) (x := x) (v := v1) (pre := pre ++ l.list) (B := B) (vs := [a.eval (.tmp 19), .pointer (some ⟨B, 0, none⟩)]) hok.mem ⟨h2, rfl, trivial⟩ (by simp; omega)
    have e : (([Operand.tmp 19].map a.eval).toArray ++ #[Value.pointer (some ⟨B, 0, none⟩)]) = [a.eval (.tmp 19), .pointer (some ⟨B, 0, none⟩)].toArray := by simp
    exact ⟨_, _, run_callV (xs := [_]) e_list_1 a w h1, by rw [e]; exact h3⟩
  rintro ⟨v2, pre2⟩ h2
  have h2 : pre2 = (pre ++ l.list) ++ [x] := h2
  subst h2
  refine WL.gT rfl rfl ?_ -- g2
  refine WL.op (pickT (ot rfl) (ot rfl)) (by decide) ?_
  refine WL.gT rfl rfl ?_ -- g2
  refine WL.op (mv (ot rfl)) (by decide) ?_
  refine WL.gT rfl rfl ?_ -- g17
  refine WL.op (mv (ot rfl)) (by decide) ?_
  refine WL.gT rfl rfl ?_ -- g17
  refine WL.op (nc (ot rfl)) (by decide) ?_
  refine WL.gT rfl rfl ?_ -- g17
  refine WL.op (fa fo_node_2 (ot rfl)) (by decide) ?_
  refine WL.gT rfl rfl ?_ -- g17
  refine WL.op (ld sc_p_extree_node (ot rfl)) (by decide) ?_
  refine WL.gT rfl rfl ?_ -- g17
  refine WL.op (mv (ot rfl)) (by decide) ?_
  refine WL.gT rfl rfl ?_ -- g17
  refine WL.lent (bx := B2 B) (bs := B2 B (v2, (pre ++ l.list) ++ [x])) (I := fun y => y.2 = ((pre ++ l.list) ++ [x]) ++ r.list) (R := fun _ => val (.bool true)) (fun a w hok => ⟨_, _, run_callF (xs := [_, _]) (Rs := []) e_walk a w, ihr (w := w) hok.mem ((OFs.c (ot rfl) (.c (ot rfl) .n)).ok hok) (by simp; omega)⟩) (by decide) ?_
  rintro ⟨v3, pre3⟩ h3
  have h3 : pre3 = ((pre ++ l.list) ++ [x]) ++ r.list := h3
  subst h3
  refine WL.gT rfl rfl ?_ -- g2
  refine WL.op (pickT (ot rfl) (ot rfl)) (by decide) ?_
  refine WL.op (pickF (ot rfl) (ot rfl)) (by decide) ?_
  refine WL.op (asg (ot rfl)) (by decide) ?_
  refine WL.nl (.thn ?_)
  exact WP.rt (Lead.lent (i := 4) rfl rfl rfl 0 (v3, ((pre ++ l.list) ++ [x]) ++ r.list) (by simp [Tr.list]) rfl (imp _))
theorem c_n_list (t : Tr) (hl : t.list.length ≤ 99999) : PureC Tryz.prog 131 [tree t] (sl 3 FX t.list) := by
  refine PureC.of_wp Tryz.func131 (by kernel_rfl) rfl Tryz.ntmps131 (le_ rfl) (fun w0 M0 => ?_)
  refine WP.seq ?_
  refine WP.region ?_
  refine WL.op (asg (oc _)) (by decide) ?_
  refine WL.nl (.thn ?_)
  refine WP.seq ?_
  refine WP.region ?_
  refine WL.alloc zr_s_api_Extent rfl (by decide) fun b3 => ?_
  refine WL.nl (.thn ?_)
  refine WP.seq ?_
  refine WP.region ?_
  refine WL.nilrow 65 3 ?_
  refine WL.op (mv (ot rfl)) (by decide) ?_
  refine WL.op (mfn rfl) (by decide) ?_
  refine WL.lent (bx := B2 b3) (bs := B2 b3 (nilS, [])) (I := fun y => y.2 = [] ++ t.list) (R := fun _ => val (.bool true)) (fun a w hok => ⟨_, _, run_callF (xs := [_, _]) (Rs := []) e_walk a w, l_walk t (w := w) hok.mem ((OFs.c (ot rfl) (.c (ot rfl) .n)).ok hok) (by simpa using hl)⟩) (by decide) ?_
  rintro ⟨v1, pre1⟩ h1
  have h1 : pre1 = [] ++ t.list := h1
  subst h1
  refine WL.nl (.thn ?_)
  refine WP.seq ?_
  refine WP.region ?_
  refine WL.op (lb 1 rfl sc_s_api_Extent (ot rfl) rfl) (by decide) ?_
  refine WL.op (asg (ot rfl)) (by decide) ?_
  refine WL.freeze 0 2 FX t.list rfl (fun _ => rfl) (by simp) (by simp) rfl ?_
  refine WL.nl (.thn ?_)
  exact WP.rt (.r1 rfl rfl (imp _))
end Go.Proofs.YtjglgfnhgehpeaaGreat

/- The iterator of a tree: a walk whose 'yield' is a round of the caller's loop. -/
namespace Go.Proofs.YtjglgfnhgehpeaaGreat
open Go.RowKit Go.Shelf Go.Fw Go.Xt
set_option linter.unusedVariables false
set_option linter.unusedSimpArgs false
attribute [local go_sem] Oper.semAt_some
theorem room_of_none {F : Fence} (hd : F.depth = none) (k : Nat) : F.room k := fun d h => by rw [hd] at h; cases h
theorem RoundIn.anyDepth {F : Fence} (hd : F.depth = none) {m m' : Nat} {P : Program} {l : Nat} {f : FuncId} {tmps : Array Value} {assign body : Code} {w : World} {R : Ending → World → Prop}
    (h : RoundIn F m P l f tmps assign body w R) : RoundIn F m' P l f tmps assign body w R := ⟨h.1, fun c cs _ => h.2 c cs (room_of_none hd _)⟩
theorem YieldAt.anyDepth {F : Fence} (hd : F.depth = none) {m : Nat} (m' : Nat) {P : Program} {l : Nat} {args : Array Value} {W : World} {R : Ending → World → Prop} (h : YieldAt F m P l args W R) : YieldAt F m' P l args W R := by
  obtain ⟨fn, tmps, assign, body, hy, hR⟩ := h
  exact ⟨fn, tmps, assign, body, hy, RoundIn.anyDepth hd hR⟩
theorem skip_fn {F : Fence} {n : Nat} {P : Program} {ops : Array Oper} {Q : Exit → Act → World → Prop} {a : Act} {w : World} {rest : List Oper} {o : Oper} {f : FuncId} (hw : Region.wanted o (yielded ops a.tmps) = false) (ha : o.about P w a.eval = some f) (hf : F.fn f) (h : wpListIn F n P ops Q rest (a.put o.dst undef) w) : wpListIn F n P ops Q (o :: rest) a w := by
  simp only [wpListIn, hw]
  exact ⟨fun g hg => (by rw [ha] at hg; cases hg; exact hf), h⟩
/-- what lies outside a mask is kept -/
abbrev KM (M : Mask) (W W' : World) : Prop := Fw.Kp W M W' M
theorem KM.cell {M : Mask} {W W' : World} (h : KM M W W') {b o : Nat} (hb : b < W.heap.size ∧ ¬ M b) : W'.cell? ⟨b, o, none⟩ = W.cell? ⟨b, o, none⟩ := World.cell?_of_block (w := W) (a := ⟨b, o, none⟩) (h.block b hb.1 hb.2)
/-- a tree that no round writes -/
def IsT (M : Mask) (W : World) (p : Option Addr) (t : Tr) : Prop := (tree t).h (.pointer p) W M
theorem IsT.keep {M : Mask} {A B : World} (h : KM M A B) {p : Option Addr} {t : Tr} (ht : IsT M A p t) : IsT M B p t := Rp.keep _ ht h
theorem IsT.nil {M : Mask} {W : World} {p : Option Addr} (h : IsT M W p .nil) : p = none := by
  have h : Value.pointer p = .pointer none := h
  cases h; rfl
theorem tree_ptr {t : Tr} {v : Value} {W : World} {M : Mask} (h : (tree t).h v W M) : ∃ p, v = .pointer p := by
  cases t with
  | nil => exact ⟨none, h⟩
  | node l x r => obtain ⟨b, o, h, _⟩ := h; exact ⟨_, h⟩
theorem IsT.node {M : Mask} {W : World} {p : Option Addr} {l r : Tr} {x : X} (h : IsT M W p (.node l x r)) : ∃ b o pl pr, p = some ⟨b, o, none⟩ ∧ (b < W.heap.size ∧ ¬ M b) ∧
    W.cell? ⟨b, o, none⟩ = some (.int .i64 x.a) ∧ W.cell? ⟨b, o + 1, none⟩ = some (.int .i64 x.n) ∧ W.cell? ⟨b, o + 2, none⟩ = some (.int .i64 x.s) ∧ W.cell? ⟨b, o + 3, none⟩ = some (.pointer pl) ∧ W.cell? ⟨b, o + 4, none⟩ = some (.pointer pr) ∧ IsT M W pl l ∧ IsT M W pr r := by
  obtain ⟨b, o, h1, h2, h3, h4⟩ := h
  obtain ⟨⟨c0, g0, _, k0⟩, ⟨c1, g1, _, k1⟩, ⟨c2, g2, _, k2⟩, ⟨c3, g3, _, k3⟩, ⟨c4, g4, _, k4⟩, _⟩ := h4
  have k0 : c0 = _ := k0
  have k1 : c1 = _ := k1
  have k2 : c2 = _ := k2
  subst k0; subst k1; subst k2
  obtain ⟨pl, rfl⟩ := tree_ptr k3
  obtain ⟨pr, rfl⟩ := tree_ptr k4
  cases h1
  exact ⟨b, o, pl, pr, rfl, ⟨h2, h3⟩, g0, g1, g2, g3, g4, k3, k4⟩
abbrev encV (x : X) : Array Value := #[.agg #[.int .i64 x.a, .int .i64 x.n, .int .i64 x.s]]
theorem walk_in (F : Fence) (hd : F.depth = none) (h6 : F.fn 136) (hro : F.round = none) (l N : Nat) (M : Mask) (J Jx : List X → World → Prop)
    (hY : ∀ m pre x W, J pre W → pre.length < N → YieldAt F m Tryz.prog l (encV x) W fun e W' =>
      (e = .returned (.bool true) ∧ J (pre ++ [x]) W' ∧ KM M W W') ∨ (e = .returned (.bool false) ∧ Jx (pre ++ [x]) W')) (T : Tr) :
    ∀ (n : Nat) (p : Option Addr) (pre : List X) (W : World), IsT M W p T → J pre W → pre.length + T.list.length ≤ N →
      CallsIn F n Tryz.prog 136 #[.pointer p, .func (.yield l) #[] #[]] W fun e W' =>
        (e = .returned (.bool true) ∧ J (pre ++ T.list) W' ∧ KM M W W') ∨ (e = .returned (.bool false) ∧ ∃ q, q <+: T.list ∧ Jx (pre ++ q) W') := by
  induction T with
  | nil =>
    intro n p pre W ht hJ _
    obtain rfl := ht.nil
    refine callsIn_of_wp Tryz.func136 rfl h6 ?_ hro
    simp only [Tryz.ntmps136, List.size_toArray, List.length_cons, List.length_nil, Nat.reduceAdd, Nat.reduceSub, Array.replicate_succ, Array.replicate_zero, List.push_toArray, List.append_toArray, List.nil_append, List.cons_append]
    gi_wp2_with (first | refine wpListIn_skip (by rfl) (by rfl) ?_ | refine skip_fn (by rfl) (by rfl) h6 ?_)
    go_ret
    exact .inl ⟨rfl, by simpa [Tr.list] using hJ, Fw.Kp.refl _ _⟩
  | node tl x tr ihl ihr =>
    intro n p pre W ht hJ hN
    obtain ⟨b, o, pl, pr, rfl, hb, c0, c1, c2, c3, c4, hl, hr⟩ := ht.node
    have hdd : ∀ k : Nat, (F.depth.isSome = true → 1 ≤ k) := fun k h => by rw [hd] at h; cases h
    simp only [Tr.list, List.length_append, List.length_cons] at hN
    have hy2 : ∀ W1, J (pre ++ tl.list) W1 → KM M W W1 → YieldAt F (n - 1) Tryz.prog l (encV x) W1 fun e W2 =>
        (e = .returned (.bool true) ∧ J (pre ++ tl.list ++ [x]) W2 ∧ KM M W W2 ∧ W2.cell? ⟨b, o + 4, none⟩ = some (.pointer pr) ∧ IsT M W2 pr tr) ∨ (e = .returned (.bool false) ∧ Jx (pre ++ tl.list ++ [x]) W2) := fun W1 hJ1 hb1 =>
      YieldAt.mono (hY (n - 1) _ x W1 hJ1 (by simp; omega)) fun e W2 h => h.elim
        (fun ⟨he, hj, hb2⟩ => .inl ⟨he, hj, hb1.trans hb2, (KM.cell (hb1.trans hb2) hb).trans c4, hr.keep (hb1.trans hb2)⟩) .inr
    have ih1 := (ihl (n - 1) pl pre W hl hJ (by omega)).mono (R' := fun e W1 =>
        (e = .returned (.bool true) ∧ W1.cell? ⟨b, o, none⟩ = some (.int .i64 x.a) ∧ W1.cell? ⟨b, o + 1, none⟩ = some (.int .i64 x.n) ∧ W1.cell? ⟨b, o + 2, none⟩ = some (.int .i64 x.s) ∧ YieldAt F (n - 1) Tryz.prog l (encV x) W1 fun e W2 =>
          (e = .returned (.bool true) ∧ J (pre ++ tl.list ++ [x]) W2 ∧ KM M W W2 ∧ W2.cell? ⟨b, o + 4, none⟩ = some (.pointer pr) ∧ IsT M W2 pr tr) ∨ (e = .returned (.bool false) ∧ Jx (pre ++ tl.list ++ [x]) W2)) ∨
        (e = .returned (.bool false) ∧ ∃ q, q <+: tl.list ∧ Jx (pre ++ q) W1))
      (fun e W1 h => h.elim (fun ⟨he, hj, hb1⟩ => .inl ⟨he, (KM.cell hb1 hb).trans c0, (KM.cell hb1 hb).trans c1, (KM.cell hb1 hb).trans c2, hy2 W1 hj hb1⟩) .inr)
    clear hy2 ihl
    refine callsIn_of_wp Tryz.func136 rfl h6 ?_ hro
    simp only [Tryz.ntmps136, List.size_toArray, List.length_cons, List.length_nil, Nat.reduceAdd, Nat.reduceSub, Array.replicate_succ, Array.replicate_zero, List.push_toArray, List.append_toArray, List.nil_append, List.cons_append]
    gi_wp2_with (first
      | ((try refine ⟨hdd _, ?_⟩); gi_at_call 136; refine ih1.mono ?_; clear ih1; rintro e W1 (⟨rfl, c0', c1', c2', fn, tmps, assign, body, hy, hR⟩ | ⟨rfl, q, hq, hx1⟩))
      | ((try refine ⟨hdd _, ?_⟩); refine hR.mono ?_; clear hR; rintro e W2 (⟨rfl, hJ2, hb2, c4', hr2⟩ | ⟨rfl, hx2⟩))
      | ((try refine ⟨hdd _, ?_⟩); gi_at_call 136; refine (ihr (n - 1) pr _ _ hr2 hJ2 (by simp; omega)).mono ?_; rintro e W3 (⟨rfl, hJ3, hb3⟩ | ⟨rfl, q, hq, hx3⟩)))
    · go_ret
      exact .inl ⟨rfl, by simpa [Tr.list, List.append_assoc] using hJ3, hb2.trans hb3⟩
    · go_ret
      obtain ⟨r, hr'⟩ := hq
      exact .inr ⟨rfl, tl.list ++ x :: q, ⟨r, by simp [Tr.list, ← hr']⟩, by simpa [List.append_assoc] using hx3⟩
    · go_ret
      exact .inr ⟨rfl, tl.list ++ [x], ⟨tr.list, by simp [Tr.list]⟩, by simpa [List.append_assoc] using hx2⟩
    · refine ⟨fun _ h => (by cases h), ?_⟩
      gi_wp2
      go_ret
      exact .inr ⟨rfl, q, hq.trans (by simp [Tr.list]), hx1⟩

set_option maxHeartbeats 1000000 in
theorem all1_in (F : Fence) (hd : F.depth = none) (n : Nat) (h5 : F.fn 135) (h6 : F.fn 136) (hro : F.round = none) (l Bt Bo : Nat) (M : Mask) (p0 : Option Addr) (T : Tr) (J Jx : List X → World → Prop)
    (hY : ∀ pre x W, J pre W → pre.length < T.list.length → YieldAt F (n - 1) Tryz.prog l (encV x) W fun e W' =>
      (e = .returned (.bool true) ∧ J (pre ++ [x]) W' ∧ KM M W W') ∨ (e = .returned (.bool false) ∧ Jx (pre ++ [x]) W'))
    (W : World) (hBt : W.cell? ⟨Bt, Bo, none⟩ = some (.pointer p0)) (hT : IsT M W p0 T) (h0 : J [] W) :
    CallsIn F n Tryz.prog 135 #[.func (.yield l) #[] #[], .pointer (some ⟨Bt, Bo, none⟩)] W fun e W' => (∃ v, e = .returned v) ∧
      ((∃ ys, ys = T.list ∧ J ys W') ∨ (∃ pre, pre <+: T.list ∧ Jx pre W')) := by
  have hdd : ∀ k : Nat, (F.depth.isSome = true → 1 ≤ k) := fun k h => by rw [hd] at h; cases h
  have hp := walk_in F hd h6 hro l T.list.length M J Jx (fun m pre x W hj hl => YieldAt.anyDepth hd m (hY pre x W hj hl)) T (n - 1) p0 [] W hT h0 (by simp)
  refine callsIn_of_wp Tryz.func135 rfl h5 ?_ hro
  simp only [Tryz.ntmps135, List.size_toArray, List.length_cons, List.length_nil, Nat.reduceAdd, Nat.reduceSub, Array.replicate_succ, Array.replicate_zero, List.push_toArray, List.append_toArray, List.nil_append, List.cons_append]
  gi_wp2_with ((try refine ⟨hdd _, ?_⟩); gi_at_call 136; refine hp.mono ?_; clear hp; rintro e W1 (⟨rfl, hJ1, _⟩ | ⟨rfl, q, hq, hx⟩))
  · go_end0
    exact ⟨⟨_, rfl⟩, .inl ⟨_, rfl, by simpa using hJ1⟩⟩
  · go_end0
    exact ⟨⟨_, rfl⟩, .inr ⟨q, hq, by simpa using hx⟩⟩
/-- the iterator's promise -/
theorem all_stops (F : Fence) (hd : F.depth = none) (n : Nat) (h5 : F.fn 135) (h6 : F.fn 136) (hro : F.round = none) {Bt Bo : Nat} {M : Mask} {p0 : Option Addr} {T : Tr} {w : World} (hsz : ∀ b, w.heap.size ≤ b → M b)
    (hc : w.cell? ⟨Bt, Bo, none⟩ = some (.pointer p0)) (hBt : Bt < w.heap.size) (hT : IsT M w p0 T) :
    SeqStopsK F n Tryz.prog 135 #[.pointer (some ⟨Bt, Bo, none⟩)] encV (KM M) (fun ys => ys = T.list) (fun pre => pre <+: T.list) T.list.length w := fun l J Jx W hW _ _ hY h0 =>
  all1_in F hd n h5 h6 hro l Bt Bo M p0 T J Jx hY W ((hW.cell (p := ⟨Bt, Bo, none⟩) hBt).trans hc) (hT.keep ⟨fun b hb _ => hW.block b hb, hW.size, fun b hb => .inl hb⟩) h0
end Go.Proofs.YtjglgfnhgehpeaaGreat

/- ExtreeScript: what they compute. -/
import Derived.Test.YtjglgfnhgehpeaaLawD
set_option linter.unusedVariables false
set_option linter.unusedSimpArgs false
set_option maxRecDepth 4000
namespace Go.Proofs.Ytjglgfnhgehpeaa
open Go.RowKit Go.Fw Go.Xt
theorem c_w33_ExtreeScript {xs : List Sp} (hU : ∀ x ∈ xs, U8 x) : PureC Try.prog 8 [sl 4 FS xs] (val (.bool true)) := by
  refine PureC.of_wp Try.func8 (by kernel_rfl) rfl Try.ntmps8 (le_ rfl) (fun w0 M0 => ?_)
  refine WP.seq ?_
  -- region 0 law.go:43
  refine WP.region ?_
  refine WL.op (asg (oc _)) (by decide) ?_
  refine WL.nl (.thn ?_)
  refine WP.seq ?_
  refine WP.seq ?_
  -- region 1 law.go:44
  refine WP.region ?_
  refine WL.op (call c_w33_awake .n) (by decide) ?_
  refine WL.op (not_ (ot rfl)) (by decide) ?_
  refine WL.nl (.thn ?_)
  -- law.go:44
  refine WP.condF rfl ?_
  refine WP.sk (.thn ?_)
  refine WP.seq ?_
  refine WP.seq ?_
  -- region 3 law.go:47
  refine WP.region ?_
  refine WL.op (mv (ot rfl)) (by decide) ?_
  refine WL.op (len_ us_s_tegularef33_Step (ot rfl)) (by decide) ?_
  refine WL.op (gtr (ot rfl) (oc _)) (by decide) ?_
  refine WL.nl (.thn ?_)
  -- law.go:47
  refine WP.cond rfl (fun hc => ?_) (fun hc => ?_)
  · skip
    refine WP.seq ?_
    -- region 4 law.go:48
    refine WP.region ?_
    refine WL.op (asg (oc _)) (by decide) ?_
    refine WL.nl (.thn ?_)
    exact WP.rt (.rthn (.r1 rfl rfl (imp _)))
  · skip
    have hle : xs.length ≤ 60 := by have := of_decide_eq_false hc; omega
    refine WP.sk (.thn ?_)
    refine WP.seq ?_
    -- region 5 law.go:50
    refine WP.region ?_
    refine WL.op (call c_x_New .n) (by decide) ?_
    refine WL.alloc zr_Tree rfl (by decide) fun b3 => ?_
    refine WL.store 0 rfl (ot rfl) (ot rfl) (.agg _) sz_Tree rfl (le_ rfl) ?_
    refine WL.nl (.thn ?_)
    refine WP.seq ?_
    -- region 6 law.go:51
    refine WP.region ?_
    refine WL.op (asg (oc _)) (by decide) ?_
    refine WL.nl (.thn ?_)
    refine WP.seq ?_
    refine WP.seq ?_
    -- region 7 law.go:52
    refine WP.region ?_
    refine WL.op (asg (oc _)) (by decide) ?_
    refine WL.nl (.thn ?_)
    refine WP.block ?_
    refine WP.loop (fun y : Nat × Tr => [.b b3 26 [tree y.2]]) (fun y => [(5, I (y.1 : Int)), (4, sl 3 FX y.2.list), (0, sl 4 FS xs), (3, val (.pointer (some ⟨b3, 0, none⟩)))]) (fun y => y.1 ≤ xs.length ∧ Wt y.2 ∧ Low y.2.list) (fun y => xs.length - y.1) (0, .nil) ⟨Nat.zero_le _, wt_nil, low_nil⟩ (Sub.ofD 0 rfl (Sub.cons rfl (imp_eq rfl) (Sub.cons rfl sl_nil (Sub.cons rfl (imp _) (Sub.cons rfl (imp _) Sub.nil))))) (fun y hi => ?_)
    obtain ⟨i, t⟩ := y
    replace hi : i ≤ xs.length ∧ Wt t ∧ Low t.list := hi
    show WP _ _ _ _ [.b b3 26 [tree t]] [(5, I (i : Int)), (4, sl 3 FX t.list), (0, sl 4 FS xs), (3, val (.pointer (some ⟨b3, 0, none⟩)))] _ _
    refine WP.seq ?_
    refine WP.seq ?_
    -- region 8 law.go:52
    refine WP.region ?_
    refine WL.op (mv (ot rfl)) (by decide) ?_
    refine WL.op (mv (ot rfl)) (by decide) ?_
    refine WL.op (len_ us_s_tegularef33_Step (ot rfl)) (by decide) ?_
    refine WL.op (lss (ot rfl) (ot rfl)) (by decide) ?_
    refine WL.nl (.thn ?_)
    -- law.go:52
    refine WP.cond rfl (fun hc => ?_) (fun hc => ?_)
    · skip
      have hc1 : i < xs.length := by have := of_decide_eq_true hc; omega
      have hu := getD_all hU hc1
      obtain ⟨hil, hw, hlo⟩ := hi
      have hlen := low_600 hw hlo
      have K := step_like hw (xs.getD (i : Int).toNat default)
      have hlo2 := step_low hw hlo hu
      have hlen2 := low_600 K.wt hlo2
      have hrl := rApply_len (L := t.list) (xs.getD (i : Int).toNat default)
      refine WP.sk (.thn ?_)
      refine WP.seq ?_
      refine WP.block ?_
      refine WP.seq ?_
      -- region 10 draws law.go:53
      refine WP.draws ?_
      refine RG.op (lbs 0 rfl ag_Tree (ot rfl) (le_ rfl)) ?_
      refine RG.op (mv (ot rfl)) ?_
      refine RG.op (mv (ot rfl)) ?_
      refine RG.op (ixd el_s_tegularef33_Step (ot rfl) (ot rfl) (by omega) (by omega)) ?_
      refine RG.op (ls ag_ef33_Step (ot rfl) (le_ rfl)) ?_
      refine RG.op (call (c_w33_step (t := t) (s := (xs.getD (i : Int).toNat default)) hw hu) (.c (ot rfl) (.c (ot rfl) .n))) ?_
      refine RG.op (mv (ot rfl)) ?_
      refine RG.op (ex (ot rfl) rfl) ?_
      refine RG.op (ex (ot rfl) rfl) ?_
      refine RG.op (ex (ot rfl) rfl) ?_
      refine RG.bx (.alloc zr_Tree rfl) ?_
      refine RG.ox 10 rfl rfl (OpO.store (ot rfl) (.agg _) sz_Tree rfl rfl) ?_
      refine RG.op (asg (ot rfl)) ?_
      refine RG.op (asg (ot rfl)) ?_
      refine RG.fin HM (by kernel_rfl) ?_
      intro b6
      show WL _ _ _ _ _ _ _ _ _
      refine WL.nl (.thn ?_)
      refine WP.seq ?_
      -- region 11 law.go:54
      refine WP.region ?_
      refine WL.op (mv (ot rfl)) (by decide) ?_
      refine WL.op (mv (ot rfl)) (by decide) ?_
      refine WL.op (mv (ot rfl)) (by decide) ?_
      refine WL.op (ixd el_s_tegularef33_Step (ot rfl) (ot rfl) (by omega) (by omega)) (by decide) ?_
      refine WL.op (ls ag_ef33_Step (ot rfl) (le_ rfl)) (by decide) ?_
      refine WL.op (call (c_r33_Apply (xs := t.list) (s := (xs.getD (i : Int).toNat default)) (by omega) hw.2.1 hu) (.c (ot rfl) (.c (ot rfl) .n))) (by decide) ?_
      refine WL.op (mv (ot rfl)) (by decide) ?_
      refine WL.op (ex (ot rfl) rfl) (by decide) ?_
      refine WL.op (ex (ot rfl) rfl) (by decide) ?_
      refine WL.op (ex (ot rfl) rfl) (by decide) ?_
      refine WL.op (asg (ot rfl)) (by decide) ?_
      refine WL.op (asg (ot rfl)) (by decide) ?_
      refine WL.op (asg (ot rfl)) (by decide) ?_
      refine WL.nl (.thn ?_)
      refine WP.seq ?_
      refine WP.seq ?_
      -- region 12 law.go:55
      refine WP.region ?_
      refine WL.op (mv (ot rfl)) (by decide) ?_
      refine WL.op (mv (ot rfl)) (by decide) ?_
      refine WL.op (OpG.weak (R' := val (.bool false)) (neq  (ot rfl) (ot rfl)) (imp_eq (congrArg (fun b => val (.bool b)) (by rw [decide_eq_true K.e]; rfl)))) (by decide) ?_
      refine WL.op (mv (ot rfl)) (by decide) ?_
      refine WL.gT rfl rfl ?_ -- g3
      refine WL.op (mv (ot rfl)) (by decide) ?_
      refine WL.gT rfl rfl ?_ -- g3
      refine WL.op (mv (ot rfl)) (by decide) ?_
      refine WL.gT rfl rfl ?_ -- g3
      refine WL.op (OpG.weak (R' := val (.bool true)) (call (c_r32_Same (tStep t (xs.getD (i : Int).toNat default)).2.1 (rApply t.list (xs.getD (i : Int).toNat default)).2.1 (by rw [K.part]; omega) (by omega)) (.c (ot rfl) (.c (ot rfl) .n))) (imp_eq (congrArg (fun b => val (.bool b)) (decide_eq_true K.part)))) (by decide) ?_
      refine WL.gT rfl rfl ?_ -- g3
      refine WL.op (not_ (ot rfl)) (by decide) ?_
      refine WL.op (pickF (ot rfl) (ot rfl)) (by decide) ?_
      refine WL.nl (.thn ?_)
      -- law.go:55
      refine WP.condF rfl ?_
      refine WP.sk (.thn ?_)
      refine WP.seq ?_
      refine WP.seq ?_
      -- region 14 law.go:58
      refine WP.region ?_
      refine WL.op (mv (ot rfl)) (by decide) ?_
      refine WL.op (neq (ot rfl) (oc _)) (by decide) ?_
      refine WL.nl (.thn ?_)
      -- law.go:58
      refine WP.cond rfl (fun hc => ?_) (fun hc => ?_)
      · skip
        refine WP.xt (.xthn (.xin (.thn ?_)))
        -- region 9 law.go:52
        refine WP.region ?_
        refine WL.op (mv (ot rfl)) (by decide) ?_
        refine WL.op (add (ot rfl) (oc _) (by omega)) (by decide) ?_
        refine WL.op (asg (ot rfl)) (by decide) ?_
        exact WL.nl (.again (i + 1, t) ⟨hc1, hw, hlo⟩ (by show xs.length - (i + 1) < xs.length - i; omega) (Sub.ofD 1 rfl (Sub.cons rfl (imp_eq (congrArg I (by omega))) (Sub.cons rfl (imp _) (Sub.cons rfl (imp _) (Sub.cons rfl (imp _) Sub.nil))))))
      · skip
        refine WP.sk (.thn ?_)
        refine WP.seq ?_
        -- region 15 law.go:61
        refine WP.region ?_
        refine WL.op (lbs 0 rfl ag_Tree (ot rfl) (le_ rfl)) (by decide) ?_
        refine WL.op (mv (ot rfl)) (by decide) ?_
        refine WL.store 1 rfl (ot rfl) (ot rfl) (.agg _) sz_Tree rfl (le_ rfl) ?_
        refine WL.op (asg (ot rfl)) (by decide) ?_
        refine WL.nl (.thn ?_)
        refine WP.seq ?_
        -- region 16 law.go:62
        refine WP.region ?_
        refine WL.op (lbs 1 rfl ag_Tree (ot rfl) (le_ rfl)) (by decide) ?_
        refine WL.op (call (c_w33_all (t := (tStep t (xs.getD (i : Int).toNat default)).1) (by omega)) (.c (ot rfl) .n)) (by decide) ?_
        refine WL.op (mv (ot rfl)) (by decide) ?_
        refine WL.op (OpG.weak (R' := val (.bool true)) (call (c_r32_Same (tStep t (xs.getD (i : Int).toNat default)).1.list (rApply t.list (xs.getD (i : Int).toNat default)).1 (by omega) (by rw [← K.list]; omega)) (.c (ot rfl) (.c (ot rfl) .n))) (imp_eq (congrArg (fun b => val (.bool b)) (decide_eq_true K.list)))) (by decide) ?_
        refine WL.op (not_ (ot rfl)) (by decide) ?_
        refine WL.op (mv (ot rfl)) (by decide) ?_
        refine WL.gT rfl rfl ?_ -- g5
        refine WL.op (lbs 1 rfl ag_Tree (ot rfl) (le_ rfl)) (by decide) ?_
        refine WL.gT rfl rfl ?_ -- g5
        refine WL.op (call (c_x_Tree_Len _) (.c (ot rfl) .n)) (by decide) ?_
        refine WL.gT rfl rfl ?_ -- g5
        refine WL.op (mv (ot rfl)) (by decide) ?_
        refine WL.gT rfl rfl ?_ -- g5
        refine WL.op (len_ us_s_api_Extent (ot rfl)) (by decide) ?_
        refine WL.gT rfl rfl ?_ -- g5
        refine WL.op (OpG.weak (R' := val (.bool false)) (neq  (ot rfl) (ot rfl)) (imp_eq (congrArg (fun b => val (.bool b)) (by rw [decide_eq_true (show (tStep t (xs.getD (i : Int).toNat default)).1.count = ((rApply t.list (xs.getD (i : Int).toNat default)).1.length : Int) by rw [← K.list, count_eq])]; rfl)))) (by decide) ?_
        refine WL.op (pickF (ot rfl) (ot rfl)) (by decide) ?_
        refine WL.op (mv (ot rfl)) (by decide) ?_
        refine WL.gT rfl rfl ?_ -- g12
        refine WL.op (lbs 1 rfl ag_Tree (ot rfl) (le_ rfl)) (by decide) ?_
        refine WL.gT rfl rfl ?_ -- g12
        refine WL.op (call (c_x_Tree_Blocks _) (.c (ot rfl) .n)) (by decide) ?_
        refine WL.gT rfl rfl ?_ -- g12
        refine WL.op (mv (ot rfl)) (by decide) ?_
        refine WL.gT rfl rfl ?_ -- g12
        refine WL.op (call (c_r32_Blocks (rApply t.list (xs.getD (i : Int).toNat default)).1 (by rw [← K.list]; omega) (by rw [← K.list]; exact K.wt.2.1)) (.c (ot rfl) .n)) (by decide) ?_
        refine WL.gT rfl rfl ?_ -- g12
        refine WL.op (OpG.weak (R' := val (.bool false)) (neq  (ot rfl) (ot rfl)) (imp_eq (congrArg (fun b => val (.bool b)) (by rw [decide_eq_true (show (tStep t (xs.getD (i : Int).toNat default)).1.blocks = sumN (rApply t.list (xs.getD (i : Int).toNat default)).1 by rw [← K.list, blocks_eq])]; rfl)))) (by decide) ?_
        refine WL.op (pickF (ot rfl) (ot rfl)) (by decide) ?_
        refine WL.nl (.thn ?_)
        -- law.go:62
        refine WP.condF rfl ?_
        refine WP.sk (.blk (.thn ?_))
        -- region 9 law.go:52
        refine WP.region ?_
        refine WL.op (mv (ot rfl)) (by decide) ?_
        refine WL.op (add (ot rfl) (oc _) (by omega)) (by decide) ?_
        refine WL.op (asg (ot rfl)) (by decide) ?_
        exact WL.nl (.again (i + 1, (tStep t (xs.getD (i : Int).toNat default)).1) ⟨hc1, K.wt, hlo2⟩ (by show xs.length - (i + 1) < xs.length - i; omega) (Sub.ofD 1 rfl (Sub.cons rfl (imp_eq (congrArg I (by omega))) (Sub.cons rfl (imp_eq (by rw [K.list])) (Sub.cons rfl (imp _) (Sub.cons rfl (imp _) Sub.nil))))))
    · skip
      have hc1 : ¬ i < xs.length := by have := of_decide_eq_false hc; omega
      refine WP.xt (.xthn (.xthn (.xin (.thn ?_))))
      refine WP.seq ?_
      -- region 18 law.go:66
      refine WP.region ?_
      refine WL.op (asg (oc _)) (by decide) ?_
      refine WL.nl (.thn ?_)
      exact WP.rt (.r1 rfl rfl (imp _))
end Go.Proofs.Ytjglgfnhgehpeaa

/- ExtreeSorted: what it computes. -/
import Derived.Test.YtjglgfnhgehpeaaLawB
import Derived.Test.YtjglgfnhgehpeaaSeq
set_option linter.unusedVariables false
set_option linter.unusedSimpArgs false
set_option maxRecDepth 4000
namespace Go.Proofs.Ytjglgfnhgehpeaa
open Go.RowKit Go.Fw Go.Xt
theorem c_w33_ExtreeSorted {n : Int} {down : Bool} (hn : 0 ≤ n ∧ n ≤ 65535) : PureC Try.prog 4 [val (.int .u16 n), val (.bool down)] (val (.bool true)) := by
  obtain ⟨k, hk, hk3⟩ : ∃ k : Nat, n % 301 = k ∧ k ≤ 300 := ⟨(n % 301).toNat, by omega, by omega⟩
  refine PureC.of_wp Try.func4 (by kernel_rfl) rfl Try.ntmps4 (le_ rfl) (fun w0 M0 => ?_)
  refine WP.seq ?_
  -- region 0 law.go:146
  refine WP.region ?_
  refine WL.op (asg (oc _)) (by decide) ?_
  refine WL.nl (.thn ?_)
  refine WP.seq ?_
  refine WP.seq ?_
  -- region 1 law.go:147
  refine WP.region ?_
  refine WL.op (call c_w33_awake .n) (by decide) ?_
  refine WL.op (not_ (ot rfl)) (by decide) ?_
  refine WL.nl (.thn ?_)
  -- law.go:147
  refine WP.condF rfl ?_
  refine WP.sk (.thn ?_)
  refine WP.seq ?_
  -- region 3 law.go:150
  refine WP.region ?_
  refine WL.op (mv (ot rfl)) (by decide) ?_
  refine WL.op (rem_ (ot rfl) (oc _) (by omega) (by omega)) (by decide) ?_
  refine WL.op (cv un_uint16 un_int (ot rfl) (IntWalk.i64_in _ (by omega))) (by decide) ?_
  refine WL.op (asg (ot rfl)) (by decide) ?_
  refine WL.nl (.thn ?_)
  refine WP.seq ?_
  -- region 4 law.go:151
  refine WP.region ?_
  refine WL.op (call c_x_New .n) (by decide) ?_
  refine WL.alloc zr_Tree rfl (by decide) fun b6 => ?_
  refine WL.store 0 rfl (ot rfl) (ot rfl) (.agg _) sz_Tree rfl (le_ rfl) ?_
  refine WL.nl (.thn ?_)
  refine WP.seq ?_
  refine WP.seq ?_
  -- region 5 law.go:152
  refine WP.region ?_
  refine WL.op (asg (oc _)) (by decide) ?_
  refine WL.nl (.thn ?_)
  refine WP.block ?_
  refine WP.loop (fun y : Nat × Tr => [.b b6 26 [tree y.2]]) (fun y => [(7, I (y.1 : Int)), (5, I (n % 301)), (6, val (.pointer (some ⟨b6, 0, none⟩))), (1, val (.bool down))]) (fun y => y.1 ≤ k ∧ SeqT down k y.1 y.2) (fun y => k - y.1) (0, .nil) ⟨Nat.zero_le _, wt_nil, by cases down <;> rfl⟩ (Sub.ofD 0 rfl (Sub.cons rfl (imp_eq rfl) (Sub.cons rfl (imp _) (Sub.cons rfl (imp _) (Sub.cons rfl (imp _) Sub.nil))))) (fun y hi => ?_)
  obtain ⟨i, t⟩ := y
  replace hi : i ≤ k ∧ SeqT down k i t := hi
  show WP _ _ _ _ [.b b6 26 [tree t]] [(7, I (i : Int)), (5, I (n % 301)), (6, val (.pointer (some ⟨b6, 0, none⟩))), (1, val (.bool down))] _ _
  refine WP.seq ?_
  refine WP.seq ?_
  -- region 6 law.go:152
  refine WP.region ?_
  refine WL.op (mv (ot rfl)) (by decide) ?_
  refine WL.op (mv (ot rfl)) (by decide) ?_
  refine WL.op (lss (ot rfl) (ot rfl)) (by decide) ?_
  refine WL.nl (.thn ?_)
  -- law.go:152
  refine WP.cond rfl (fun hc => ?_) (fun hc => ?_)
  · skip
    have hc1 : i < k := by have := of_decide_eq_true hc; omega
    refine WP.sk (.thn ?_)
    refine WP.seq ?_
    refine WP.block ?_
    refine WP.seq ?_
    -- region 8 law.go:153
    refine WP.region ?_
    refine WL.op (mv (ot rfl)) (by decide) ?_
    refine WL.op (mul (oc _) (ot rfl) (by omega)) (by decide) ?_
    refine WL.op (asg (ot rfl)) (by decide) ?_
    refine WL.nl (.thn ?_)
    refine WP.seq ?_
    refine WP.seq ?_
    -- region 9 law.go:154
    refine WP.region ?_
    refine WL.op (mv (ot rfl)) (by decide) ?_
    refine WL.nl (.thn ?_)
    -- law.go:154
    refine WP.cond rfl (fun hc => ?_) (fun hc => ?_)
    · skip
      subst hc
      have hs := hi.2.put hc1 (by omega) (a := 2 * (n % 301 - 1 - (i : Int))) (by rw [if_pos rfl]; omega)
      -- region 10 law.go:155
      refine WP.region ?_
      refine WL.op (mv (ot rfl)) (by decide) ?_
      refine WL.op (sub (ot rfl) (oc _) (by omega)) (by decide) ?_
      refine WL.op (mv (ot rfl)) (by decide) ?_
      refine WL.op (sub (ot rfl) (ot rfl) (by omega)) (by decide) ?_
      refine WL.op (mul (oc _) (ot rfl) (by omega)) (by decide) ?_
      refine WL.op (asg (ot rfl)) (by decide) ?_
      refine WL.nl (.thn ?_)
      refine WP.seq ?_
      -- region 11 law.go:157
      refine WP.region ?_
      refine WL.op (lbs 0 rfl ag_Tree (ot rfl) (le_ rfl)) (by decide) ?_
      refine WL.op (mv (ot rfl)) (by decide) ?_
      refine WL.op (bld zr_Extent rfl ps_Extent (.c (ot rfl) (.leaf (.val rfl)) pl_Extent_0 rfl (le_ rfl) (.c (oc _) (.leaf (.val rfl)) pl_Extent_1 rfl (le_ rfl) (.c (oc _) (.leaf (.val rfl)) pl_Extent_2 rfl (le_ rfl) .n)))) (by decide) ?_
      refine WL.op (call (c_x_Put (t := t) (x := ⟨2 * (n % 301 - 1 - (i : Int)), 1, 7⟩) hi.2.1 (by simp only []; omega) (by unfold Vx; simp only []; omega)) (.c (ot rfl) (.c (ot rfl) .n))) (by decide) ?_
      refine WL.op (mv (ot rfl)) (by decide) ?_
      refine WL.op (ex (ot rfl) rfl) (by decide) ?_
      refine WL.op (ex (ot rfl) rfl) (by decide) ?_
      refine WL.op (ex (ot rfl) rfl) (by decide) ?_
      refine WL.alloc zr_Tree rfl (by decide) fun b9 => ?_
      refine WL.store 0 rfl (ot rfl) (ot rfl) (.agg _) sz_Tree rfl (le_ rfl) ?_
      refine WL.op (asg (ot rfl)) (by decide) ?_
      refine WL.op (asg (ot rfl)) (by decide) ?_
      refine WL.nl (.thn ?_)
      refine WP.seq ?_
      refine WP.seq ?_
      -- region 12 law.go:158
      refine WP.region ?_
      refine WL.op (mv (ot rfl)) (by decide) ?_
      refine  WL.op (neq (ot rfl) (oc _)) (by decide) ?_
      refine WL.op (mv (ot rfl)) (by decide) ?_
      refine WL.gT rfl rfl ?_ -- g2
      refine WL.op (mv (ot rfl)) (by decide) ?_
      refine WL.gT rfl rfl ?_ -- g2
      refine WL.op (len_ us_s_api_Extent (ot rfl)) (by decide) ?_
      refine WL.gT rfl rfl ?_ -- g2
      refine  WL.op (OpG.weak (R' := val (.bool false)) (neq (ot rfl) (oc _)) (imp_eq (congrArg (fun b => val (.bool b)) (by rw [hs.2]; rfl)))) (by decide) ?_
      refine WL.op (pickF (ot rfl) (ot rfl)) (by decide) ?_
      refine WL.op (mv (ot rfl)) (by decide) ?_
      refine WL.gT rfl rfl ?_ -- g7
      refine WL.op (lbs 0 rfl ag_Tree (ot rfl) (le_ rfl)) (by decide) ?_
      refine WL.gT rfl rfl ?_ -- g7
      refine WL.op (call (c_w33_balanced hs.1.1) (.c (ot rfl) .n)) (by decide) ?_
      refine WL.gT rfl rfl ?_ -- g7
      refine WL.op (not_ (ot rfl)) (by decide) ?_
      refine WL.op (pickF (ot rfl) (ot rfl)) (by decide) ?_
      refine WL.nl (.thn ?_)
      -- law.go:158
      refine WP.condF rfl ?_
      refine WP.sk (.thn ?_)
      -- region 14 law.go:161
      refine WP.region ?_
      refine WL.op (lbs 0 rfl ag_Tree (ot rfl) (le_ rfl)) (by decide) ?_
      refine WL.store 1 rfl (ot rfl) (ot rfl) (.agg _) sz_Tree rfl (le_ rfl) ?_
      refine WL.nl (.blk (.thn ?_))
      -- region 7 law.go:152
      refine WP.region ?_
      refine WL.op (mv (ot rfl)) (by decide) ?_
      refine WL.op (add (ot rfl) (oc _) (by omega)) (by decide) ?_
      refine WL.op (asg (ot rfl)) (by decide) ?_
      exact WL.nl (.again (i + 1, (put t ⟨2 * (n % 301 - 1 - (i : Int)), 1, 7⟩).1) ⟨by simp only []; omega, hs.1⟩ (by show k - (i + 1) < k - i; omega) (Sub.ofD 1 rfl (Sub.cons rfl (imp_eq (congrArg I (by omega))) (Sub.cons rfl (imp _) (Sub.cons rfl (imp _) (Sub.cons rfl (imp _) Sub.nil))))))
    · skip
      subst hc
      have hs := hi.2.put hc1 (by omega) (a := 2 * (i : Int)) (by rw [if_neg (by decide)])
      refine WP.sk (.thn ?_)
      refine WP.seq ?_
      -- region 11 law.go:157
      refine WP.region ?_
      refine WL.op (lbs 0 rfl ag_Tree (ot rfl) (le_ rfl)) (by decide) ?_
      refine WL.op (mv (ot rfl)) (by decide) ?_
      refine WL.op (bld zr_Extent rfl ps_Extent (.c (ot rfl) (.leaf (.val rfl)) pl_Extent_0 rfl (le_ rfl) (.c (oc _) (.leaf (.val rfl)) pl_Extent_1 rfl (le_ rfl) (.c (oc _) (.leaf (.val rfl)) pl_Extent_2 rfl (le_ rfl) .n)))) (by decide) ?_
      refine WL.op (call (c_x_Put (t := t) (x := ⟨2 * (i : Int), 1, 7⟩) hi.2.1 (by simp only []; omega) (by unfold Vx; simp only []; omega)) (.c (ot rfl) (.c (ot rfl) .n))) (by decide) ?_
      refine WL.op (mv (ot rfl)) (by decide) ?_
      refine WL.op (ex (ot rfl) rfl) (by decide) ?_
      refine WL.op (ex (ot rfl) rfl) (by decide) ?_
      refine WL.op (ex (ot rfl) rfl) (by decide) ?_
      refine WL.alloc zr_Tree rfl (by decide) fun b9 => ?_
      refine WL.store 0 rfl (ot rfl) (ot rfl) (.agg _) sz_Tree rfl (le_ rfl) ?_
      refine WL.op (asg (ot rfl)) (by decide) ?_
      refine WL.op (asg (ot rfl)) (by decide) ?_
      refine WL.nl (.thn ?_)
      refine WP.seq ?_
      refine WP.seq ?_
      -- region 12 law.go:158
      refine WP.region ?_
      refine WL.op (mv (ot rfl)) (by decide) ?_
      refine  WL.op (neq (ot rfl) (oc _)) (by decide) ?_
      refine WL.op (mv (ot rfl)) (by decide) ?_
      refine WL.gT rfl rfl ?_ -- g2
      refine WL.op (mv (ot rfl)) (by decide) ?_
      refine WL.gT rfl rfl ?_ -- g2
      refine WL.op (len_ us_s_api_Extent (ot rfl)) (by decide) ?_
      refine WL.gT rfl rfl ?_ -- g2
      refine  WL.op (OpG.weak (R' := val (.bool false)) (neq (ot rfl) (oc _)) (imp_eq (congrArg (fun b => val (.bool b)) (by rw [hs.2]; rfl)))) (by decide) ?_
      refine WL.op (pickF (ot rfl) (ot rfl)) (by decide) ?_
      refine WL.op (mv (ot rfl)) (by decide) ?_
      refine WL.gT rfl rfl ?_ -- g7
      refine WL.op (lbs 0 rfl ag_Tree (ot rfl) (le_ rfl)) (by decide) ?_
      refine WL.gT rfl rfl ?_ -- g7
      refine WL.op (call (c_w33_balanced hs.1.1) (.c (ot rfl) .n)) (by decide) ?_
      refine WL.gT rfl rfl ?_ -- g7
      refine WL.op (not_ (ot rfl)) (by decide) ?_
      refine WL.op (pickF (ot rfl) (ot rfl)) (by decide) ?_
      refine WL.nl (.thn ?_)
      -- law.go:158
      refine WP.condF rfl ?_
      refine WP.sk (.thn ?_)
      -- region 14 law.go:161
      refine WP.region ?_
      refine WL.op (lbs 0 rfl ag_Tree (ot rfl) (le_ rfl)) (by decide) ?_
      refine WL.store 1 rfl (ot rfl) (ot rfl) (.agg _) sz_Tree rfl (le_ rfl) ?_
      refine WL.nl (.blk (.thn ?_))
      -- region 7 law.go:152
      refine WP.region ?_
      refine WL.op (mv (ot rfl)) (by decide) ?_
      refine WL.op (add (ot rfl) (oc _) (by omega)) (by decide) ?_
      refine WL.op (asg (ot rfl)) (by decide) ?_
      exact WL.nl (.again (i + 1, (put t ⟨2 * (i : Int), 1, 7⟩).1) ⟨by simp only []; omega, hs.1⟩ (by show k - (i + 1) < k - i; omega) (Sub.ofD 1 rfl (Sub.cons rfl (imp_eq (congrArg I (by omega))) (Sub.cons rfl (imp _) (Sub.cons rfl (imp _) (Sub.cons rfl (imp _) Sub.nil))))))
  · skip
    have hc1 : ¬ i < k := by have := of_decide_eq_false hc; omega
    refine WP.xt (.xthn (.xthn (.xin (.thn ?_))))
    refine WP.seq ?_
    -- region 15 law.go:163
    refine WP.region ?_
    refine WL.op (lbs 0 rfl ag_Tree (ot rfl) (le_ rfl)) (by decide) ?_
    refine WL.op (call (c_x_Tree_Len _) (.c (ot rfl) .n)) (by decide) ?_
    refine WL.op (mv (ot rfl)) (by decide) ?_
    refine WL.op (OpG.weak (R' := val (.bool true)) (eql  (ot rfl) (ot rfl)) (imp_eq (congrArg (fun b => val (.bool b)) (decide_eq_true (by rw [hi.2.count.1]; omega))))) (by decide) ?_
    refine WL.op (mv (ot rfl)) (by decide) ?_
    refine WL.gT rfl rfl ?_ -- g4
    refine WL.op (lbs 0 rfl ag_Tree (ot rfl) (le_ rfl)) (by decide) ?_
    refine WL.gT rfl rfl ?_ -- g4
    refine WL.op (call (c_x_Tree_Blocks _) (.c (ot rfl) .n)) (by decide) ?_
    refine WL.gT rfl rfl ?_ -- g4
    refine WL.op (mv (ot rfl)) (by decide) ?_
    refine WL.gT rfl rfl ?_ -- g4
    refine WL.op (OpG.weak (R' := val (.bool true)) (eql (ot rfl) (ot rfl)) (imp_eq (congrArg (fun b => val (.bool b)) (decide_eq_true (by rw [hi.2.count.2]; omega))))) (by decide) ?_
    refine WL.op (pickT (ot rfl) (ot rfl)) (by decide) ?_
    refine WL.op (asg (ot rfl)) (by decide) ?_
    refine WL.nl (.thn ?_)
    exact WP.rt (.r1 rfl rfl (imp _))
end Go.Proofs.Ytjglgfnhgehpeaa

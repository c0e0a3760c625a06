/- ExtreeOrder: what it computes. -/
import Derived.Test.YtjglgfnhgehpeaaLawD
import Derived.Test.YtjglgfnhgehpeaaOrd
import Derived.Test.YtjglgfnhgehpeaaRowEnc
set_option linter.unusedVariables false
set_option linter.unusedSimpArgs false
set_option maxRecDepth 4000
namespace Go.Proofs.Ytjglgfnhgehpeaa
open Go.RowKit Go.Fw Go.Xt
theorem c_w33_ExtreeOrder {xs : List X} {r : Int} {back : Bool} (_hX : ∀ x ∈ xs, I6 x) (hr : 0 ≤ r ∧ r ≤ 255) : PureC Try.prog 7 [sl 3 FX xs, val (.int .u8 r), val (.bool back)] (val (.bool true)) := by
  refine PureC.of_wp Try.func7 (by kernel_rfl) rfl Try.ntmps7 (le_ rfl) (fun w0 M0 => ?_)
  refine WP.seq ?_
  -- region 0 law.go:223
  refine WP.region ?_
  refine WL.op (asg (oc _)) (by decide) ?_
  refine WL.nl (.thn ?_)
  refine WP.seq ?_
  refine WP.seq ?_
  -- region 1 law.go:224
  refine WP.region ?_
  refine WL.op (call c_w33_awake .n) (by decide) ?_
  refine WL.op (not_ (ot rfl)) (by decide) ?_
  refine WL.nl (.thn ?_)
  -- law.go:224
  refine WP.condF rfl ?_
  refine WP.sk (.thn ?_)
  refine WP.seq ?_
  refine WP.seq ?_
  -- region 3 law.go:227
  refine WP.region ?_
  refine WL.op (mv (ot rfl)) (by decide) ?_
  refine WL.op (len_ us_s_api_Extent (ot rfl)) (by decide) ?_
  refine WL.op (gtr (ot rfl) (oc _)) (by decide) ?_
  refine WL.op (mv (ot rfl)) (by decide) ?_
  refine WL.gd rfl rfl (Tells.v _ _) (fun hg => mv (ot rfl)) (by decide) ?_
  refine WL.gd rfl rfl (Tells.v _ _) (fun hg => call (c_r32_Valid xs (by simp at hg; omega)) (.c (og rfl hg) .n)) (by decide) ?_
  refine WL.gd rfl rfl (Tells.v _ _) (fun hg => not_ (og rfl hg)) (by decide) ?_
  refine WL.op (or_ (ot rfl) (ot rfl)) (by decide) ?_
  refine WL.nl (.thn ?_)
  -- law.go:227
  refine WP.cond rfl (fun hc => ?_) (fun hc => ?_)
  · skip
    refine WP.seq ?_
    -- region 4 law.go:228
    refine WP.region ?_
    refine WL.op (asg (oc _)) (by decide) ?_
    refine WL.nl (.thn ?_)
    exact WP.rt (.rthn (.r1 rfl rfl (imp _)))
  · skip
    have hle : xs.length ≤ 40 := by simp at hc; omega
    have ho : Xt.Ok 0 xs := by simp at hc; exact hc.2
    refine WP.sk (.thn ?_)
    refine WP.seq ?_
    -- region 5 law.go:230
    refine WP.region ?_
    refine WL.op (mv (ot rfl)) (by decide) ?_
    refine WL.op (call (c_r32_Join xs (by omega) ho) (.c (ot rfl) .n)) (by decide) ?_
    refine WL.op (mv (ot rfl)) (by decide) ?_
    refine WL.op (ex (ot rfl) rfl) (by decide) ?_
    refine WL.op (ex (ot rfl) rfl) (by decide) ?_
    refine WL.op (asg (ot rfl)) (by decide) ?_
    refine WL.op (asg (ot rfl)) (by decide) ?_
    refine WL.nl (.thn ?_)
    refine WP.seq ?_
    -- region 6 law.go:231
    refine WP.region ?_
    refine WL.op (call c_x_New .n) (by decide) ?_
    refine WL.alloc zr_Tree rfl (by decide) fun b9 => ?_
    refine WL.store 0 rfl (ot rfl) (ot rfl) (.agg _) sz_Tree rfl (le_ rfl) ?_
    refine WL.nl (.thn ?_)
    refine WP.seq ?_
    refine WP.seq ?_
    -- region 7 law.go:232
    refine WP.region ?_
    refine WL.op (asg (oc _)) (by decide) ?_
    refine WL.nl (.thn ?_)
    refine WP.block ?_
    refine WP.loop (fun y : Nat × Tr => [.b b9 26 [tree y.2]]) (fun y => [(10, I (y.1 : Int)), (0, sl 3 FX xs), (1, val (.int .u8 r)), (2, val (.bool back)), (7, sl 3 FX (Jn xs)), (9, val (.pointer (some ⟨b9, 0, none⟩)))]) (fun y => y.1 ≤ xs.length ∧ OrdT xs r back y.1 y.2) (fun y => xs.length - y.1) (0, .nil) ⟨Nat.zero_le _, ord_nil _ _ _⟩ (Sub.ofD 0 rfl (Sub.cons rfl (imp_eq rfl) (Sub.cons rfl (imp _) (Sub.cons rfl (imp _) (Sub.cons rfl (imp _) (Sub.cons rfl (imp _) (Sub.cons rfl (imp _) Sub.nil))))))) (fun y hi => ?_)
    obtain ⟨i, t⟩ := y
    replace hi : i ≤ xs.length ∧ OrdT xs r back i t := hi
    show WP _ _ _ _ [.b b9 26 [tree t]] [(10, I (i : Int)), (0, sl 3 FX xs), (1, val (.int .u8 r)), (2, val (.bool back)), (7, sl 3 FX (Jn xs)), (9, val (.pointer (some ⟨b9, 0, none⟩)))] _ _
    refine WP.seq ?_
    refine WP.seq ?_
    -- region 8 law.go:232
    refine WP.region ?_
    refine WL.op (mv (ot rfl)) (by decide) ?_
    refine WL.op (mv (ot rfl)) (by decide) ?_
    refine WL.op (len_ us_s_api_Extent (ot rfl)) (by decide) ?_
    refine WL.op (lss (ot rfl) (ot rfl)) (by decide) ?_
    refine WL.nl (.thn ?_)
    -- law.go:232
    refine WP.cond rfl (fun hc => ?_) (fun hc => ?_)
    · skip
      have hc1 : i < xs.length := by have := of_decide_eq_true hc; omega
      obtain ⟨hil, ht⟩ := hi
      obtain ⟨hn1, hn2, hn3⟩ := ord_step ho ht hc1
      have hm0 := Int.emod_nonneg ((i : Int) + r) (b := (xs.length : Int)) (by omega)
      have hm1 := Int.emod_lt_of_pos ((i : Int) + r) (b := (xs.length : Int)) (by omega)
      refine WP.sk (.thn ?_)
      refine WP.seq ?_
      refine WP.block ?_
      refine WP.seq ?_
      -- region 10 law.go:233
      refine WP.region ?_
      refine WL.op (mv (ot rfl)) (by decide) ?_
      refine WL.op (mv (ot rfl)) (by decide) ?_
      refine WL.op (cv un_uint8 un_int (ot rfl) (IntWalk.i64_in _ (by omega))) (by decide) ?_
      refine WL.op (add (ot rfl) (ot rfl) (by omega)) (by decide) ?_
      refine WL.op (mv (ot rfl)) (by decide) ?_
      refine WL.op (len_ us_s_api_Extent (ot rfl)) (by decide) ?_
      refine WL.op (rem_ (ot rfl) (ot rfl) (by omega) (by omega)) (by decide) ?_
      refine WL.op (asg (ot rfl)) (by decide) ?_
      refine WL.nl (.thn ?_)
      refine WP.seq ?_
      refine WP.seq ?_
      -- region 11 law.go:234
      refine WP.region ?_
      refine WL.op (mv (ot rfl)) (by decide) ?_
      refine WL.nl (.thn ?_)
      -- law.go:234
      refine WP.cond rfl (fun hc => ?_) (fun hc => ?_)
      · skip
        have hkx : xs.getD ((xs.length : Int) - 1 - ((i : Int) + r) % (xs.length : Int)).toNat default = kX xs r back i := by subst hc; rfl
        have hput_ht : PureC Try.prog 15 [eT t, ext (xs.getD ((xs.length : Int) - 1 - ((i : Int) + r) % (xs.length : Int)).toNat default)] (e3T (tPut t (kX xs r back i))) := hkx ▸ c_x_PutT ht.wt
        -- region 12 law.go:235
        refine WP.region ?_
        refine WL.op (mv (ot rfl)) (by decide) ?_
        refine WL.op (len_ us_s_api_Extent (ot rfl)) (by decide) ?_
        refine WL.op (sub (ot rfl) (oc _) (by omega)) (by decide) ?_
        refine WL.op (mv (ot rfl)) (by decide) ?_
        refine WL.op (sub (ot rfl) (ot rfl) (by omega)) (by decide) ?_
        refine WL.op (asg (ot rfl)) (by decide) ?_
        refine WL.nl (.thn ?_)
        refine WP.seq ?_
        -- region 13 draws law.go:237
        refine WP.draws ?_
        refine RG.op (lbs 0 rfl ag_Tree (ot rfl) (le_ rfl)) ?_
        refine RG.op (mv (ot rfl)) ?_
        refine RG.op (mv (ot rfl)) ?_
        refine RG.op (ixd el_s_api_Extent (ot rfl) (ot rfl) (by omega) (by omega)) ?_
        refine RG.op (ls ag_Extent (ot rfl) (le_ rfl)) ?_
        refine RG.op (call (hput_ht) (.c (ot rfl) (.c (ot rfl) .n))) ?_
        refine RG.op (mv (ot rfl)) ?_
        refine RG.op (ex (ot rfl) rfl) ?_
        refine RG.op (ex (ot rfl) rfl) ?_
        refine RG.op (ex (ot rfl) rfl) ?_
        refine RG.bx (.alloc zr_Tree rfl) ?_
        refine RG.ox 10 rfl rfl (OpO.store (ot rfl) (.agg _) sz_Tree rfl rfl) ?_
        refine RG.op (asg (ot rfl)) ?_
        refine RG.op (asg (ot rfl)) ?_
        refine RG.fin HM (by kernel_rfl) ?_
        intro b12
        show WL _ _ _ _ _ _ _ _ _
        refine WL.nl (.thn ?_)
        refine WP.seq ?_
        refine WP.seq ?_
        -- region 14 law.go:238
        refine WP.region ?_
        refine WL.op (mv (ot rfl)) (by decide) ?_
        refine WL.op (OpG.weak (R' := val (.bool false)) (neq  (ot rfl) (oc _)) (imp_eq (congrArg (fun b => val (.bool b)) (by rw [decide_eq_true hn3]; rfl)))) (by decide) ?_
        refine WL.op (mv (ot rfl)) (by decide) ?_
        refine WL.gd rfl rfl (Tells.v _ _) (fun hg => mv (ot rfl)) (by decide) ?_
        refine WL.gd rfl rfl (Tells.v _ _) (fun hg => len_ us_s_api_Extent (og rfl hg)) (by decide) ?_
        refine WL.gd rfl rfl (Tells.v _ _) (fun hg => (OpG.weak (R' := val (.bool false)) (neq  (og rfl hg) (oc _)) (imp_eq (congrArg (fun b => val (.bool b)) (by rw [decide_eq_true (by rw [hn2]; rfl)]; rfl))))) (by decide) ?_
        refine WL.op (or_ (ot rfl) (ot rfl)) (by decide) ?_
        refine WL.nl (.thn ?_)
        -- law.go:238
        refine WP.condF rfl ?_
        refine WP.sk (.thn ?_)
        -- region 16 law.go:241
        refine WP.region ?_
        refine WL.op (lbs 0 rfl ag_Tree (ot rfl) (le_ rfl)) (by decide) ?_
        refine WL.store 1 rfl (ot rfl) (ot rfl) (.agg _) sz_Tree rfl (le_ rfl) ?_
        refine WL.nl (.blk (.thn ?_))
        -- region 9 law.go:232
        refine WP.region ?_
        refine WL.op (mv (ot rfl)) (by decide) ?_
        refine WL.op (add (ot rfl) (oc _) (by omega)) (by decide) ?_
        refine WL.op (asg (ot rfl)) (by decide) ?_
        exact WL.nl (.again (i + 1, (tPut t (kX xs r back i)).1) ⟨hc1, hn1⟩ (by show xs.length - (i + 1) < xs.length - i; omega) (Sub.ofD 1 rfl (Sub.cons rfl (imp_eq (congrArg I (by omega))) (Sub.cons rfl (imp _) (Sub.cons rfl (imp _) (Sub.cons rfl (imp _) (Sub.cons rfl (imp _) (Sub.cons rfl (imp _) Sub.nil))))))))
      · skip
        have hkx : xs.getD (((i : Int) + r) % (xs.length : Int)).toNat default = kX xs r back i := by subst hc; rfl
        have hput_hf : PureC Try.prog 15 [eT t, ext (xs.getD (((i : Int) + r) % (xs.length : Int)).toNat default)] (e3T (tPut t (kX xs r back i))) := hkx ▸ c_x_PutT ht.wt
        refine WP.sk (.thn ?_)
        refine WP.seq ?_
        -- region 13 draws law.go:237
        refine WP.draws ?_
        refine RG.op (lbs 0 rfl ag_Tree (ot rfl) (le_ rfl)) ?_
        refine RG.op (mv (ot rfl)) ?_
        refine RG.op (mv (ot rfl)) ?_
        refine RG.op (ixd el_s_api_Extent (ot rfl) (ot rfl) (by omega) (by omega)) ?_
        refine RG.op (ls ag_Extent (ot rfl) (le_ rfl)) ?_
        refine RG.op (call (hput_hf) (.c (ot rfl) (.c (ot rfl) .n))) ?_
        refine RG.op (mv (ot rfl)) ?_
        refine RG.op (ex (ot rfl) rfl) ?_
        refine RG.op (ex (ot rfl) rfl) ?_
        refine RG.op (ex (ot rfl) rfl) ?_
        refine RG.bx (.alloc zr_Tree rfl) ?_
        refine RG.ox 10 rfl rfl (OpO.store (ot rfl) (.agg _) sz_Tree rfl rfl) ?_
        refine RG.op (asg (ot rfl)) ?_
        refine RG.op (asg (ot rfl)) ?_
        refine RG.fin HM (by kernel_rfl) ?_
        intro b12
        show WL _ _ _ _ _ _ _ _ _
        refine WL.nl (.thn ?_)
        refine WP.seq ?_
        refine WP.seq ?_
        -- region 14 law.go:238
        refine WP.region ?_
        refine WL.op (mv (ot rfl)) (by decide) ?_
        refine WL.op (OpG.weak (R' := val (.bool false)) (neq  (ot rfl) (oc _)) (imp_eq (congrArg (fun b => val (.bool b)) (by rw [decide_eq_true hn3]; rfl)))) (by decide) ?_
        refine WL.op (mv (ot rfl)) (by decide) ?_
        refine WL.gd rfl rfl (Tells.v _ _) (fun hg => mv (ot rfl)) (by decide) ?_
        refine WL.gd rfl rfl (Tells.v _ _) (fun hg => len_ us_s_api_Extent (og rfl hg)) (by decide) ?_
        refine WL.gd rfl rfl (Tells.v _ _) (fun hg => (OpG.weak (R' := val (.bool false)) (neq  (og rfl hg) (oc _)) (imp_eq (congrArg (fun b => val (.bool b)) (by rw [decide_eq_true (by rw [hn2]; rfl)]; rfl))))) (by decide) ?_
        refine WL.op (or_ (ot rfl) (ot rfl)) (by decide) ?_
        refine WL.nl (.thn ?_)
        -- law.go:238
        refine WP.condF rfl ?_
        refine WP.sk (.thn ?_)
        -- region 16 law.go:241
        refine WP.region ?_
        refine WL.op (lbs 0 rfl ag_Tree (ot rfl) (le_ rfl)) (by decide) ?_
        refine WL.store 1 rfl (ot rfl) (ot rfl) (.agg _) sz_Tree rfl (le_ rfl) ?_
        refine WL.nl (.blk (.thn ?_))
        -- region 9 law.go:232
        refine WP.region ?_
        refine WL.op (mv (ot rfl)) (by decide) ?_
        refine WL.op (add (ot rfl) (oc _) (by omega)) (by decide) ?_
        refine WL.op (asg (ot rfl)) (by decide) ?_
        exact WL.nl (.again (i + 1, (tPut t (kX xs r back i)).1) ⟨hc1, hn1⟩ (by show xs.length - (i + 1) < xs.length - i; omega) (Sub.ofD 1 rfl (Sub.cons rfl (imp_eq (congrArg I (by omega))) (Sub.cons rfl (imp _) (Sub.cons rfl (imp _) (Sub.cons rfl (imp _) (Sub.cons rfl (imp _) (Sub.cons rfl (imp _) Sub.nil))))))))
    · skip
      have hc1 : ¬ i < xs.length := by have := of_decide_eq_false hc; omega
      obtain ⟨hil, ht⟩ := hi
      have hjn : t.list = Jn xs := ord_end ho (show OrdT xs r back xs.length t from (show i = xs.length by omega) ▸ ht)
      refine WP.xt (.xthn (.xthn (.xin (.thn ?_))))
      refine WP.seq ?_
      -- region 17 law.go:243
      refine WP.region ?_
      refine WL.op (lbs 0 rfl ag_Tree (ot rfl) (le_ rfl)) (by decide) ?_
      refine WL.op (call (c_w33_all (t := t) (by rw [hjn]; have := jn_len xs; omega)) (.c (ot rfl) .n)) (by decide) ?_
      refine WL.op (mv (ot rfl)) (by decide) ?_
      refine WL.op (OpG.weak (R' := val (.bool true)) (call (c_r32_Same t.list (Jn xs) (by rw [hjn]; have := jn_len xs; omega) (by have := jn_len xs; omega)) (.c (ot rfl) (.c (ot rfl) .n))) (imp_eq (congrArg (fun b => val (.bool b)) (decide_eq_true hjn)))) (by decide) ?_
      refine WL.op (asg (ot rfl)) (by decide) ?_
      refine WL.nl (.thn ?_)
      exact WP.rt (.r1 rfl rfl (imp _))
end Go.Proofs.Ytjglgfnhgehpeaa

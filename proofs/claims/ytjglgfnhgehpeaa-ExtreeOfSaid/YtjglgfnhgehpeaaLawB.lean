/- ExtreeBalanced, ExtreeSorted: what they compute. -/
import Derived.Test.YtjglgfnhgehpeaaLawA
set_option linter.unusedVariables false
set_option linter.unusedSimpArgs false
set_option maxRecDepth 4000
namespace Go.Proofs.Ytjglgfnhgehpeaa
open Go.RowKit Go.Fw Go.Xt

/-- a step of a script -/
structure Sp where
  c : Bool
  a : Int
  n : Int
  s : Int
deriving Inhabited
def FS (x : Sp) : List Rp := [val (.bool x.c), val (.int .u8 x.a), val (.int .u8 x.n), val (.int .u8 x.s)]
def U8 (x : Sp) : Prop := 0 ≤ x.a ∧ x.a ≤ 255 ∧ 0 ≤ x.n ∧ x.n ≤ 255 ∧ 0 ≤ x.s ∧ x.s ≤ 255
theorem getD_all {α : Type} [Inhabited α] {p : α → Prop} {xs : List α} (h : ∀ x ∈ xs, p x) {i : Nat} (hi : i < xs.length) : p (xs.getD ((i : Nat) : Int).toNat default) := by
  have e : ((i : Nat) : Int).toNat = i := by omega
  rw [e, List.getD_eq_getElem?_getD, List.getElem?_eq_getElem hi]
  exact h _ (List.getElem_mem hi)

theorem c_w33_ExtreeBalanced {xs : List Sp} {sp : Int} (hU : ∀ x ∈ xs, U8 x) (hsp : 0 ≤ sp ∧ sp ≤ 255) : PureC Try.prog 3 [sl 4 FS xs, val (.int .u8 sp)] (val (.bool true)) := by
  refine PureC.of_wp Try.func3 (by kernel_rfl) rfl Try.ntmps3 (le_ rfl) (fun w0 M0 => ?_)
  refine WP.seq ?_
  -- region 0 law.go:118
  refine WP.region ?_
  refine WL.op (asg (oc _)) (by decide) ?_
  refine WL.nl (.thn ?_)
  refine WP.seq ?_
  refine WP.seq ?_
  -- region 1 law.go:119
  refine WP.region ?_
  refine WL.op (call c_w33_awake .n) (by decide) ?_
  refine WL.op (not_ (ot rfl)) (by decide) ?_
  refine WL.nl (.thn ?_)
  -- law.go:119
  refine WP.condF rfl ?_
  refine WP.sk (.thn ?_)
  refine WP.seq ?_
  refine WP.seq ?_
  -- region 3 law.go:122
  refine WP.region ?_
  refine WL.op (mv (ot rfl)) (by decide) ?_
  refine WL.op (len_ us_s_tegularef33_Step (ot rfl)) (by decide) ?_
  refine WL.op (gtr (ot rfl) (oc _)) (by decide) ?_
  refine WL.nl (.thn ?_)
  -- law.go:122
  refine WP.cond rfl (fun hc => ?_) (fun hc => ?_)
  · skip
    refine WP.seq ?_
    -- region 4 law.go:123
    refine WP.region ?_
    refine WL.op (asg (oc _)) (by decide) ?_
    refine WL.nl (.thn ?_)
    exact WP.rt (.rthn (.r1 rfl rfl (imp _)))
  · skip
    have hl : xs.length ≤ 300 := by simp at hc; omega
    refine WP.sk (.thn ?_)
    refine WP.seq ?_
    -- region 5 law.go:125
    refine WP.region ?_
    refine WL.op (call c_x_New .n) (by decide) ?_
    refine WL.alloc zr_Tree rfl (by decide) fun b5 => ?_
    refine WL.store 0 rfl (ot rfl) (ot rfl) (.agg _) sz_Tree rfl (le_ rfl) ?_
    refine WL.nl (.thn ?_)
    refine WP.seq ?_
    refine WP.seq ?_
    -- region 6 law.go:126
    refine WP.region ?_
    refine WL.op (asg (oc _)) (by decide) ?_
    refine WL.nl (.thn ?_)
    refine WP.block ?_
    refine WP.loop (fun y : Nat × Tr => [.b b5 26 [tree y.2]]) (fun y => [(6, I (y.1 : Int)), (0, sl 4 FS xs), (1, val (.int .u8 sp)), (5, val (.pointer (some ⟨b5, 0, none⟩)))]) (fun y => y.1 ≤ xs.length ∧ Wt y.2) (fun y => xs.length - y.1) (0, .nil) ⟨Nat.zero_le _, wt_nil⟩ (Sub.ofD 0 rfl (Sub.cons rfl (imp_eq rfl) (Sub.cons rfl (imp _) (Sub.cons rfl (imp _) (Sub.cons rfl (imp _) Sub.nil))))) (fun y hi => ?_)
    obtain ⟨i, t⟩ := y
    replace hi : i ≤ xs.length ∧ Wt t := hi
    show WP _ _ _ _ [.b b5 26 [tree t]] [(6, I (i : Int)), (0, sl 4 FS xs), (1, val (.int .u8 sp)), (5, val (.pointer (some ⟨b5, 0, none⟩)))] _ _
    refine WP.seq ?_
    refine WP.seq ?_
    -- region 7 law.go:126
    refine WP.region ?_
    refine WL.op (mv (ot rfl)) (by decide) ?_
    refine WL.op (mv (ot rfl)) (by decide) ?_
    refine WL.op (len_ us_s_tegularef33_Step (ot rfl)) (by decide) ?_
    refine WL.op (lss (ot rfl) (ot rfl)) (by decide) ?_
    refine WL.nl (.thn ?_)
    -- law.go:126
    refine WP.condB (decide (i < xs.length)) rfl (by rw [Bool.eq_iff_iff]; simp) (fun hc => ?_) (fun hc => ?_)
    · skip
      have hc1 : i < xs.length := by simpa using hc
      have hu : U8 (xs.getD (i : Int).toNat default) := getD_all hU hc1
      unfold U8 at hu
      have hm : 0 ≤ (xs.getD (i : Int).toNat default).a * (1 + sp) ∧ (xs.getD (i : Int).toNat default).a * (1 + sp) ≤ 65280 := ⟨Int.mul_nonneg (by omega) (by omega), Int.le_trans (Int.mul_le_mul (c := 255) (d := 256) (by omega) (by omega) (by omega) (by omega)) (by decide)⟩
      refine WP.sk (.thn ?_)
      refine WP.seq ?_
      refine WP.block ?_
      refine WP.seq ?_
      -- region 9 law.go:127
      refine WP.region ?_
      refine WL.op (mv (ot rfl)) (by decide) ?_
      refine WL.op (mv (ot rfl)) (by decide) ?_
      refine WL.op (ixd el_s_tegularef33_Step (ot rfl) (ot rfl) (by omega) (by omega)) (by decide) ?_
      refine WL.op (ls ag_ef33_Step (ot rfl) (le_ rfl)) (by decide) ?_
      refine WL.alloc zr_ef33_Step rfl (by decide) fun b7 => ?_
      refine WL.store 0 rfl (ot rfl) (ot rfl) (.agg _) sz_ef33_Step rfl (le_ rfl) ?_
      refine WL.nl (.thn ?_)
      refine WP.seq ?_
      -- region 10 law.go:128
      refine WP.region ?_
      refine WL.op (fv fo_ef33_Step_1 (ot rfl)) (by decide) ?_
      refine WL.op (lb 0 rfl sc_uint8 (ot rfl) rfl) (by decide) ?_
      refine WL.op (cv un_uint8 un_int (ot rfl) (IntWalk.i64_in _ (by omega))) (by decide) ?_
      refine WL.op (mv (ot rfl)) (by decide) ?_
      refine WL.op (cv un_uint8 un_int (ot rfl) (IntWalk.i64_in _ (by omega))) (by decide) ?_
      refine WL.op (add (oc _) (ot rfl) (by omega)) (by decide) ?_
      refine WL.op (mul (ot rfl) (ot rfl) (by omega)) (by decide) ?_
      refine WL.op (fv fo_ef33_Step_2 (ot rfl)) (by decide) ?_
      refine WL.op (lb 0 rfl sc_uint8 (ot rfl) rfl) (by decide) ?_
      refine WL.op (rem_ (ot rfl) (oc _) (by omega) (by omega)) (by decide) ?_
      refine WL.op (cv un_uint8 un_int (ot rfl) (IntWalk.i64_in _ (by omega))) (by decide) ?_
      refine WL.op (add (oc _) (ot rfl) (by omega)) (by decide) ?_
      refine WL.op (fv fo_ef33_Step_3 (ot rfl)) (by decide) ?_
      refine WL.op (lb 0 rfl sc_uint8 (ot rfl) rfl) (by decide) ?_
      refine WL.op (cv un_uint8 un_int (ot rfl) (IntWalk.i64_in _ (by omega))) (by decide) ?_
      refine WL.op (bld zr_Extent rfl ps_Extent (.c (ot rfl) (.leaf (.val rfl)) pl_Extent_0 rfl (le_ rfl) (.c (ot rfl) (.leaf (.val rfl)) pl_Extent_1 rfl (le_ rfl) (.c (ot rfl) (.leaf (.val rfl)) pl_Extent_2 rfl (le_ rfl) .n)))) (by decide) ?_
      refine WL.alloc zr_Extent rfl (by decide) fun b8 => ?_
      refine WL.store 0 rfl (ot rfl) (ot rfl) (.agg _) sz_Extent rfl (le_ rfl) ?_
      refine WL.nl (.thn ?_)
      refine WP.seq ?_
      refine WP.seq ?_
      -- region 11 law.go:129
      refine WP.region ?_
      refine WL.op (fv fo_Extent_0 (ot rfl)) (by decide) ?_
      refine WL.op (lb 0 rfl sc_int (ot rfl) rfl) (by decide) ?_
      refine WL.op (fv fo_Extent_1 (ot rfl)) (by decide) ?_
      refine WL.op (lb 0 rfl sc_int (ot rfl) rfl) (by decide) ?_
      refine WL.op (add (ot rfl) (ot rfl) (by omega)) (by decide) ?_
      refine WL.op (gtr (ot rfl) (oc _)) (by decide) ?_
      refine WL.nl (.thn ?_)
      -- law.go:129
      refine WP.cond rfl (fun hc => ?_) (fun hc => ?_)
      · skip
        refine WP.xt (.xthn (.xin (.thn ?_)))
        -- region 8 law.go:126
        refine WP.region ?_
        refine WL.op (mv (ot rfl)) (by decide) ?_
        refine WL.op (add (ot rfl) (oc _) (by omega)) (by decide) ?_
        refine WL.op (asg (ot rfl)) (by decide) ?_
        exact WL.nl (.again (i + 1, t) ⟨hc1, hi.2⟩ (by show xs.length - (i + 1) < xs.length - i; omega) (Sub.ofD 2 rfl (Sub.cons rfl (imp_eq (congrArg I (by omega))) (Sub.cons rfl (imp _) (Sub.cons rfl (imp _) (Sub.cons rfl (imp _) Sub.nil))))))
      · skip
        have hle : (xs.getD (i : Int).toNat default).a * (1 + sp) + (1 + (xs.getD (i : Int).toNat default).n % 4) ≤ 65536 := by simp at hc; omega
        refine WP.sk (.thn ?_)
        refine WP.seq ?_
        -- region 12 law.go:132
        refine WP.region ?_
        refine WL.op (asg (oc _)) (by decide) ?_
        refine WL.nl (.thn ?_)
        refine WP.seq ?_
        refine WP.seq ?_
        -- region 13 law.go:133
        refine WP.region ?_
        refine WL.op (fv fo_ef33_Step_0 (ot rfl)) (by decide) ?_
        refine WL.op (lb 1 rfl sc_bool (ot rfl) rfl) (by decide) ?_
        refine WL.nl (.thn ?_)
        -- law.go:133
        refine WP.cond rfl (fun hc => ?_) (fun hc => ?_)
        · skip
          -- region 14 law.go:134
          refine WP.region ?_
          refine WL.op (lbs 2 rfl ag_Tree (ot rfl) (le_ rfl)) (by decide) ?_
          refine WL.op (fv fo_Extent_0 (ot rfl)) (by decide) ?_
          refine WL.op (lb 0 rfl sc_int (ot rfl) rfl) (by decide) ?_
          refine WL.op (fv fo_Extent_1 (ot rfl)) (by decide) ?_
          refine WL.op (lb 0 rfl sc_int (ot rfl) rfl) (by decide) ?_
          refine WL.op (call (c_x_Cut (t := t) (a := (xs.getD (i : Int).toNat default).a * (1 + sp)) (n := 1 + (xs.getD (i : Int).toNat default).n % 4) hi.2 (by unfold Wi; omega) (by omega)) (.c (ot rfl) (.c (ot rfl) (.c (ot rfl) .n)))) (by decide) ?_
          refine WL.op (mv (ot rfl)) (by decide) ?_
          refine WL.op (ex (ot rfl) rfl) (by decide) ?_
          refine WL.op (ex (ot rfl) rfl) (by decide) ?_
          refine WL.op (ex (ot rfl) rfl) (by decide) ?_
          refine WL.store 2 rfl (ot rfl) (ot rfl) (.agg _) sz_Tree rfl (le_ rfl) ?_
          refine WL.op (asg (ot rfl)) (by decide) ?_
          refine WL.nl (.thn ?_)
          refine WP.seq ?_
          -- region 16 law.go:138
          refine WP.region ?_
          refine WL.op (mv (ot rfl)) (by decide) ?_
          refine WL.op (neq (ot rfl) (oc _)) (by decide) ?_
          refine WL.op (mv (ot rfl)) (by decide) ?_
          refine WL.gT rfl rfl ?_ -- g2
          refine WL.op (lbs 2 rfl ag_Tree (ot rfl) (le_ rfl)) (by decide) ?_
          refine WL.gT rfl rfl ?_ -- g2
          refine WL.op (call (c_w33_balanced (cut_spec hi.2 (a := (xs.getD (i : Int).toNat default).a * (1 + sp)) (n := 1 + (xs.getD (i : Int).toNat default).n % 4) hm.1 (by omega)).1) (.c (ot rfl) .n)) (by decide) ?_
          refine WL.gT rfl rfl ?_ -- g2
          refine WL.op (not_ (ot rfl)) (by decide) ?_
          refine WL.op (pickF (ot rfl) (ot rfl)) (by decide) ?_
          refine WL.nl (.thn ?_)
          -- law.go:138
          refine WP.condF rfl ?_
          refine WP.sk (.blk (.thn ?_))
          -- region 8 law.go:126
          refine WP.region ?_
          refine WL.op (mv (ot rfl)) (by decide) ?_
          refine WL.op (add (ot rfl) (oc _) (by omega)) (by decide) ?_
          refine WL.op (asg (ot rfl)) (by decide) ?_
          exact WL.nl (.again (i + 1, (cut t ((xs.getD (i : Int).toNat default).a * (1 + sp)) (1 + (xs.getD (i : Int).toNat default).n % 4)).1) ⟨hc1, (cut_spec hi.2 (a := (xs.getD (i : Int).toNat default).a * (1 + sp)) (n := 1 + (xs.getD (i : Int).toNat default).n % 4) hm.1 (by omega)).1⟩ (by show xs.length - (i + 1) < xs.length - i; omega) (Sub.ofD 2 rfl (Sub.cons rfl (imp_eq (congrArg I (by omega))) (Sub.cons rfl (imp _) (Sub.cons rfl (imp _) (Sub.cons rfl (imp _) Sub.nil))))))
        · skip
          -- region 15 law.go:136
          refine WP.region ?_
          refine WL.op (lbs 2 rfl ag_Tree (ot rfl) (le_ rfl)) (by decide) ?_
          refine WL.op (lbs 0 rfl ag_Extent (ot rfl) (le_ rfl)) (by decide) ?_
          refine WL.op (call (c_x_Put (t := t) (x := ⟨(xs.getD (i : Int).toNat default).a * (1 + sp), 1 + (xs.getD (i : Int).toNat default).n % 4, (xs.getD (i : Int).toNat default).s⟩) hi.2 hm.1 (by unfold Vx; simp only []; omega)) (.c (ot rfl) (.c (ot rfl) .n))) (by decide) ?_
          refine WL.op (mv (ot rfl)) (by decide) ?_
          refine WL.op (ex (ot rfl) rfl) (by decide) ?_
          refine WL.op (ex (ot rfl) rfl) (by decide) ?_
          refine WL.op (ex (ot rfl) rfl) (by decide) ?_
          refine WL.store 2 rfl (ot rfl) (ot rfl) (.agg _) sz_Tree rfl (le_ rfl) ?_
          refine WL.op (asg (ot rfl)) (by decide) ?_
          refine WL.nl (.thn ?_)
          refine WP.seq ?_
          -- region 16 law.go:138
          refine WP.region ?_
          refine WL.op (mv (ot rfl)) (by decide) ?_
          refine WL.op (neq (ot rfl) (oc _)) (by decide) ?_
          refine WL.op (mv (ot rfl)) (by decide) ?_
          refine WL.gT rfl rfl ?_ -- g2
          refine WL.op (lbs 2 rfl ag_Tree (ot rfl) (le_ rfl)) (by decide) ?_
          refine WL.gT rfl rfl ?_ -- g2
          refine WL.op (call (c_w33_balanced (put_spec hi.2 (x := ⟨(xs.getD (i : Int).toNat default).a * (1 + sp), 1 + (xs.getD (i : Int).toNat default).n % 4, (xs.getD (i : Int).toNat default).s⟩) hm.1 (by unfold Vx; simp only []; omega)).1) (.c (ot rfl) .n)) (by decide) ?_
          refine WL.gT rfl rfl ?_ -- g2
          refine WL.op (not_ (ot rfl)) (by decide) ?_
          refine WL.op (pickF (ot rfl) (ot rfl)) (by decide) ?_
          refine WL.nl (.thn ?_)
          -- law.go:138
          refine WP.condF rfl ?_
          refine WP.sk (.blk (.thn ?_))
          -- region 8 law.go:126
          refine WP.region ?_
          refine WL.op (mv (ot rfl)) (by decide) ?_
          refine WL.op (add (ot rfl) (oc _) (by omega)) (by decide) ?_
          refine WL.op (asg (ot rfl)) (by decide) ?_
          exact WL.nl (.again (i + 1, (put t ⟨(xs.getD (i : Int).toNat default).a * (1 + sp), 1 + (xs.getD (i : Int).toNat default).n % 4, (xs.getD (i : Int).toNat default).s⟩).1) ⟨hc1, (put_spec hi.2 (x := ⟨(xs.getD (i : Int).toNat default).a * (1 + sp), 1 + (xs.getD (i : Int).toNat default).n % 4, (xs.getD (i : Int).toNat default).s⟩) hm.1 (by unfold Vx; simp only []; omega)).1⟩ (by show xs.length - (i + 1) < xs.length - i; omega) (Sub.ofD 2 rfl (Sub.cons rfl (imp_eq (congrArg I (by omega))) (Sub.cons rfl (imp _) (Sub.cons rfl (imp _) (Sub.cons rfl (imp _) Sub.nil))))))
    · skip
      have hc1 : ¬ i < xs.length := by simpa using hc
      refine WP.xt (.xthn (.xthn (.xin (.thn ?_))))
      refine WP.seq ?_
      -- region 18 law.go:142
      refine WP.region ?_
      refine WL.op (asg (oc _)) (by decide) ?_
      refine WL.nl (.thn ?_)
      exact WP.rt (.r1 rfl rfl (imp _))
end Go.Proofs.Ytjglgfnhgehpeaa

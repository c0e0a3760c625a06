/- ExtreeScript, ExtreeFind: what they compute. -/
import Derived.Test.YtjglgfnhgehpeaaRefD
import Derived.Test.YtjglgfnhgehpeaaLawB
set_option linter.unusedVariables false
set_option linter.unusedSimpArgs false
set_option maxRecDepth 4000
namespace Go.Proofs.Ytjglgfnhgehpeaa
open Go.RowKit Go.Fw Go.Xt

theorem low_nil : Low ([] : List X) := fun _ _ => rfl
theorem step_like {t : Tr} (h : Wt t) (s : Sp) : Like (tStep t s) (rApply t.list s) := by
  unfold tStep rApply
  split
  · exact like_cut h _ _
  · exact like_put h _
theorem step_low {t : Tr} (h : Wt t) (hw : Low t.list) {s : Sp} (hu : U8 s) : Low (tStep t s).1.list := by
  unfold tStep
  split
  · exact low_cut h hw _ _
  · exact low_put h hw (by unfold U8 at hu; simp only [toX]; omega)
theorem low_600 {t : Tr} (h : Wt t) (hw : Low t.list) : t.list.length ≤ 600 := by
  have := low_len h.2.1 hw (by omega)
  omega
theorem rApply_len {L : List X} (s : Sp) : (rApply L s).2.1.length ≤ L.length := by
  unfold rApply rCut rPut
  split <;> split <;> first | exact Nat.le_trans (jn_len _) (parts_len _ _ _) | exact Nat.zero_le _
theorem rCut_len {L : List X} (a n : Int) : (rCut L a n).2.1.length ≤ L.length := by
  unfold rCut
  split <;> first | exact Nat.le_trans (jn_len _) (parts_len _ _ _) | exact Nat.zero_le _
/-- the tree behind a script -/
def bStep (t : Tr) (s : Sp) : Tr := if (rApply t.list s).2.2 = 0 then (tStep t s).1 else t
def run (xs : List Sp) : Tr := xs.foldl bStep .nil
theorem run_step {xs : List Sp} {i : Nat} (hi : i < xs.length) : run (xs.take (i + 1)) = bStep (run (xs.take i)) (xs.getD (i : Int).toNat default) := by
  unfold run
  rw [show ((i : Nat) : Int).toNat = i from by omega, List.getD_eq_getElem?_getD, List.take_add_one, List.getElem?_eq_getElem hi]
  show List.foldl _ _ (_ ++ [xs[i]]) = _
  rw [List.foldl_append]; rfl
theorem run_ok {xs : List Sp} (hU : ∀ x ∈ xs, U8 x) : Wt (run xs) ∧ Low (run xs).list := by
  have : ∀ (xs : List Sp) (t : Tr), (∀ x ∈ xs, U8 x) → Wt t ∧ Low t.list → Wt (xs.foldl bStep t) ∧ Low (xs.foldl bStep t).list := by
    intro xs
    induction xs with
    | nil => intro t _ h; exact h
    | cons x xs ih =>
      intro t hU h
      refine ih _ (fun y hy => hU y (List.mem_cons_of_mem _ hy)) ?_
      unfold bStep
      split
      · exact ⟨(step_like h.1 x).wt, step_low h.1 h.2 (hU x List.mem_cons_self)⟩
      · exact h
  exact this xs .nil hU ⟨wt_nil, low_nil⟩

theorem c_w33_build {xs : List Sp} (hU : ∀ x ∈ xs, U8 x) (hl : xs.length ≤ 1000) : PureC Try.prog 23 [sl 4 FS xs] (tup [eT (run xs), sl 3 FX (run xs).list]) := by
  refine PureC.of_wp Try.func23 (by kernel_rfl) rfl Try.ntmps23 (le_ rfl) (fun w0 M0 => ?_)
  refine WP.seq ?_
  -- region 0 law.go:70
  refine WP.region ?_
  refine WL.alloc zr_Tree rfl (by decide) fun b2 => ?_
  refine WL.op (asg (oc _)) (by decide) ?_
  refine WL.nl (.thn ?_)
  refine WP.seq ?_
  -- region 1 law.go:71
  refine WP.region ?_
  refine WL.op (call c_x_New .n) (by decide) ?_
  refine WL.alloc zr_Tree rfl (by decide) fun b4 => ?_
  refine WL.store 0 rfl (ot rfl) (ot rfl) (.agg _) sz_Tree rfl (le_ rfl) ?_
  refine WL.nl (.thn ?_)
  refine WP.seq ?_
  -- region 2 law.go:72
  refine WP.region ?_
  refine WL.op (asg (oc _)) (by decide) ?_
  refine WL.nl (.thn ?_)
  refine WP.seq ?_
  refine WP.seq ?_
  -- region 3 law.go:73
  refine WP.region ?_
  refine WL.op (asg (oc _)) (by decide) ?_
  refine WL.nl (.thn ?_)
  refine WP.block ?_
  refine WP.loop (fun y : Nat × Tr => [.b b4 26 [tree y.2], .b b2 26 [tree .nil]]) (fun y => [(6, I (y.1 : Int)), (5, sl 3 FX y.2.list), (0, sl 4 FS xs), (4, val (.pointer (some ⟨b4, 0, none⟩))), (2, val (.pointer (some ⟨b2, 0, none⟩)))]) (fun y => y.1 ≤ xs.length ∧ y.2 = run (xs.take y.1) ∧ Wt y.2 ∧ Low y.2.list) (fun y => xs.length - y.1) (0, .nil) ⟨Nat.zero_le _, rfl, wt_nil, low_nil⟩ (Sub.ofD 0 rfl (Sub.cons rfl (imp_eq rfl) (Sub.cons rfl sl_nil (Sub.cons rfl (imp _) (Sub.cons rfl (imp _) (Sub.cons rfl (imp _) Sub.nil)))))) (fun y hi => ?_)
  obtain ⟨i, t⟩ := y
  replace hi : i ≤ xs.length ∧ t = run (xs.take i) ∧ Wt t ∧ Low t.list := hi
  show WP _ _ _ _ [.b b4 26 [tree t], .b b2 26 [tree .nil]] [(6, I (i : Int)), (5, sl 3 FX t.list), (0, sl 4 FS xs), (4, val (.pointer (some ⟨b4, 0, none⟩))), (2, val (.pointer (some ⟨b2, 0, none⟩)))] _ _
  refine WP.seq ?_
  refine WP.seq ?_
  -- region 4 law.go:73
  refine WP.region ?_
  refine WL.op (mv (ot rfl)) (by decide) ?_
  refine WL.op (mv (ot rfl)) (by decide) ?_
  refine WL.op (len_ us_s_tegularef33_Step (ot rfl)) (by decide) ?_
  refine WL.op (lss (ot rfl) (ot rfl)) (by decide) ?_
  refine WL.nl (.thn ?_)
  -- law.go:73
  refine WP.cond rfl (fun hc => ?_) (fun hc => ?_)
  · skip
    have hc1 : i < xs.length := by have := of_decide_eq_true hc; omega
    have hu := getD_all hU hc1
    obtain ⟨hil, hr, hw, hlo⟩ := hi
    have hlen := low_600 hw hlo
    have K := step_like hw (xs.getD (i : Int).toNat default)
    have hlo2 := step_low hw hlo hu
    refine WP.sk (.thn ?_)
    refine WP.seq ?_
    refine WP.block ?_
    refine WP.seq ?_
    -- region 6 law.go:74
    refine WP.region ?_
    refine WL.op (mv (ot rfl)) (by decide) ?_
    refine WL.op (mv (ot rfl)) (by decide) ?_
    refine WL.op (mv (ot rfl)) (by decide) ?_
    refine WL.op (ixd el_s_tegularef33_Step (ot rfl) (ot rfl) (by omega) (by omega)) (by decide) ?_
    refine WL.op (ls ag_ef33_Step (ot rfl) (le_ rfl)) (by decide) ?_
    refine WL.op (call (c_r33_Apply (xs := t.list) (s := (xs.getD (i : Int).toNat default)) (by omega) hw.2.1 hu) (.c (ot rfl) (.c (ot rfl) .n))) (by decide) ?_
    refine WL.op (mv (ot rfl)) (by decide) ?_
    refine WL.op (ex (ot rfl) rfl) (by decide) ?_
    refine WL.op (ex (ot rfl) rfl) (by decide) ?_
    refine WL.op (ex (ot rfl) rfl) (by decide) ?_
    refine WL.op (asg (ot rfl)) (by decide) ?_
    refine WL.op (asg (ot rfl)) (by decide) ?_
    refine WL.op (asg (ot rfl)) (by decide) ?_
    refine WL.nl (.thn ?_)
    refine WP.seq ?_
    refine WP.seq ?_
    -- region 7 law.go:75
    refine WP.region ?_
    refine WL.op (mv (ot rfl)) (by decide) ?_
    refine WL.op (neq (ot rfl) (oc _)) (by decide) ?_
    refine WL.nl (.thn ?_)
    -- law.go:75
    refine WP.cond rfl (fun hc => ?_) (fun hc => ?_)
    · skip
      have hne : ¬ (rApply t.list (xs.getD (i : Int).toNat default)).2.2 = 0 := by simpa using hc
      refine WP.xt (.xthn (.xin (.thn ?_)))
      -- region 5 law.go:73
      refine WP.region ?_
      refine WL.op (mv (ot rfl)) (by decide) ?_
      refine WL.op (add (ot rfl) (oc _) (by omega)) (by decide) ?_
      refine WL.op (asg (ot rfl)) (by decide) ?_
      exact WL.nl (.again (i + 1, t) ⟨hc1, (by rw [run_step hc1, ← hr, bStep, if_neg hne]), hw, hlo⟩ (by show xs.length - (i + 1) < xs.length - i; omega) (Sub.ofD 0 rfl (Sub.cons rfl (imp_eq (congrArg I (by omega))) (Sub.cons rfl (imp _) (Sub.cons rfl (imp _) (Sub.cons rfl (imp _) (Sub.cons rfl (imp _) Sub.nil)))))))
    · skip
      have he : (rApply t.list (xs.getD (i : Int).toNat default)).2.2 = 0 := by simpa using hc
      refine WP.sk (.thn ?_)
      refine WP.seq ?_
      -- region 8 draws law.go:78
      refine WP.drawsH [0] ?_
      refine RG.opE (lbs 0 rfl ag_Tree (ot rfl) (le_ rfl)) ?_
      refine RG.opE (mv (ot rfl)) ?_
      refine RG.opE (mv (ot rfl)) ?_
      refine RG.opE (ixd el_s_tegularef33_Step (ot rfl) (ot rfl) (by omega) (by omega)) ?_
      refine RG.opE (ls ag_ef33_Step (ot rfl) (le_ rfl)) ?_
      refine RG.opE (call (c_w33_step (t := t) (s := (xs.getD (i : Int).toNat default)) hw hu) (.c (ot rfl) (.c (ot rfl) .n))) ?_
      refine RG.opE (mv (ot rfl)) ?_
      refine RG.opE (ex (ot rfl) rfl) ?_
      refine RG.op (ex (ot rfl) rfl) ?_
      refine RG.op (ex (ot rfl) rfl) ?_
      refine RG.sx (OpE.store 0 rfl (ot rfl) (ot rfl) (.agg _) sz_Tree rfl (le_ rfl)) rfl ?_
      refine RG.fin HM (by kernel_rfl) ?_
      show WL _ _ _ _ _ _ _ _ _
      refine WL.nl (.thn ?_)
      -- region 9 law.go:79
      refine WP.region ?_
      refine WL.op (mv (ot rfl)) (by decide) ?_
      refine WL.op (asg (ot rfl)) (by decide) ?_
      refine WL.nl (.blk (.thn ?_))
      -- region 5 law.go:73
      refine WP.region ?_
      refine WL.op (mv (ot rfl)) (by decide) ?_
      refine WL.op (add (ot rfl) (oc _) (by omega)) (by decide) ?_
      refine WL.op (asg (ot rfl)) (by decide) ?_
      exact WL.nl (.again (i + 1, (tStep t (xs.getD (i : Int).toNat default)).1) ⟨hc1, (by rw [run_step hc1, ← hr, bStep, if_pos he]), K.wt, hlo2⟩ (by show xs.length - (i + 1) < xs.length - i; omega) (Sub.ofD 0 rfl (Sub.cons rfl (imp_eq (congrArg I (by omega))) (Sub.cons rfl (imp_eq (by rw [K.list])) (Sub.cons rfl (imp _) (Sub.cons rfl (imp _) (Sub.cons rfl (imp _) Sub.nil)))))))
  · skip
    have hc1 : ¬ i < xs.length := by have := of_decide_eq_false hc; omega
    refine WP.xt (.xthn (.xthn (.xin (.thn ?_))))
    refine WP.seq ?_
    -- region 10 law.go:81
    refine WP.region ?_
    refine WL.op (lbs 0 rfl ag_Tree (ot rfl) (le_ rfl)) (by decide) ?_
    refine WL.op (mv (ot rfl)) (by decide) ?_
    refine WL.store 1 rfl (ot rfl) (ot rfl) (.agg _) sz_Tree rfl (le_ rfl) ?_
    refine WL.op (asg (ot rfl)) (by decide) ?_
    refine WL.nl (.thn ?_)
    have hr2 : t = run xs := by rw [hi.2.1, List.take_of_length_le (by omega)]
    exact WP.rt (.rN rfl (.cons (.bx 1 rfl rfl ag_Tree) (.cons (.tm rfl) .nil)) (le_ rfl) (imp_eq (by rw [← hr2]; rfl)))
theorem c_w33_ExtreeFind {xs : List Sp} {at_ n : Int} (hU : ∀ x ∈ xs, U8 x) (_ha : -9223372036854775808 ≤ at_ ∧ at_ ≤ 9223372036854775807) (_hn : -9223372036854775808 ≤ n ∧ n ≤ 9223372036854775807) : PureC Try.prog 9 [sl 4 FS xs, I at_, I n] (val (.bool true)) := by
  obtain ⟨hw, hlo⟩ := run_ok hU
  have hlen := low_600 hw hlo
  have K := like_cut hw at_ n
  have hcl := rCut_len (L := (run xs).list) at_ n
  refine PureC.of_wp Try.func9 (by kernel_rfl) rfl Try.ntmps9 (le_ rfl) (fun w0 M0 => ?_)
  refine WP.seq ?_
  -- region 0 law.go:85
  refine WP.region ?_
  refine WL.op (asg (oc _)) (by decide) ?_
  refine WL.nl (.thn ?_)
  refine WP.seq ?_
  refine WP.seq ?_
  -- region 1 law.go:86
  refine WP.region ?_
  refine WL.op (call c_w33_awake .n) (by decide) ?_
  refine WL.op (not_ (ot rfl)) (by decide) ?_
  refine WL.nl (.thn ?_)
  -- law.go:86
  refine WP.condF rfl ?_
  refine WP.sk (.thn ?_)
  refine WP.seq ?_
  refine WP.seq ?_
  -- region 3 law.go:89
  refine WP.region ?_
  refine WL.op (mv (ot rfl)) (by decide) ?_
  refine WL.op (len_ us_s_tegularef33_Step (ot rfl)) (by decide) ?_
  refine WL.op (gtr (ot rfl) (oc _)) (by decide) ?_
  refine WL.nl (.thn ?_)
  -- law.go:89
  refine WP.cond rfl (fun hc => ?_) (fun hc => ?_)
  · skip
    refine WP.seq ?_
    -- region 4 law.go:90
    refine WP.region ?_
    refine WL.op (asg (oc _)) (by decide) ?_
    refine WL.nl (.thn ?_)
    exact WP.rt (.rthn (.r1 rfl rfl (imp _)))
  · skip
    have hle : xs.length ≤ 40 := by have := of_decide_eq_false hc; omega
    refine WP.sk (.thn ?_)
    refine WP.seq ?_
    -- region 5 law.go:92
    refine WP.region ?_
    refine WL.op (mv (ot rfl)) (by decide) ?_
    refine WL.op (call (c_w33_build hU (by omega)) (.c (ot rfl) .n)) (by decide) ?_
    refine WL.op (mv (ot rfl)) (by decide) ?_
    refine WL.op (ex (ot rfl) rfl) (by decide) ?_
    refine WL.op (ex (ot rfl) rfl) (by decide) ?_
    refine WL.alloc zr_Tree rfl (by decide) fun b7 => ?_
    refine WL.store 0 rfl (ot rfl) (ot rfl) (.agg _) sz_Tree rfl (le_ rfl) ?_
    refine WL.op (asg (ot rfl)) (by decide) ?_
    refine WL.nl (.thn ?_)
    refine WP.seq ?_
    -- region 6 law.go:93
    refine WP.region ?_
    refine WL.op (lbs 0 rfl ag_Tree (ot rfl) (le_ rfl)) (by decide) ?_
    refine WL.op (mv (ot rfl)) (by decide) ?_
    refine WL.op (call (c_x_Tree_Find (t := run xs) (b := at_) hw.2.1) (.c (ot rfl) (.c (ot rfl) .n))) (by decide) ?_
    refine WL.op (mv (ot rfl)) (by decide) ?_
    refine WL.op (ex (ot rfl) rfl) (by decide) ?_
    refine WL.op (ex (ot rfl) rfl) (by decide) ?_
    refine WL.op (asg (ot rfl)) (by decide) ?_
    refine WL.op (asg (ot rfl)) (by decide) ?_
    refine WL.nl (.thn ?_)
    refine WP.seq ?_
    -- region 7 law.go:94
    refine WP.region ?_
    refine WL.op (mv (ot rfl)) (by decide) ?_
    refine WL.op (mv (ot rfl)) (by decide) ?_
    refine WL.op (call (c_r32_Find (run xs).list at_ (by omega) hw.2.1) (.c (ot rfl) (.c (ot rfl) .n))) (by decide) ?_
    refine WL.op (mv (ot rfl)) (by decide) ?_
    refine WL.op (ex (ot rfl) rfl) (by decide) ?_
    refine WL.op (ex (ot rfl) rfl) (by decide) ?_
    refine WL.op (asg (ot rfl)) (by decide) ?_
    refine WL.op (asg (ot rfl)) (by decide) ?_
    refine WL.nl (.thn ?_)
    refine WP.seq ?_
    -- region 8 law.go:95
    refine WP.region ?_
    refine WL.op (mv (ot rfl)) (by decide) ?_
    refine WL.op (mv (ot rfl)) (by decide) ?_
    refine WL.op (OpG.weak (R' := val (.bool true)) (eql  (ot rfl) (ot rfl)) (imp_eq (congrArg (fun b => val (.bool b)) (decide_eq_true rfl)))) (by decide) ?_
    refine WL.op (mv (ot rfl)) (by decide) ?_
    refine WL.gT rfl rfl ?_ -- g3
    refine WL.op (mv (ot rfl)) (by decide) ?_
    refine WL.gT rfl rfl ?_ -- g3
    refine WL.op (mv (ot rfl)) (by decide) ?_
    refine WL.gT rfl rfl ?_ -- g3
    refine WL.op (OpG.weak (R' := val (.bool true)) (eqb un_bool (ot rfl) (ot rfl)) (imp_eq (congrArg (fun b => val (.bool b)) (beq_self_eq_true _)))) (by decide) ?_
    refine WL.op (pickT (ot rfl) (ot rfl)) (by decide) ?_
    refine WL.op (mv (ot rfl)) (by decide) ?_
    refine WL.gT rfl rfl ?_ -- g8
    refine WL.op (lbs 0 rfl ag_Tree (ot rfl) (le_ rfl)) (by decide) ?_
    refine WL.gT rfl rfl ?_ -- g8
    refine WL.op (mv (ot rfl)) (by decide) ?_
    refine WL.gT rfl rfl ?_ -- g8
    refine WL.op (mv (ot rfl)) (by decide) ?_
    refine WL.gT rfl rfl ?_ -- g8
    refine WL.op (call (c_x_Tree_Range (t := run xs) (a := at_) (n := n) hw) (.c (ot rfl) (.c (ot rfl) (.c (ot rfl) .n)))) (by decide) ?_
    refine WL.gT rfl rfl ?_ -- g8
    refine WL.op (mv (ot rfl)) (by decide) ?_
    refine WL.gT rfl rfl ?_ -- g8
    refine WL.op (mv (ot rfl)) (by decide) ?_
    refine WL.gT rfl rfl ?_ -- g8
    refine WL.op (mv (ot rfl)) (by decide) ?_
    refine WL.gT rfl rfl ?_ -- g8
    refine WL.op (call (c_r33_Range (xs := (run xs).list) (a := at_) (n := n) (by omega) hw.2.1) (.c (ot rfl) (.c (ot rfl) (.c (ot rfl) .n)))) (by decide) ?_
    refine WL.gT rfl rfl ?_ -- g8
    refine WL.op (OpG.weak (R' := val (.bool true)) (call (c_r32_Same (tCut (run xs) at_ n).2.1 (rCut (run xs).list at_ n).2.1 (by rw [K.part]; omega) (by omega)) (.c (ot rfl) (.c (ot rfl) .n))) (imp_eq (congrArg (fun b => val (.bool b)) (decide_eq_true K.part)))) (by decide) ?_
    refine WL.op (pickT (ot rfl) (ot rfl)) (by decide) ?_
    refine WL.op (asg (ot rfl)) (by decide) ?_
    refine WL.nl (.thn ?_)
    exact WP.rt (.r1 rfl rfl (imp _))
end Go.Proofs.Ytjglgfnhgehpeaa

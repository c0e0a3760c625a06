/- A step of a script, of a list and of a tree; Find and Range of a tree. -/
import Derived.Test.YtjglgfnhgehpeaaRefC
import Derived.Test.YtjglgfnhgehpeaaStp
import Derived.Test.YtjglgfnhgehpeaaAll
set_option linter.unusedVariables false
set_option linter.unusedSimpArgs false
set_option maxRecDepth 4000
namespace Go.Proofs.Ytjglgfnhgehpeaa
open Go.RowKit Go.Fw Go.Xt

def toX (s : Sp) : X := ⟨s.a, s.n, s.s⟩
def rApply (L : List X) (s : Sp) : List X × List X × Int := if s.c then rCut L s.a s.n else rPut L (toX s)
def tStep (t : Tr) (s : Sp) : Tr × List X × Int := if s.c then tCut t s.a s.n else tPut t (toX s)
abbrev e3 (r : List X × List X × Int) : Rp := tup [sl 3 FX r.1, sl 3 FX r.2.1, I r.2.2]
abbrev e3T (r : Tr × List X × Int) : Rp := tup [eT r.1, sl 3 FX r.2.1, I r.2.2]
theorem c_r32_Cut {xs : List X} {a n : Int} (hl : xs.length ≤ 30000) (ho : Xt.Ok 0 xs) : PureC Try.prog 50 [sl 3 FX xs, I a, I n] (e3 (rCut xs a n)) := by
  unfold rCut
  split
  · rename_i h; exact c_r32_Cut_ok hl ho h
  · rename_i h; exact c_r32_Cut_err hl ho h
theorem c_r32_Put {xs : List X} {x : X} (hl : xs.length ≤ 30000) (ho : Xt.Ok 0 xs) : PureC Try.prog 51 [sl 3 FX xs, ext x] (e3 (rPut xs x)) := by
  unfold rPut
  split
  · rename_i h; exact c_r32_Put_ok hl ho h
  · rename_i h; exact c_r32_Put_err hl ho h
theorem c_x_CutT {t : Tr} {a n : Int} (h : Wt t) : PureC Try.prog 14 [eT t, I a, I n] (e3T (tCut t a n)) := by
  unfold tCut
  split
  · rename_i hw
    split
    · rename_i h0; subst h0; exact c_x_Cut_0 hw
    · rename_i h0; exact c_x_Cut h hw (by have := hw.2.1; omega)
  · rename_i hw; exact c_x_Cut_err hw
theorem c_x_PutT {t : Tr} {x : X} (h : Wt t) : PureC Try.prog 15 [eT t, ext x] (e3T (tPut t x)) := by
  unfold tPut
  split
  · rename_i hw; exact c_x_Put h hw.2.1.1 (vx_of hw)
  · rename_i hw
    refine c_x_Put_err fun ho => hw ?_
    obtain ⟨h1, h2, h3, h4, h5, _⟩ := ho
    unfold Pr Wi
    omega

theorem c_r33_Step_Extent {s : Sp} (hu : U8 s) : PureC Try.prog 52 [agg (FS s)] (ext (toX s)) := by
  unfold U8 at hu
  refine PureC.of_wp Try.func52 (by kernel_rfl) rfl Try.ntmps52 (le_ rfl) (fun w0 M0 => ?_)
  refine WP.seq ?_
  -- region 0 ref.go:16
  refine WP.region ?_
  refine WL.box (ot rfl) (.agg _) (by decide) fun b1 => ?_
  refine WL.alloc zr_Extent rfl (by decide) fun b2 => ?_
  refine WL.nl (.thn ?_)
  refine WP.seq ?_
  -- region 1 ref.go:17
  refine WP.region ?_
  refine WL.op (fv fo_ef33_Step_1 (ot rfl)) (by decide) ?_
  refine WL.op (lb 1 rfl sc_uint8 (ot rfl) rfl) (by decide) ?_
  refine WL.op (cv un_uint8 un_int (ot rfl) (IntWalk.i64_in _ (by omega))) (by decide) ?_
  refine WL.op (fv fo_ef33_Step_2 (ot rfl)) (by decide) ?_
  refine WL.op (lb 1 rfl sc_uint8 (ot rfl) rfl) (by decide) ?_
  refine WL.op (cv un_uint8 un_int (ot rfl) (IntWalk.i64_in _ (by omega))) (by decide) ?_
  refine WL.op (fv fo_ef33_Step_3 (ot rfl)) (by decide) ?_
  refine WL.op (lb 1 rfl sc_uint8 (ot rfl) rfl) (by decide) ?_
  refine WL.op (cv un_uint8 un_int (ot rfl) (IntWalk.i64_in _ (by omega))) (by decide) ?_
  refine WL.op (bld zr_Extent rfl ps_Extent (.c (ot rfl) (.leaf (.val rfl)) pl_Extent_0 rfl (le_ rfl) (.c (ot rfl) (.leaf (.val rfl)) pl_Extent_1 rfl (le_ rfl) (.c (ot rfl) (.leaf (.val rfl)) pl_Extent_2 rfl (le_ rfl) .n)))) (by decide) ?_
  refine WL.store 0 rfl (ot rfl) (ot rfl) (.agg _) sz_Extent rfl (le_ rfl) ?_
  refine WL.nl (.thn ?_)
  exact WP.rt (.rB rfl (.bx 0 rfl rfl ag_Extent) (imp _))
theorem c_r33_Apply {xs : List X} {s : Sp} (hl : xs.length ≤ 30000) (ho : Xt.Ok 0 xs) (hu : U8 s) : PureC Try.prog 19 [sl 3 FX xs, agg (FS s)] (e3 (rApply xs s)) := by
  have hu' := hu
  unfold U8 at hu
  refine PureC.of_wp Try.func19 (by kernel_rfl) rfl Try.ntmps19 (le_ rfl) (fun w0 M0 => ?_)
  refine WP.seq ?_
  -- region 0 ref.go:21
  refine WP.region ?_
  refine WL.box (ot rfl) (.agg _) (by decide) fun b3 => ?_
  refine WL.op (asg (oc _)) (by decide) ?_
  refine WL.op (asg (oc _)) (by decide) ?_
  refine WL.op (asg (oc _)) (by decide) ?_
  refine WL.nl (.thn ?_)
  refine WP.seq ?_
  refine WP.seq ?_
  -- region 1 ref.go:22
  refine WP.region ?_
  refine WL.op (fv fo_ef33_Step_0 (ot rfl)) (by decide) ?_
  refine WL.op (lb 0 rfl sc_bool (ot rfl) rfl) (by decide) ?_
  refine WL.nl (.thn ?_)
  -- ref.go:22
  refine WP.cond rfl (fun hc => ?_) (fun hc => ?_)
  · skip
    refine WP.seq ?_
    -- region 2 ref.go:23
    refine WP.region ?_
    refine WL.op (mv (ot rfl)) (by decide) ?_
    refine WL.op (fv fo_ef33_Step_1 (ot rfl)) (by decide) ?_
    refine WL.op (lb 0 rfl sc_uint8 (ot rfl) rfl) (by decide) ?_
    refine WL.op (cv un_uint8 un_int (ot rfl) (IntWalk.i64_in _ (by omega))) (by decide) ?_
    refine WL.op (fv fo_ef33_Step_2 (ot rfl)) (by decide) ?_
    refine WL.op (lb 0 rfl sc_uint8 (ot rfl) rfl) (by decide) ?_
    refine WL.op (cv un_uint8 un_int (ot rfl) (IntWalk.i64_in _ (by omega))) (by decide) ?_
    refine WL.op (call (c_r32_Cut (xs := xs) (a := s.a) (n := s.n) hl ho) (.c (ot rfl) (.c (ot rfl) (.c (ot rfl) .n)))) (by decide) ?_
    refine WL.op (ex (ot rfl) rfl) (by decide) ?_
    refine WL.op (ex (ot rfl) rfl) (by decide) ?_
    refine WL.op (ex (ot rfl) rfl) (by decide) ?_
    refine WL.op (asg (ot rfl)) (by decide) ?_
    refine WL.op (asg (ot rfl)) (by decide) ?_
    refine WL.op (asg (ot rfl)) (by decide) ?_
    refine WL.nl (.thn ?_)
    exact WP.rt (.rthn (.rN rfl (.cons (.tm rfl) (.cons (.tm rfl) (.cons (.tm rfl) .nil))) (le_ rfl) (imp_eq (by rw [rApply, if_pos hc]))))
  · skip
    refine WP.sk (.thn ?_)
    refine WP.seq ?_
    -- region 3 ref.go:25
    refine WP.region ?_
    refine WL.op (mv (ot rfl)) (by decide) ?_
    refine WL.op (lbs 0 rfl ag_ef33_Step (ot rfl) (le_ rfl)) (by decide) ?_
    refine WL.op (call (c_r33_Step_Extent hu') (.c (ot rfl) .n)) (by decide) ?_
    refine WL.op (call (c_r32_Put (xs := xs) (x := toX s) hl ho) (.c (ot rfl) (.c (ot rfl) .n))) (by decide) ?_
    refine WL.op (ex (ot rfl) rfl) (by decide) ?_
    refine WL.op (ex (ot rfl) rfl) (by decide) ?_
    refine WL.op (ex (ot rfl) rfl) (by decide) ?_
    refine WL.op (asg (ot rfl)) (by decide) ?_
    refine WL.op (asg (ot rfl)) (by decide) ?_
    refine WL.op (asg (ot rfl)) (by decide) ?_
    refine WL.nl (.thn ?_)
    exact WP.rt (.rN rfl (.cons (.tm rfl) (.cons (.tm rfl) (.cons (.tm rfl) .nil))) (le_ rfl) (imp_eq (by rw [rApply, if_neg (by simp [hc])])))
theorem c_r33_Range {xs : List X} {a n : Int} (hl : xs.length ≤ 30000) (ho : Xt.Ok 0 xs) : PureC Try.prog 31 [sl 3 FX xs, I a, I n] (sl 3 FX (rCut xs a n).2.1) := by
  refine PureC.of_wp Try.func31 (by kernel_rfl) rfl Try.ntmps31 (le_ rfl) (fun w0 M0 => ?_)
  refine WP.seq ?_
  -- region 0 ref.go:29
  refine WP.region ?_
  refine WL.op (asg (oc _)) (by decide) ?_
  refine WL.nl (.thn ?_)
  refine WP.seq ?_
  -- region 1 ref.go:30
  refine WP.region ?_
  refine WL.op (mv (ot rfl)) (by decide) ?_
  refine WL.op (mv (ot rfl)) (by decide) ?_
  refine WL.op (mv (ot rfl)) (by decide) ?_
  refine WL.op (call (c_r32_Cut (xs := xs) (a := a) (n := n) hl ho) (.c (ot rfl) (.c (ot rfl) (.c (ot rfl) .n)))) (by decide) ?_
  refine WL.op (mv (ot rfl)) (by decide) ?_
  refine WL.op (ex (ot rfl) rfl) (by decide) ?_
  refine WL.op (ex (ot rfl) rfl) (by decide) ?_
  refine WL.op (ex (ot rfl) rfl) (by decide) ?_
  refine WL.op (asg (ot rfl)) (by decide) ?_
  refine WL.op (asg (ot rfl)) (by decide) ?_
  refine WL.op (asg (ot rfl)) (by decide) ?_
  refine WL.nl (.thn ?_)
  refine WP.seq ?_
  -- region 2 ref.go:31
  refine WP.region ?_
  refine WL.op (mv (ot rfl)) (by decide) ?_
  refine WL.op (asg (ot rfl)) (by decide) ?_
  refine WL.nl (.thn ?_)
  exact WP.rt (.r1 rfl rfl (imp _))
theorem c_x_Tree_Range {t : Tr} {a n : Int} (h : Wt t) : PureC Try.prog 30 [eT t, I a, I n] (sl 3 FX (tCut t a n).2.1) := by
  refine PureC.of_wp Try.func30 (by kernel_rfl) rfl Try.ntmps30 (le_ rfl) (fun w0 M0 => ?_)
  refine WP.seq ?_
  -- region 0 extree.go:215
  refine WP.region ?_
  refine WL.box (ot rfl) (.agg _) (by decide) fun b3 => ?_
  refine WL.op (asg (oc _)) (by decide) ?_
  refine WL.nl (.thn ?_)
  refine WP.seq ?_
  -- region 1 extree.go:216
  refine WP.region ?_
  refine WL.op (lbs 0 rfl ag_Tree (ot rfl) (le_ rfl)) (by decide) ?_
  refine WL.op (mv (ot rfl)) (by decide) ?_
  refine WL.op (mv (ot rfl)) (by decide) ?_
  refine WL.op (call (c_x_CutT (t := t) (a := a) (n := n) h) (.c (ot rfl) (.c (ot rfl) (.c (ot rfl) .n)))) (by decide) ?_
  refine WL.op (mv (ot rfl)) (by decide) ?_
  refine WL.op (ex (ot rfl) rfl) (by decide) ?_
  refine WL.op (ex (ot rfl) rfl) (by decide) ?_
  refine WL.op (ex (ot rfl) rfl) (by decide) ?_
  refine WL.alloc zr_Tree rfl (by decide) fun b7 => ?_
  refine WL.store 0 rfl (ot rfl) (ot rfl) (.agg _) sz_Tree rfl (le_ rfl) ?_
  refine WL.op (asg (ot rfl)) (by decide) ?_
  refine WL.op (asg (ot rfl)) (by decide) ?_
  refine WL.nl (.thn ?_)
  refine WP.seq ?_
  -- region 2 extree.go:217
  refine WP.region ?_
  refine WL.op (mv (ot rfl)) (by decide) ?_
  refine WL.op (asg (ot rfl)) (by decide) ?_
  refine WL.nl (.thn ?_)
  exact WP.rt (.r1 rfl rfl (imp _))
theorem c_w33_step {t : Tr} {s : Sp} (h : Wt t) (hu : U8 s) : PureC Try.prog 20 [eT t, agg (FS s)] (e3T (tStep t s)) := by
  have hu' := hu
  unfold U8 at hu
  refine PureC.of_wp Try.func20 (by kernel_rfl) rfl Try.ntmps20 (le_ rfl) (fun w0 M0 => ?_)
  refine WP.seq ?_
  -- region 0 law.go:35
  refine WP.region ?_
  refine WL.box (ot rfl) (.agg _) (by decide) fun b2 => ?_
  refine WL.box (ot rfl) (.agg _) (by decide) fun b3 => ?_
  refine WL.alloc zr_Tree rfl (by decide) fun b4 => ?_
  refine WL.op (asg (oc _)) (by decide) ?_
  refine WL.op (asg (oc _)) (by decide) ?_
  refine WL.nl (.thn ?_)
  refine WP.seq ?_
  refine WP.seq ?_
  -- region 1 law.go:36
  refine WP.region ?_
  refine WL.op (fv fo_ef33_Step_0 (ot rfl)) (by decide) ?_
  refine WL.op (lb 1 rfl sc_bool (ot rfl) rfl) (by decide) ?_
  refine WL.nl (.thn ?_)
  -- law.go:36
  refine WP.cond rfl (fun hc => ?_) (fun hc => ?_)
  · skip
    refine WP.seq ?_
    -- region 2 law.go:37
    refine WP.region ?_
    refine WL.op (lbs 2 rfl ag_Tree (ot rfl) (le_ rfl)) (by decide) ?_
    refine WL.op (fv fo_ef33_Step_1 (ot rfl)) (by decide) ?_
    refine WL.op (lb 1 rfl sc_uint8 (ot rfl) rfl) (by decide) ?_
    refine WL.op (cv un_uint8 un_int (ot rfl) (IntWalk.i64_in _ (by omega))) (by decide) ?_
    refine WL.op (fv fo_ef33_Step_2 (ot rfl)) (by decide) ?_
    refine WL.op (lb 1 rfl sc_uint8 (ot rfl) rfl) (by decide) ?_
    refine WL.op (cv un_uint8 un_int (ot rfl) (IntWalk.i64_in _ (by omega))) (by decide) ?_
    refine WL.op (call (c_x_CutT (t := t) (a := s.a) (n := s.n) h) (.c (ot rfl) (.c (ot rfl) (.c (ot rfl) .n)))) (by decide) ?_
    refine WL.op (ex (ot rfl) rfl) (by decide) ?_
    refine WL.op (ex (ot rfl) rfl) (by decide) ?_
    refine WL.op (ex (ot rfl) rfl) (by decide) ?_
    refine WL.store 0 rfl (ot rfl) (ot rfl) (.agg _) sz_Tree rfl (le_ rfl) ?_
    refine WL.op (asg (ot rfl)) (by decide) ?_
    refine WL.op (asg (ot rfl)) (by decide) ?_
    refine WL.nl (.thn ?_)
    exact WP.rt (.rthn (.rN rfl (.cons (.bx 0 rfl rfl ag_Tree) (.cons (.tm rfl) (.cons (.tm rfl) .nil))) (le_ rfl) (imp_eq (by rw [tStep, if_pos hc]; rfl))))
  · skip
    refine WP.sk (.thn ?_)
    refine WP.seq ?_
    -- region 3 draws law.go:39
    refine WP.draws ?_
    refine RG.op (lbs 2 rfl ag_Tree (ot rfl) (le_ rfl)) ?_
    refine RG.op (lbs 1 rfl ag_ef33_Step (ot rfl) (le_ rfl)) ?_
    refine RG.op (call (c_r33_Step_Extent hu') (.c (ot rfl) .n)) ?_
    refine RG.op (call (c_x_PutT (t := t) (x := toX s) h) (.c (ot rfl) (.c (ot rfl) .n))) ?_
    refine RG.op (ex (ot rfl) rfl) ?_
    refine RG.op (ex (ot rfl) rfl) ?_
    refine RG.op (ex (ot rfl) rfl) ?_
    refine RG.fin HM (by kernel_rfl) ?_
    show WL _ _ _ _ _ _ _ _ _
    refine WL.store 0 rfl (ot rfl) (ot rfl) (.agg _) sz_Tree rfl (le_ rfl) ?_
    refine WL.op (asg (ot rfl)) (by decide) ?_
    refine WL.op (asg (ot rfl)) (by decide) ?_
    refine WL.nl (.thn ?_)
    exact WP.rt (.rN rfl (.cons (.bx 0 rfl rfl ag_Tree) (.cons (.tm rfl) (.cons (.tm rfl) .nil))) (le_ rfl) (imp_eq (by rw [tStep, if_neg (by simp [hc])]; rfl)))

theorem treeNe {bs : List Box} {lk : Nat → Option Rp} {x : Operand} {ty T T' : TypeId} {m : Tr} (hT : Try.prog.underlying T = some (.pointer (Try.prog.pointee T))) (hx : OF lk x (tree m)) : OpG Try.prog bs lk (.binOp .neq T x (.const (.pointer none)) T') ty (val (.bool m.isN)) := by
  cases m with
  | nil => exact isnil' hT hx
  | node l z r => exact notnil' hT hx

theorem c_x_Tree_Find {t : Tr} {b : Int} (h : Xt.Ok 0 t.list) : PureC Try.prog 28 [eT t, I b] (tup [I ((sem t.list b).getD 0), val (.bool (sem t.list b).isSome)]) := by
  refine PureC.of_wp Try.func28 (by kernel_rfl) rfl Try.ntmps28 (le_ rfl) (fun w0 M0 => ?_)
  refine WP.seq ?_
  -- region 0 extree.go:200
  refine WP.region ?_
  refine WL.box (ot rfl) (.agg _) (by decide) fun b2 => ?_
  refine WL.op (asg (oc _)) (by decide) ?_
  refine WL.op (asg (oc _)) (by decide) ?_
  refine WL.nl (.thn ?_)
  refine WP.seq ?_
  refine WP.seq ?_
  -- region 1 extree.go:201
  refine WP.region ?_
  refine WL.op (fv fo_Tree_0 (ot rfl)) (by decide) ?_
  refine WL.op (lb 0 rfl sc_p_extree_node (ot rfl) rfl) (by decide) ?_
  refine WL.op (asg (ot rfl)) (by decide) ?_
  refine WL.nl (.thn ?_)
  refine WP.block ?_
  refine WP.loop (fun y : Tr => []) (fun y => [(6, tree y), (1, I b)]) (fun y => find y b = find t b ∧ ∀ z ∈ y.list, 0 ≤ z.a ∧ 1 ≤ z.n ∧ 0 ≤ z.s ∧ z.a + z.n ≤ 65536 ∧ z.s + z.n ≤ 65536) (fun y => y.size) t ⟨rfl, fun z hz => h.starts z hz⟩ (Sub.ofD 1 rfl (Sub.cons rfl (imp _) (Sub.cons rfl (imp _) Sub.nil))) (fun m hi => ?_)
  replace hi : find m b = find t b ∧ ∀ z ∈ m.list, 0 ≤ z.a ∧ 1 ≤ z.n ∧ 0 ≤ z.s ∧ z.a + z.n ≤ 65536 ∧ z.s + z.n ≤ 65536 := hi
  show WP _ _ _ _ [] [(6, tree m), (1, I b)] _ _
  refine WP.seq ?_
  refine WP.seq ?_
  -- region 2 extree.go:201
  refine WP.region ?_
  refine WL.op (mv (ot rfl)) (by decide) ?_
  refine WL.op (treeNe pt_p_extree_node (ot rfl) ) (by decide) ?_
  refine WL.nl (.thn ?_)
  -- extree.go:201
  refine WP.cond rfl (fun hc => ?_) (fun hc => ?_)
  · skip
    obtain ⟨l, x, r, rfl⟩ := Tr.of_isN hc
    have hv := hi.2 x (by simp [Tr.list])
    refine WP.sk (.thn ?_)
    refine WP.block ?_
    refine WP.block ?_
    refine WP.seq ?_
    -- region 4 extree.go:203
    refine WP.region ?_
    refine WL.op (mv (ot rfl)) (by decide) ?_
    refine WL.op (mv (ot rfl)) (by decide) ?_
    refine WL.op (nc (ot rfl)) (by decide) ?_
    refine WL.op (fa fo_node_0 (ot rfl)) (by decide) ?_
    refine WL.op (fa fo_Extent_0 (ot rfl)) (by decide) ?_
    refine WL.op (ld sc_int (ot rfl)) (by decide) ?_
    refine WL.op (lss (ot rfl) (ot rfl)) (by decide) ?_
    refine WL.op (asg (ot rfl)) (by decide) ?_
    refine WL.nl (.thn ?_)
    -- extree.go:203
    refine WP.cond rfl (fun hc => ?_) (fun hc => ?_)
    · skip
      -- region 5 extree.go:204
      refine WP.region ?_
      refine WL.op (mv (ot rfl)) (by decide) ?_
      refine WL.op (nc (ot rfl)) (by decide) ?_
      refine WL.op (fa fo_node_1 (ot rfl)) (by decide) ?_
      refine WL.op (ld sc_p_extree_node (ot rfl)) (by decide) ?_
      refine WL.op (asg (ot rfl)) (by decide) ?_
      exact WL.nl (.blk (.blk (.again l ⟨by rw [← hi.1, find, if_pos (of_decide_eq_true hc)], fun z hz => hi.2 z (by simp [Tr.list, hz])⟩ (by simp only [Tr.size]; omega) (Sub.of (Sub.cons rfl (imp _) (Sub.cons rfl (imp _) Sub.nil))))))
    · skip
      have hn1 := of_decide_eq_false hc
      refine WP.seq ?_
      -- region 6 draws extree.go:205
      refine WP.draws ?_
      refine RG.op (mv (ot rfl)) ?_
      refine RG.op (mv (ot rfl)) ?_
      refine RG.op (nc (ot rfl)) ?_
      refine RG.op (fa fo_node_0 (ot rfl)) ?_
      refine RG.op (fa fo_Extent_0 (ot rfl)) ?_
      refine RG.op (ld sc_int (ot rfl)) ?_
      refine RG.op (mv (ot rfl)) ?_
      refine RG.op (nc (ot rfl)) ?_
      refine RG.op (fa fo_node_0 (ot rfl)) ?_
      refine RG.op (fa fo_Extent_1 (ot rfl)) ?_
      refine RG.op (ld sc_int (ot rfl)) ?_
      refine RG.op (add (ot rfl) (ot rfl) (by omega)) ?_
      refine RG.op (geq (ot rfl) (ot rfl)) ?_
      refine RG.op (asg (ot rfl)) ?_
      refine RG.fin HM (by kernel_rfl) ?_
      show WL _ _ _ _ _ _ _ _ _
      refine WL.nl (.thn ?_)
      -- extree.go:205
      refine WP.cond rfl (fun hc => ?_) (fun hc => ?_)
      · skip
        -- region 7 extree.go:206
        refine WP.region ?_
        refine WL.op (mv (ot rfl)) (by decide) ?_
        refine WL.op (nc (ot rfl)) (by decide) ?_
        refine WL.op (fa fo_node_2 (ot rfl)) (by decide) ?_
        refine WL.op (ld sc_p_extree_node (ot rfl)) (by decide) ?_
        refine WL.op (asg (ot rfl)) (by decide) ?_
        exact WL.nl (.blk (.blk (.again r ⟨by rw [← hi.1, find, if_neg hn1, if_pos (of_decide_eq_true hc)], fun z hz => hi.2 z (by simp [Tr.list, hz])⟩ (by simp only [Tr.size]; omega) (Sub.of (Sub.cons rfl (imp _) (Sub.cons rfl (imp _) Sub.nil))))))
      · skip
        have hn2 := of_decide_eq_false hc
        have hf : sem t.list b = some (x.s + b - x.a) := by rw [← find_sem h, ← hi.1, find, if_neg hn1, if_neg hn2]
        refine WP.seq ?_
        -- region 3 draws extree.go:208
        refine WP.draws ?_
        refine RG.op (mv (ot rfl)) ?_
        refine RG.op (nc (ot rfl)) ?_
        refine RG.op (fa fo_node_0 (ot rfl)) ?_
        refine RG.op (fa fo_Extent_2 (ot rfl)) ?_
        refine RG.op (ld sc_int (ot rfl)) ?_
        refine RG.op (mv (ot rfl)) ?_
        refine RG.op (add (ot rfl) (ot rfl) (by omega)) ?_
        refine RG.op (mv (ot rfl)) ?_
        refine RG.op (nc (ot rfl)) ?_
        refine RG.op (fa fo_node_0 (ot rfl)) ?_
        refine RG.op (fa fo_Extent_0 (ot rfl)) ?_
        refine RG.op (ld sc_int (ot rfl)) ?_
        refine RG.op (sub (ot rfl) (ot rfl) (by omega)) ?_
        refine RG.op (asg (ot rfl)) ?_
        refine RG.op (asg (oc _)) ?_
        refine RG.fin HM (by kernel_rfl) ?_
        show WL _ _ _ _ _ _ _ _ _
        refine WL.nl (.thn ?_)
        exact WP.rt (.rblk (.rblk (.rthn (.rblk (.rthn (.rN rfl (.cons (.tm rfl) (.cons (.tm rfl) .nil)) (le_ rfl) (imp_eq (by rw [hf]; rfl))))))))
  · skip
    have hf : sem t.list b = none := by rw [← find_sem h, ← hi.1]; cases m with | nil => rfl | node _ _ _ => cases hc
    refine WP.xt (.xthn (.xthn (.xin (.thn ?_))))
    refine WP.seq ?_
    -- region 8 extree.go:211
    refine WP.region ?_
    refine WL.op (asg (oc _)) (by decide) ?_
    refine WL.op (asg (oc _)) (by decide) ?_
    refine WL.nl (.thn ?_)
    exact WP.rt (.rN rfl (.cons (.tm rfl) (.cons (.tm rfl) .nil)) (le_ rfl) (imp_eq (by rw [hf]; rfl)))
end Go.Proofs.Ytjglgfnhgehpeaa

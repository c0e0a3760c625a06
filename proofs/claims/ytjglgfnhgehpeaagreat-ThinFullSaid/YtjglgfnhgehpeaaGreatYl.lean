/- Parts: RefC, RefD, Row, RowEnc, Cnt. -/
import Derived.Test.YtjglgfnhgehpeaaGreatYk
import Derived.Test.YtjglgfnhgehpeaaGreatYh
import Derived.Test.YtjglgfnhgehpeaaGreatYj
import Derived.Test.YtjglgfnhgehpeaaGreatYd
import Derived.WalkKit
import Derived.ProofKit
import Derived.OpenShut
import Derived.Deep.Slices
import Derived.Carry
import Derived.Test.YtjglgfnhgehpeaaGreatYg
import Derived.Test.YtjglgfnhgehpeaaGreatYe
/- Cut and Put of the specification of extents; a step of a script, of a list and of a tree. -/
set_option linter.unusedVariables false
set_option linter.unusedSimpArgs false
set_option maxRecDepth 4000
namespace Go.Proofs.YtjglgfnhgehpeaaGreat
open Go.RowKit Go.Fw Go.Xt

abbrev rErr : Rp := tup [sl 3 FX ([] : List X), sl 3 FX ([] : List X), I 1]
inductive ImpT : List Rp → List Rp → Prop
  | n : ImpT [] []
  | c {R R' : Rp} {Rs Rs' : List Rp} : (∀ v w M, R.h v w M → R'.h v w M) → ImpT Rs Rs' → ImpT (R :: Rs) (R' :: Rs')
theorem ImpT.all {w : World} {M : Mask} : ∀ {Rs Rs' : List Rp}, ImpT Rs Rs' → ∀ {vs : List Value}, TupAll w M Rs vs → TupAll w M Rs' vs := by
  intro Rs Rs' h
  induction h with
  | n => intro vs h; exact h
  | c h _ ih =>
    intro vs hv
    cases vs with
    | nil => exact hv.elim
    | cons v vs => exact ⟨h _ _ _ hv.1, ih hv.2⟩
theorem impT {Rs Rs' : List Rp} (h : ImpT Rs Rs') : ∀ v w M, (tup Rs).h v w M → (tup Rs').h v w M := fun v w M ⟨vs, h1, h2⟩ => ⟨vs, h1, h.all h2⟩

theorem c_r32_Cut_err {xs : List X} {a n : Int} (hl : xs.length ≤ 30000) (ho : Xt.Ok 0 xs) (hw : ¬ Wi a n 65536) : PureC Tryz.prog 88 [sl 3 FX xs, I a, I n] rErr := by
  refine PureC.of_wp Tryz.func88 (by kernel_rfl) rfl Tryz.ntmps88 (le_ rfl) (fun w0 M0 => ?_)
  refine WP.seq ?_
  refine WP.region ?_
  refine WL.op (asg (oc _)) (by decide) ?_
  refine WL.op (asg (oc _)) (by decide) ?_
  refine WL.op (asg (oc _)) (by decide) ?_
  refine WL.nl (.thn ?_)
  refine WP.seq ?_
  refine WP.seq ?_
  refine WP.region ?_
  refine WL.op (mv (ot rfl)) (by decide) ?_
  refine WL.op (OpG.weak (R' := val (.bool true)) (call (c_r32_Valid xs (by omega)) (.c (ot rfl) .n)) (imp_eq (congrArg (fun b => val (.bool b)) (decide_eq_true ho)))) (by decide) ?_
  refine WL.op (not_ (ot rfl)) (by decide) ?_
  refine WL.op (mv (ot rfl)) (by decide) ?_
  refine WL.gT rfl rfl ?_ -- g3
  refine WL.op (mv (ot rfl)) (by decide) ?_
  refine WL.gT rfl rfl ?_ -- g3
  refine WL.op (mv (ot rfl)) (by decide) ?_
  refine WL.gT rfl rfl ?_ -- g3
  refine WL.op (OpG.weak (R' := val (.bool false)) (call (c_r32_Range a n) (.c (ot rfl) (.c (ot rfl) .n))) (imp_eq (congrArg (fun b => val (.bool b)) (decide_eq_false hw)))) (by decide) ?_
  refine WL.gT rfl rfl ?_ -- g3
  refine WL.op (not_ (ot rfl)) (by decide) ?_
  refine WL.op (pickF (ot rfl) (ot rfl)) (by decide) ?_
  refine WL.nl (.thn ?_)
  refine WP.condT rfl ?_
  refine WP.seq ?_
  refine WP.region ?_
  refine WL.op (asg (oc _)) (by decide) ?_
  refine WL.op (asg (oc _)) (by decide) ?_
  refine WL.op (asg (oc _)) (by decide) ?_
  refine WL.nl (.thn ?_)
  exact WP.rt (.rthn (.rN rfl (.cons (.tm rfl) (.cons (.tm rfl) (.cons (.tm rfl) .nil))) (le_ rfl) (impT (.c sl_nil (.c sl_nil (.c (imp _) .n))))))
theorem c_r32_Cut_ok {xs : List X} {a n : Int} (hl : xs.length ≤ 30000) (ho : Xt.Ok 0 xs) (hw : Wi a n 65536) : PureC Tryz.prog 88 [sl 3 FX xs, I a, I n] (tup [sl 3 FX (rcut xs a n), sl 3 FX (Jn (Xt.parts xs a (a + n))), I 0]) := by
  have l1 := parts_len xs 0 a
  have l2 := parts_len xs (a + n) 65536
  have l3 := parts_len xs a (a + n)
  have hb : 0 ≤ a ∧ 0 ≤ n ∧ a ≤ 65536 ∧ n ≤ 65536 := by have := hw.1; have := hw.2.1; have := hw.2.2; omega
  refine PureC.of_wp Tryz.func88 (by kernel_rfl) rfl Tryz.ntmps88 (le_ rfl) (fun w0 M0 => ?_)
  refine WP.seq ?_
  refine WP.region ?_
  refine WL.op (asg (oc _)) (by decide) ?_
  refine WL.op (asg (oc _)) (by decide) ?_
  refine WL.op (asg (oc _)) (by decide) ?_
  refine WL.nl (.thn ?_)
  refine WP.seq ?_
  refine WP.seq ?_
  refine WP.region ?_
  refine WL.op (mv (ot rfl)) (by decide) ?_
  refine WL.op (OpG.weak (R' := val (.bool true)) (call (c_r32_Valid xs (by omega)) (.c (ot rfl) .n)) (imp_eq (congrArg (fun b => val (.bool b)) (decide_eq_true ho)))) (by decide) ?_
  refine WL.op (not_ (ot rfl)) (by decide) ?_
  refine WL.op (mv (ot rfl)) (by decide) ?_
  refine WL.gT rfl rfl ?_ -- g3
  refine WL.op (mv (ot rfl)) (by decide) ?_
  refine WL.gT rfl rfl ?_ -- g3
  refine WL.op (mv (ot rfl)) (by decide) ?_
  refine WL.gT rfl rfl ?_ -- g3
  refine WL.op (OpG.weak (R' := val (.bool true)) (call (c_r32_Range a n) (.c (ot rfl) (.c (ot rfl) .n))) (imp_eq (congrArg (fun b => val (.bool b)) (decide_eq_true hw)))) (by decide) ?_
  refine WL.gT rfl rfl ?_ -- g3
  refine WL.op (not_ (ot rfl)) (by decide) ?_
  refine WL.op (pickF (ot rfl) (ot rfl)) (by decide) ?_
  refine WL.nl (.thn ?_)
  refine WP.condF rfl ?_
  refine WP.sk (.thn ?_)
  refine WP.seq ?_
  refine WP.region ?_
  refine WL.op (mv (ot rfl)) (by decide) ?_
  refine WL.op (mv (ot rfl)) (by decide) ?_
  refine WL.new (c_r32_parts xs 0 a (by omega) ho (by omega) (by omega)) (.c (ot rfl) (.c (oc _) (.c (ot rfl) .n))) (by decide) fun v25 h25 => ?_
  refine WL.op (mv (ot rfl)) (by decide) ?_
  refine WL.op (mv (ot rfl)) (by decide) ?_
  refine WL.op (mv (ot rfl)) (by decide) ?_
  refine WL.op (add (ot rfl) (ot rfl) (by omega)) (by decide) ?_
  refine WL.new (c_r32_parts xs (a + n) 65536 (by omega) ho (by omega) (by omega)) (.c (ot rfl) (.c (ot rfl) (.c (oc _) .n))) (by decide) fun v30 h30 => ?_
  refine WL.freeze 0 30 FX (Xt.parts xs (a + n) 65536) rfl (fun _ => rfl) rfl rfl rfl ?_
  refine WL.app' 1 rfl ei_s_api_Extent (by decide) (ot rfl) (ot rfl) h25 (fun _ => rfl) (by omega) (by omega) (by decide) fun v31 h31 => ?_
  refine WL.freeze 1 31 FX (Xt.parts xs 0 a ++ Xt.parts xs (a + n) 65536) rfl (fun _ => rfl) List.length_append.symm List.flatMap_append.symm rfl ?_
  refine WL.op (call (c_r32_Join (Xt.parts xs 0 a ++ Xt.parts xs (a + n) 65536) (by rw [List.length_append]; omega) (ok_rcut ho hw.1 hw.2.1)) (.c (ot rfl) .n)) (by decide) ?_
  refine WL.op (mv (ot rfl)) (by decide) ?_
  refine WL.op (ex (ot rfl) rfl) (by decide) ?_
  refine WL.op (ex (ot rfl) rfl) (by decide) ?_
  refine WL.op (asg (ot rfl)) (by decide) ?_
  refine WL.op (asg (ot rfl)) (by decide) ?_
  refine WL.nl (.thn ?_)
  refine WP.seq ?_
  refine WP.region ?_
  refine WL.op (mv (ot rfl)) (by decide) ?_
  refine WL.op (mv (ot rfl)) (by decide) ?_
  refine WL.op (mv (ot rfl)) (by decide) ?_
  refine WL.op (mv (ot rfl)) (by decide) ?_
  refine WL.op (add (ot rfl) (ot rfl) (by omega)) (by decide) ?_
  refine WL.new (c_r32_parts xs a (a + n) (by omega) ho (by omega) (by omega)) (.c (ot rfl) (.c (ot rfl) (.c (ot rfl) .n))) (by decide) fun v41 h41 => ?_
  refine WL.freeze 0 41 FX (Xt.parts xs a (a + n)) rfl (fun _ => rfl) rfl rfl rfl ?_
  refine WL.op (call (c_r32_Join (Xt.parts xs a (a + n)) (by omega) (ok_parts ho (by omega))) (.c (ot rfl) .n)) (by decide) ?_
  refine WL.op (mv (ot rfl)) (by decide) ?_
  refine WL.op (ex (ot rfl) rfl) (by decide) ?_
  refine WL.op (ex (ot rfl) rfl) (by decide) ?_
  refine WL.op (asg (ot rfl)) (by decide) ?_
  refine WL.op (asg (ot rfl)) (by decide) ?_
  refine WL.nl (.thn ?_)
  refine WP.seq ?_
  refine WP.region ?_
  refine WL.op (mv (ot rfl)) (by decide) ?_
  refine WL.op (mv (ot rfl)) (by decide) ?_
  refine WL.op (asg (ot rfl)) (by decide) ?_
  refine WL.op (asg (ot rfl)) (by decide) ?_
  refine WL.op (asg (oc _)) (by decide) ?_
  refine WL.nl (.thn ?_)
  exact WP.rt (.rN rfl (.cons (.tm rfl) (.cons (.tm rfl) (.cons (.tm rfl) .nil))) (le_ rfl) (imp _))
theorem c_r32_Put_err {xs : List X} {x : X} (hl : xs.length ≤ 30000) (ho : Xt.Ok 0 xs) (hw : ¬ Pr x) : PureC Tryz.prog 120 [sl 3 FX xs, ext x] rErr := by
  refine PureC.of_wp Tryz.func120 (by kernel_rfl) rfl Tryz.ntmps120 (le_ rfl) (fun w0 M0 => ?_)
  refine WP.seq ?_
  refine WP.region ?_
  refine WL.box (ot rfl) (.agg _) (by decide) fun b3 => ?_
  refine WL.op (asg (oc _)) (by decide) ?_
  refine WL.op (asg (oc _)) (by decide) ?_
  refine WL.op (asg (oc _)) (by decide) ?_
  refine WL.nl (.thn ?_)
  refine WP.seq ?_
  refine WP.seq ?_
  refine WP.region ?_
  refine WL.op (mv (ot rfl)) (by decide) ?_
  refine WL.op (OpG.weak (R' := val (.bool true)) (call (c_r32_Valid xs (by omega)) (.c (ot rfl) .n)) (imp_eq (congrArg (fun b => val (.bool b)) (decide_eq_true ho)))) (by decide) ?_
  refine WL.op (not_ (ot rfl)) (by decide) ?_
  refine WL.op (mv (ot rfl)) (by decide) ?_
  refine WL.gT rfl rfl ?_ -- g3
  refine WL.op (lbs 0 rfl ag_Extent (ot rfl) (le_ rfl)) (by decide) ?_
  refine WL.gT rfl rfl ?_ -- g3
  refine WL.op (OpG.weak (R' := val (.bool false)) (call (c_r32_One x) (.c (ot rfl) .n)) (imp_eq (congrArg (fun b => val (.bool b)) (decide_eq_false hw)))) (by decide) ?_
  refine WL.gT rfl rfl ?_ -- g3
  refine WL.op (not_ (ot rfl)) (by decide) ?_
  refine WL.op (pickF (ot rfl) (ot rfl)) (by decide) ?_
  refine WL.nl (.thn ?_)
  refine WP.condT rfl ?_
  refine WP.seq ?_
  refine WP.region ?_
  refine WL.op (asg (oc _)) (by decide) ?_
  refine WL.op (asg (oc _)) (by decide) ?_
  refine WL.op (asg (oc _)) (by decide) ?_
  refine WL.nl (.thn ?_)
  exact WP.rt (.rthn (.rN rfl (.cons (.tm rfl) (.cons (.tm rfl) (.cons (.tm rfl) .nil))) (le_ rfl) (impT (.c sl_nil (.c sl_nil (.c (imp _) .n))))))
theorem vx_of {x : X} (h : Pr x) : Vx x := by
  obtain ⟨h1, ⟨a1, a2, a3, a4⟩, ⟨b1, b2, b3, b4⟩⟩ := h
  exact ⟨h1, b1, by omega, by omega⟩
theorem c_r32_Put_ok {xs : List X} {x : X} (hl : xs.length ≤ 30000) (ho : Xt.Ok 0 xs) (hw : Pr x) : PureC Tryz.prog 120 [sl 3 FX xs, ext x] (tup [sl 3 FX (rput xs x), sl 3 FX (Jn (Xt.parts xs x.a (x.a + x.n))), I 0]) := by
  have l1 := parts_len xs 0 x.a
  have l2 := parts_len xs (x.a + x.n) 65536
  have l3 := parts_len xs x.a (x.a + x.n)
  have hb : 0 ≤ x.a ∧ 1 ≤ x.n ∧ x.a + x.n ≤ 65536 ∧ 0 ≤ x.s := by have := hw.1; have := hw.2.1.1; have := hw.2.1.2.2.2; have := hw.2.2.1; omega
  refine PureC.of_wp Tryz.func120 (by kernel_rfl) rfl Tryz.ntmps120 (le_ rfl) (fun w0 M0 => ?_)
  refine WP.seq ?_
  refine WP.region ?_
  refine WL.box (ot rfl) (.agg _) (by decide) fun b3 => ?_
  refine WL.op (asg (oc _)) (by decide) ?_
  refine WL.op (asg (oc _)) (by decide) ?_
  refine WL.op (asg (oc _)) (by decide) ?_
  refine WL.nl (.thn ?_)
  refine WP.seq ?_
  refine WP.seq ?_
  refine WP.region ?_
  refine WL.op (mv (ot rfl)) (by decide) ?_
  refine WL.op (OpG.weak (R' := val (.bool true)) (call (c_r32_Valid xs (by omega)) (.c (ot rfl) .n)) (imp_eq (congrArg (fun b => val (.bool b)) (decide_eq_true ho)))) (by decide) ?_
  refine WL.op (not_ (ot rfl)) (by decide) ?_
  refine WL.op (mv (ot rfl)) (by decide) ?_
  refine WL.gT rfl rfl ?_ -- g3
  refine WL.op (lbs 0 rfl ag_Extent (ot rfl) (le_ rfl)) (by decide) ?_
  refine WL.gT rfl rfl ?_ -- g3
  refine WL.op (OpG.weak (R' := val (.bool true)) (call (c_r32_One x) (.c (ot rfl) .n)) (imp_eq (congrArg (fun b => val (.bool b)) (decide_eq_true hw)))) (by decide) ?_
  refine WL.gT rfl rfl ?_ -- g3
  refine WL.op (not_ (ot rfl)) (by decide) ?_
  refine WL.op (pickF (ot rfl) (ot rfl)) (by decide) ?_
  refine WL.nl (.thn ?_)
  refine WP.condF rfl ?_
  refine WP.sk (.thn ?_)
  refine WP.seq ?_
  refine WP.draws ?_
  refine RG.op (mv (ot rfl)) ?_
  refine RG.op (fv fo_Extent_0 (ot rfl)) ?_
  refine RG.op (lb 0 rfl sc_int (ot rfl) rfl) ?_
  refine RG.nx (OpN.call (c_r32_parts xs 0 x.a (by omega) ho (by omega) (by omega)) (.c (ot rfl) (.c (oc _) (.c (ot rfl) .n)))) ?_
  refine RG.op (lbs 0 rfl ag_Extent (ot rfl) (le_ rfl)) ?_
  refine RG.op (bsl1 (f := FX) (el := x) ei_s_api_Extent (ot rfl) (.agg _) rfl (by decide) (by decide)) ?_
  refine RG.fin HM (by kernel_rfl) ?_
  intro v21 h21
  show WL _ _ _ _ _ _ _ _ _
  refine WL.app' 0 rfl ei_s_api_Extent (by decide) (ot rfl) (ot rfl) h21 (fun _ => rfl) (by simp only [List.length_singleton]; omega) (by simp only [List.length_singleton]; omega) (by decide) fun v24 h24 => ?_
  refine WL.op (asg (ot rfl)) (by decide) ?_
  refine WL.nl (.thn ?_)
  refine WP.seq ?_
  refine WP.region ?_
  refine WL.op (mv (ot rfl)) (by decide) ?_
  refine WL.op (mv (ot rfl)) (by decide) ?_
  refine WL.op (fv fo_Extent_0 (ot rfl)) (by decide) ?_
  refine WL.op (lb 1 rfl sc_int (ot rfl) rfl) (by decide) ?_
  refine WL.op (fv fo_Extent_1 (ot rfl)) (by decide) ?_
  refine WL.op (lb 1 rfl sc_int (ot rfl) rfl) (by decide) ?_
  refine WL.op (add (ot rfl) (ot rfl) (by omega)) (by decide) ?_
  refine WL.new (c_r32_parts xs (x.a + x.n) 65536 (by omega) ho (by omega) (by omega)) (.c (ot rfl) (.c (ot rfl) (.c (oc _) .n))) (by decide) fun v33 h33 => ?_
  refine WL.freeze 0 33 FX (Xt.parts xs (x.a + x.n) 65536) rfl (fun _ => rfl) rfl rfl rfl ?_
  refine WL.app' 1 rfl ei_s_api_Extent (by decide) (ot rfl) (ot rfl) h24 (fun _ => rfl) (by simp only [List.length_singleton]; omega) (by simp only [List.length_singleton]; omega) (by decide) fun v34 h34 => ?_
  refine WL.freeze 1 34 FX (Xt.parts xs 0 x.a ++ [x] ++ Xt.parts xs (x.a + x.n) 65536) rfl (fun _ => rfl) (by simp only [List.length_append, List.length_singleton]) (by simp only [List.flatMap_append]) rfl ?_
  refine WL.op (call (c_r32_Join (Xt.parts xs 0 x.a ++ [x] ++ Xt.parts xs (x.a + x.n) 65536) (by simp only [List.length_append, List.length_singleton]; omega) (ok_rput ho hw.2.1.1 (vx_of hw))) (.c (ot rfl) .n)) (by decide) ?_
  refine WL.op (mv (ot rfl)) (by decide) ?_
  refine WL.op (ex (ot rfl) rfl) (by decide) ?_
  refine WL.op (ex (ot rfl) rfl) (by decide) ?_
  refine WL.op (asg (ot rfl)) (by decide) ?_
  refine WL.nl (.thn ?_)
  refine WP.seq ?_
  refine WP.region ?_
  refine WL.op (mv (ot rfl)) (by decide) ?_
  refine WL.op (fv fo_Extent_0 (ot rfl)) (by decide) ?_
  refine WL.op (lb 2 rfl sc_int (ot rfl) rfl) (by decide) ?_
  refine WL.op (fv fo_Extent_0 (ot rfl)) (by decide) ?_
  refine WL.op (lb 2 rfl sc_int (ot rfl) rfl) (by decide) ?_
  refine WL.op (fv fo_Extent_1 (ot rfl)) (by decide) ?_
  refine WL.op (lb 2 rfl sc_int (ot rfl) rfl) (by decide) ?_
  refine WL.op (add (ot rfl) (ot rfl) (by omega)) (by decide) ?_
  refine WL.new (c_r32_parts xs x.a (x.a + x.n) (by omega) ho (by omega) (by omega)) (.c (ot rfl) (.c (ot rfl) (.c (ot rfl) .n))) (by decide) fun v47 h47 => ?_
  refine WL.freeze 0 47 FX (Xt.parts xs x.a (x.a + x.n)) rfl (fun _ => rfl) rfl rfl rfl ?_
  refine WL.op (call (c_r32_Join (Xt.parts xs x.a (x.a + x.n)) (by omega) (ok_parts ho (by omega))) (.c (ot rfl) .n)) (by decide) ?_
  refine WL.op (mv (ot rfl)) (by decide) ?_
  refine WL.op (ex (ot rfl) rfl) (by decide) ?_
  refine WL.op (ex (ot rfl) rfl) (by decide) ?_
  refine WL.op (asg (ot rfl)) (by decide) ?_
  refine WL.op (asg (ot rfl)) (by decide) ?_
  refine WL.nl (.thn ?_)
  refine WP.seq ?_
  refine WP.region ?_
  refine WL.op (mv (ot rfl)) (by decide) ?_
  refine WL.op (mv (ot rfl)) (by decide) ?_
  refine WL.op (asg (ot rfl)) (by decide) ?_
  refine WL.op (asg (ot rfl)) (by decide) ?_
  refine WL.op (asg (oc _)) (by decide) ?_
  refine WL.nl (.thn ?_)
  exact WP.rt (.rN rfl (.cons (.tm rfl) (.cons (.tm rfl) (.cons (.tm rfl) .nil))) (le_ rfl) (imp _))
end Go.Proofs.YtjglgfnhgehpeaaGreat

/- A step of a script, of a list and of a tree; Find and Range of a tree. -/
set_option linter.unusedVariables false
set_option linter.unusedSimpArgs false
set_option maxRecDepth 4000
namespace Go.Proofs.YtjglgfnhgehpeaaGreat
open Go.RowKit Go.Fw Go.Xt

abbrev e3 (r : List X × List X × Int) : Rp := tup [sl 3 FX r.1, sl 3 FX r.2.1, I r.2.2]
abbrev e3T (r : Tr × List X × Int) : Rp := tup [eT r.1, sl 3 FX r.2.1, I r.2.2]
theorem c_r32_Cut {xs : List X} {a n : Int} (hl : xs.length ≤ 30000) (ho : Xt.Ok 0 xs) : PureC Tryz.prog 88 [sl 3 FX xs, I a, I n] (e3 (rCut xs a n)) := by
  unfold rCut
  split
  · rename_i h; exact c_r32_Cut_ok hl ho h
  · rename_i h; exact c_r32_Cut_err hl ho h
theorem c_r32_Put {xs : List X} {x : X} (hl : xs.length ≤ 30000) (ho : Xt.Ok 0 xs) : PureC Tryz.prog 120 [sl 3 FX xs, ext x] (e3 (rPut xs x)) := by
  unfold rPut
  split
  · rename_i h; exact c_r32_Put_ok hl ho h
  · rename_i h; exact c_r32_Put_err hl ho h
theorem c_x_CutT {t : Tr} {a n : Int} (h : Wt t) : PureC Tryz.prog 101 [eT t, I a, I n] (e3T (tCut t a n)) := by
  unfold tCut
  split
  · rename_i hw
    split
    · rename_i h0; subst h0; exact c_x_Cut_0 hw
    · rename_i h0; exact c_x_Cut h hw (by have := hw.2.1; omega)
  · rename_i hw; exact c_x_Cut_err hw
theorem c_x_PutT {t : Tr} {x : X} (h : Wt t) : PureC Tryz.prog 100 [eT t, ext x] (e3T (tPut t x)) := by
  unfold tPut
  split
  · rename_i hw; exact c_x_Put h hw.2.1.1 (vx_of hw)
  · rename_i hw
    refine c_x_Put_err fun ho => hw ?_
    obtain ⟨h1, h2, h3, h4, h5, _⟩ := ho
    unfold Pr Wi
    omega

theorem c_x_Tree_Range {t : Tr} {a n : Int} (h : Wt t) : PureC Tryz.prog 73 [eT t, I a, I n] (sl 3 FX (tCut t a n).2.1) := by
  refine PureC.of_wp Tryz.func73 (by kernel_rfl) rfl Tryz.ntmps73 (le_ rfl) (fun w0 M0 => ?_)
  refine WP.seq ?_
  refine WP.region ?_
  refine WL.box (ot rfl) (.agg _) (by decide) fun b3 => ?_
  refine WL.op (asg (oc _)) (by decide) ?_
  refine WL.nl (.thn ?_)
  refine WP.seq ?_
  refine WP.region ?_
  refine WL.op (lbs 0 rfl ag_Tree (ot rfl) (le_ rfl)) (by decide) ?_
  refine WL.op (mv (ot rfl)) (by decide) ?_
  refine WL.op (mv (ot rfl)) (by decide) ?_
  refine WL.op (call (c_x_CutT (t := t) (a := a) (n := n) h) (.c (ot rfl) (.c (ot rfl) (.c (ot rfl) .n)))) (by decide) ?_
  refine WL.op (mv (ot rfl)) (by decide) ?_
  refine WL.op (ex (ot rfl) rfl) (by decide) ?_
  refine WL.op (ex (ot rfl) rfl) (by decide) ?_
  refine WL.op (ex (ot rfl) rfl) (by decide) ?_
  refine WL.alloc zr_Tree rfl (by decide) fun b7 => ?_
  refine WL.store 0 rfl (ot rfl) (ot rfl) (.agg _) sz_Tree rfl (le_ rfl) ?_
  refine WL.op (asg (ot rfl)) (by decide) ?_
  refine WL.op (asg (ot rfl)) (by decide) ?_
  refine WL.nl (.thn ?_)
  refine WP.seq ?_
  refine WP.region ?_
  refine WL.op (mv (ot rfl)) (by decide) ?_
  refine WL.op (asg (ot rfl)) (by decide) ?_
  refine WL.nl (.thn ?_)
  exact WP.rt (.r1 rfl rfl (imp _))
end Go.Proofs.YtjglgfnhgehpeaaGreat

/- A law's row: its arguments as facts; they read behind the call as before it. No program in sight. -/
namespace Go.Fw
open Go.RowKit Go.Proofs Go.ChangeShapes Go.WideShapes
set_option linter.unusedVariables false
set_option linter.unusedSimpArgs false
section
variable {H : Type} {enc : TypeId × Value → H} {P : Program}
theorem trodAll_stays (hl : laidOutB P = true) {W W' : World} {sp' : Nat → Bool} : ∀ {ts : List TypeId} {vs : List Value} {ds : List (DataW H)} {ps : List MemPlace}, (∀ t ∈ ts, P.readableRec t = true ∧ t < P.types.size) → DataW.TrodAll enc P W 0 (fun _ => true) true ts vs ds ps →
    (∀ p ∈ ps, W.sameAt W' p) → (∀ p ∈ ps, sp' p.block = true) → DataW.TrodAll enc P W' 0 sp' true ts vs ds ps
  | [], [], [], _, _, h, _, _ => h
  | t :: ts, v :: vs, d :: ds, ps, ht, ⟨p, q, h1, h2, e⟩, hs, hsp => by
    subst e
    exact ⟨p, q, WideElems.Trod_stays hl (ht t List.mem_cons_self).1 (ht t List.mem_cons_self).2 h1 (fun x hx => hs x (List.mem_append_left _ hx)) (fun x hx => hsp x (List.mem_append_left _ hx)),
      trodAll_stays hl (fun t ht' => ht t (List.mem_cons_of_mem _ ht')) h2 (fun x hx => hs x (List.mem_append_right _ hx)) (fun x hx => hsp x (List.mem_append_right _ hx)), rfl⟩

def skOk : Option IntKind → Value → Prop
  | none, v => ∃ b, v = .bool b
  | some k, v => ∃ n, v = .int k n ∧ (Lit.int k n).wf = true
def SkAll : List (Option IntKind) → List Value → Prop
  | [], [] => True
  | k :: ks, v :: vs => skOk k v ∧ SkAll ks vs
  | _, _ => False
def skField (P : Program) (i : Nat) (f : Field) (k : Option IntKind) : Bool := f.offset == i && P.cellsOf f.type == 1 && (match k, P.underlying f.type with | none, some .bool => true | some k, some (.int k') => k == k' | _, _ => false)
def skFields (P : Program) (e : TypeId) (ks : List (Option IntKind)) : Bool := match P.underlying e with
  | some (.struct fs) => decide (fs.size = ks.length) && decide (P.cellsOf e = ks.length) && (List.range ks.length).all fun i => match fs[i]?, ks[i]? with | some f, some k => skField P i f k | _, _ => false
  | _ => false
theorem SkAll.of_get : ∀ {ks : List (Option IntKind)} {cs : List Value}, cs.length = ks.length → (∀ (i : Nat) (k : Option IntKind) (v : Value), ks[i]? = some k → cs[i]? = some v → skOk k v) → SkAll ks cs
  | [], [], _, _ => trivial
  | k :: ks, [], h, _ => by simp at h
  | [], c :: cs, h, _ => by simp at h
  | k :: ks, c :: cs, h, hg => ⟨hg 0 k c rfl rfl, SkAll.of_get (by simpa using h) fun i k' v h1 h2 => hg (i + 1) k' v (by simpa using h1) (by simpa using h2)⟩
theorem sk_of_trod {w : World} {base : Nat} {spare : Nat → Bool} {held : Bool} {fuel : Nat} {e : TypeId} {ks : List (Option IntKind)} {cs : List Value} {x : DataW H × List MemPlace} (hk : skFields P e ks = true) (h : DataW.trod enc P w base spare held fuel e cs = some x) : SkAll ks cs := by
  unfold skFields at hk
  split at hk
  · rename_i fs hu
    simp only [Bool.and_eq_true, decide_eq_true_eq] at hk
    obtain ⟨⟨h1, h2⟩, h3⟩ := hk
    obtain ⟨xs, n, _, _, hl, hx, hf⟩ := DataW.trod_struct hu h
    refine SkAll.of_get (by omega) fun i k v hki hvi => ?_
    have hik := (List.getElem?_eq_some_iff.1 hki).1
    have h4 := List.all_eq_true.1 h3 i (List.mem_range.2 hik)
    rw [hki] at h4
    cases hfi : fs[i]? with
    | none => rw [hfi] at h4; cases h4
    | some f =>
      rw [hfi] at h4
      unfold skField at h4
      simp only [Bool.and_eq_true, beq_iff_eq] at h4
      obtain ⟨⟨h5, h6⟩, h7⟩ := h4
      have h8 := hf i f hfi
      have hxi : xs[i]? = some xs[i] := List.getElem?_eq_getElem (by omega)
      rw [hxi, h5, h6] at h8
      have h9 : (cs.drop i).take 1 = [v] := by
        have hlt := (List.getElem?_eq_some_iff.1 hvi).1
        rw [List.drop_eq_getElem_cons hlt, List.take_succ_cons, List.take_zero]
        rw [List.getElem?_eq_getElem hlt] at hvi
        cases hvi
        rfl
      rw [h9] at h8
      cases hq : P.underlying f.type with
      | none => rw [hq] at h7; cases k <;> cases h7
      | some dd =>
        rw [hq] at h7
        cases k with
        | none => cases dd <;> first | (cases h7; done) | (obtain ⟨b, h, _⟩ := DataW.trod_bool hq h8; cases h; exact ⟨b, rfl⟩)
        | some k => cases dd <;> first | (cases h7; done) | (rename_i k2; have hkk : k = k2 := by simpa using h7
                                                             subst hkk
                                                             obtain ⟨m, h, _, hw⟩ := DataW.trod_int hq h8; cases h; exact ⟨m, rfl, hw⟩)
  · cases hk
theorem SkAll.one : ∀ {ks : List (Option IntKind)} {cs : List Value}, SkAll ks cs → cs.all (·.oneCell') = true
  | [], [], _ => rfl
  | none :: ks, v :: vs, ⟨⟨b, h⟩, h2⟩ => by subst h; rw [List.all_cons, SkAll.one h2]; rfl
  | some k :: ks, v :: vs, ⟨⟨n, h, _⟩, h2⟩ => by subst h; rw [List.all_cons, SkAll.one h2]; rfl
theorem open_sl {α : Type} {W : World} {t e : TypeId} {A : Option Addr} {len cap : Nat} {d : DataW H} {p : List MemPlace} {ks : List (Option IntKind)} (encS : α → List Value) (U : α → Prop) (hdec : ∀ cs, SkAll ks cs → ∃ x, U x ∧ cs = encS x) (ht : P.underlying t = some (.slice e)) (hk : skFields P e ks = true) (hks : 0 < ks.length)
    (h : DataW.Trod enc P W 0 (fun _ => true) true t (.slice A len cap) d p) :
    ∃ xs : List α, (∀ x ∈ xs, U x) ∧ xs.length ≤ maxLen ∧ (sl ks.length (fun x => (encS x).map val) xs).h (.slice A len cap) W (fun _ => False) := by
  obtain ⟨fuel, hf⟩ := h
  rcases Go.Deep.open_slice ht hf with ⟨h1, _⟩ | ⟨a, len', cap', m, n, D, Pl, h1, hb, hl, hm, hmm, _, hel⟩
  · have h1 : [Value.slice A len cap] = [.slice none 0 0] := by simpa [Value.cells] using h1
    cases h1
    exact ⟨[], by simp, Nat.zero_le _, none, 0, rfl, Nat.le_refl _, .inl rfl⟩
  · have h1 : [Value.slice A len cap] = [.slice (some a) len' cap'] := by simpa [Value.cells] using h1
    cases h1
    have hm' : m = cap := by simpa using hmm
    subst hm'
    have hce : P.cellsOf e = ks.length := by
      unfold skFields at hk
      split at hk
      · simp only [Bool.and_eq_true, decide_eq_true_eq] at hk; exact hk.1.2
      · cases hk
    have hex : ∀ i, i < len → ∃ x, U x ∧ W.cells? 0 (a.add (i * ks.length)) ks.length = some (encS x) ∧ (encS x).all (·.oneCell') = true := fun i hi => by
      obtain ⟨cs, g1, g2⟩ := hel i (by omega)
      have hs := sk_of_trod hk g2
      obtain ⟨x, hx, rfl⟩ := hdec cs hs
      rw [hce] at g1
      exact ⟨x, hx, g1, hs.one⟩
    have hlist : ∀ k, k ≤ len → ∃ xs : List α, xs.length = k ∧ ∀ (i : Nat) (x : α), xs[i]? = some x → U x ∧ W.cells? 0 (a.add (i * ks.length)) ks.length = some (encS x) ∧ (encS x).all (·.oneCell') = true := by
      intro k
      induction k with
      | zero => intro _; exact ⟨[], rfl, fun i x h => by simp at h⟩
      | succ k ih =>
        intro hk'
        obtain ⟨xs, l1, l2⟩ := ih (by omega)
        obtain ⟨x, q⟩ := hex k (by omega)
        refine ⟨xs ++ [x], by simp [l1], fun i y hy => ?_⟩
        by_cases e : i < xs.length
        · rw [List.getElem?_append_left e] at hy; exact l2 i y hy
        · rw [List.getElem?_append_right (by omega)] at hy
          have : i = k := by
            have := (List.getElem?_eq_some_iff.1 hy).1
            simp at this; omega
          subst this
          rw [l1] at hy
          simp at hy
          subst hy
          exact q
    obtain ⟨xs, l1, l2⟩ := hlist len (Nat.le_refl _)
    subst l1
    refine ⟨xs, fun x hx => ?_, by omega, some a, m, rfl, hl, ?_⟩
    · obtain ⟨i, hi⟩ := List.getElem?_of_mem hx
      exact (l2 i x hi).1
    · cases xs with
      | nil => exact .inl rfl
      | cons x0 xs =>
        right
        have hq := (l2 0 x0 rfl).2.1
        obtain ⟨_, hlen0, hq2⟩ := World.cells?_some hq
        have hc0 : ∃ v, W.cell? (a.add 0) = some v := by
          have := hq2 0 hks
          rw [Nat.zero_mul] at this
          cases hc : W.cell? ((a.add 0).add 0) with
          | some v => exact ⟨v, by simpa [Addr.add] using hc⟩
          | none =>
            rw [hc] at this
            have h0 : (encS x0)[0]? = none := this.symm
            rw [List.getElem?_eq_none_iff] at h0
            omega
        obtain ⟨v0, hv0⟩ := hc0
        obtain ⟨b, off, spot⟩ := a
        have hspot : spot = none := by simpa [Addr.add] using World.cell?_spot hv0
        subst hspot
        refine ⟨b, off, rfl, ?_, fun h => h, fun i x hx => ?_⟩
        · have := World.cells?_block hq hks
          rw [add_plain] at this
          exact this
        · obtain ⟨_, g1, g2⟩ := l2 i x hx
          obtain ⟨_, k1, k2⟩ := World.cells?_some g1
          rw [add_plain] at k2
          refine CellsAt.of_all2 (All2.vals g2) fun j v hj => ?_
          have hjl := (List.getElem?_eq_some_iff.1 hj).1
          have := k2 j (by omega)
          rw [add_plain] at this
          rw [this, hj]
end
end Go.Fw

/- How this set's arguments lie in memory. -/
namespace Go.Proofs.YtjglgfnhgehpeaaGreat
open Go.ChangeShapes Go.WideShapes Go.ChangeAt Go.RowKit Go.Fw Go.Xt
theorem u8_bounds {n : Int} (h : (Lit.int .u8 n).wf = true) : 0 ≤ n ∧ n ≤ 255 := by
  have h := Bool.and_eq_true_iff.1 h
  exact ⟨of_decide_eq_true h.1, of_decide_eq_true h.2⟩
def encS (x : Sp) : List Value := [.bool x.c, .int .u8 x.a, .int .u8 x.n, .int .u8 x.s]
abbrev ksS : List (Option IntKind) := [none, some .u8, some .u8, some .u8]
def encX (x : X) : List Value := [.int .i64 x.a, .int .i64 x.n, .int .i64 x.s]
def I6 (x : X) : Prop := (-9223372036854775808 ≤ x.a ∧ x.a ≤ 9223372036854775807) ∧ (-9223372036854775808 ≤ x.n ∧ x.n ≤ 9223372036854775807) ∧ (-9223372036854775808 ≤ x.s ∧ x.s ≤ 9223372036854775807)
abbrev ksX : List (Option IntKind) := [some .i64, some .i64, some .i64]
end Go.Proofs.YtjglgfnhgehpeaaGreat

/- Counts of slots. -/
set_option linter.unusedVariables false
set_option linter.unusedSimpArgs false
set_option maxRecDepth 4000
namespace Go.Proofs.YtjglgfnhgehpeaaGreat
open Go.RowKit Go.Fw Go.Xt

def FI (k : Int) : List Rp := [I k]
abbrev eC (cs : List Int) : Rp := agg [sl 1 FI cs]
theorem fI_len (L : List Int) : (L.flatMap FI).length = L.length := by rw [flat_len (sz := 1) (f := FI) (fun _ => rfl)]; omega
theorem fI_rep (k : Nat) (z : Int) : (List.replicate k z).flatMap FI = List.replicate k (I z) := by
  induction k with
  | zero => rfl
  | succ k ih => rw [List.replicate_succ, List.flatMap_cons, ih]; rfl
theorem fI_get {L : List Int} {k : Nat} (hk : k < L.length) : (L.flatMap FI)[k * 1]? = some (I (L.getD k 0)) := by
  have h := flat_at (sz := 1) (f := FI) (fun _ => rfl) L k L[k] (List.getElem?_eq_getElem hk)
  have h2 : (FI L[k])[0]? = (((L.flatMap FI).drop (k * 1)).take 1)[0]? := by rw [h]
  rw [List.getElem?_take, if_pos (by decide), List.getElem?_drop] at h2
  rw [List.getD_eq_getElem?_getD, List.getElem?_eq_getElem hk]
  exact h2.symm
theorem fI_set {q : Int} : ∀ {L : List Int} {k : Nat}, k < L.length → setAt (L.flatMap FI) (k * 1) [I q] = (L.set k q).flatMap FI
  | [], k, hk => by simp at hk
  | x :: L, 0, hk => rfl
  | x :: L, k + 1, hk => by
    have := fI_set (q := q) (L := L) (k := k) (by simpa using hk)
    unfold setAt at *
    simp only [Nat.mul_one] at *
    rw [List.flatMap_cons, List.set_cons_succ, List.flatMap_cons, ← this]
    show ((FI x ++ L.flatMap FI).take (k + 1)) ++ _ ++ ((FI x ++ L.flatMap FI).drop (k + 1 + 1)) = _
    rfl
theorem getI {L : List Int} {k : Nat} (hk : k < L.length) : L.getD k default = L.getD k 0 := by
  rw [List.getD_eq_getElem?_getD, List.getD_eq_getElem?_getD, List.getElem?_eq_getElem hk]; rfl

theorem foldl_step {α β : Type} [Inhabited α] (f : β → α → β) (b : β) {xs : List α} {i : Nat} (hi : i < xs.length) : (xs.take (i + 1)).foldl f b = f ((xs.take i).foldl f b) (xs.getD (i : Int).toNat default) := by
  rw [show ((i : Nat) : Int).toNat = i from by omega, List.getD_eq_getElem?_getD, List.take_add_one, List.getElem?_eq_getElem hi]
  show List.foldl _ _ (_ ++ [xs[i]]) = _
  rw [List.foldl_append]; rfl

theorem c_refcount_fold {g : FuncId} {caps : List Rp} {xs : List X} {stp : Bool → X → Bool} {b0 : Bool} (hl : xs.length ≤ 1000000) (hf : ∀ (b : Bool) (x : X), PureC Tryz.prog g ([val (.bool b), ext x] ++ caps) (val (.bool (stp b x)))) : PureC Tryz.prog 137 [sl 3 FX xs, val (.bool b0), fnR g caps] (val (.bool (xs.foldl stp b0))) := by
  refine PureC.of_wp Tryz.func137 (by kernel_rfl) rfl Tryz.ntmps137 (le_ rfl) (fun w0 M0 => ?_)
  refine WP.seq ?_
  refine WP.region ?_
  refine WL.op (asg (oc _)) (by decide) ?_
  refine WL.nl (.thn ?_)
  refine WP.seq ?_
  refine WP.seq ?_
  refine WP.region ?_
  refine WL.op (mv (ot rfl)) (by decide) ?_
  refine WL.op (len_ us_s_api_Extent (ot rfl)) (by decide) ?_
  refine WL.op (mv (oc _)) (by decide) ?_
  refine WL.nl (.thn ?_)
  refine WP.block ?_
  refine WP.loop (fun y : Nat => []) (fun y => [(11, I (y : Int)), (10, I (xs.length : Int)), (9, sl 3 FX xs), (1, val (.bool ((xs.take y).foldl stp b0))), (2, fnR g caps)]) (fun y => y ≤ xs.length) (fun y => xs.length - y) 0 (Nat.zero_le _) (Sub.of (Sub.cons rfl (imp_eq rfl) (Sub.cons rfl (imp _) (Sub.cons rfl (imp _) (Sub.cons rfl (imp_eq rfl) (Sub.cons rfl (imp _) Sub.nil)))))) (fun i hi => ?_)
  replace hi : i ≤ xs.length := hi
  show WP _ _ _ _ [] [(11, I (i : Int)), (10, I (xs.length : Int)), (9, sl 3 FX xs), (1, val (.bool ((xs.take i).foldl stp b0))), (2, fnR g caps)] _ _
  refine WP.seq ?_
  refine WP.region ?_
  refine WL.op (lss (ot rfl) (ot rfl)) (by decide) ?_
  refine WL.nl (.thn ?_)
  refine WP.seq ?_
  refine WP.cond rfl (fun hc => ?_) (fun hc => ?_)
  · skip
    have hc1 : i < xs.length := by have := of_decide_eq_true hc; omega
    
    refine WP.sk (.thn ?_)
    refine WP.seq ?_
    refine WP.block ?_
    refine WP.seq ?_
    refine WP.region ?_
    refine WL.op (ixd el_s_api_Extent (ot rfl) (ot rfl) (by omega) (by omega)) (by decide) ?_
    refine WL.op (ls ag_Extent (ot rfl) (le_ rfl)) (by decide) ?_
    refine WL.alloc zr_Extent rfl (by decide) fun b8 => ?_
    refine WL.store 0 rfl (ot rfl) (ot rfl) (.agg _) sz_Extent rfl (le_ rfl) ?_
    refine WL.nl (.thn ?_)
    refine WP.region ?_
    refine WL.op (mv (ot rfl)) (by decide) ?_
    refine WL.op (mv (ot rfl)) (by decide) ?_
    refine WL.op (lbs 0 rfl ag_Extent (ot rfl) (le_ rfl)) (by decide) ?_
    refine WL.op (callv (hf ((xs.take i).foldl stp b0) (xs.getD (i : Int).toNat default)) (ot rfl) (.c (ot rfl) (.c (ot rfl) .n))) (by decide) ?_
    refine WL.op (asg (ot rfl)) (by decide) ?_
    refine WL.nl (.blk (.thn ?_))
    refine WP.region ?_
    refine WL.op (add (ot rfl) (oc _) (by omega)) (by decide) ?_
    refine WL.op (mv (ot rfl)) (by decide) ?_
    exact WL.nl (.again (i + 1) hc1 (by omega) (Sub.ofD 1 rfl (Sub.cons rfl (imp_eq (congrArg I (by omega))) (Sub.cons rfl (imp _) (Sub.cons rfl (imp _) (Sub.cons rfl (imp_eq (congrArg (fun b => val (.bool b)) (foldl_step stp b0 hc1).symm)) (Sub.cons rfl (imp _) Sub.nil)))))))
  · skip
    have hc1 : ¬ i < xs.length := by have := of_decide_eq_false hc; omega
    refine WP.xt (.xthn (.xthn (.xin (.thn ?_))))
    refine WP.seq ?_
    refine WP.region ?_
    refine WL.op (mv (ot rfl)) (by decide) ?_
    refine WL.op (asg (ot rfl)) (by decide) ?_
    refine WL.nl (.thn ?_)
    exact WP.rt (.r1 rfl rfl (imp_eq (congrArg (fun b => val (.bool b)) (by rw [List.take_of_length_le (by omega)]))))
theorem c_refcount_permitted_1 {cs : List Int} {ok : Bool} {x : X} (hl : cs.length ≤ 1000000) : PureC Tryz.prog 138 ([val (.bool ok), ext x] ++ [at_ [sl 1 FI cs]]) (val (.bool (ok && perm1 cs.length x))) := by
  refine PureC.of_wp Tryz.func138 (by kernel_rfl) rfl Tryz.ntmps138 (le_ rfl) (fun w0 M0 => ?_)
  refine WP.seq ?_
  refine WP.region ?_
  refine WL.box (ot rfl) (.agg _) (by decide) fun b4 => ?_
  refine WL.op (asg (oc _)) (by decide) ?_
  refine WL.nl (.thn ?_)
  refine WP.seq ?_
  refine WP.region ?_
  refine WL.op (mv (ot rfl)) (by decide) ?_
  refine WL.op (mv (ot rfl)) (by decide) ?_
  refine WL.gd rfl rfl (Tells.v _ _) (fun hg => fv fo_Extent_1 (ot rfl)) (by decide) ?_
  refine WL.gd rfl rfl (Tells.v _ _) (fun hg => lb 0 rfl sc_int (og rfl hg) rfl) (by decide) ?_
  refine WL.gd rfl rfl (Tells.v _ _) (fun hg => geq (og rfl hg) (oc _)) (by decide) ?_
  refine WL.op (and_ (ot rfl) (ot rfl)) (by decide) ?_
  refine WL.op (mv (ot rfl)) (by decide) ?_
  refine WL.gd rfl rfl (Tells.v _ _) (fun hg => fv fo_Extent_2 (ot rfl)) (by decide) ?_
  refine WL.gd rfl rfl (Tells.v _ _) (fun hg => lb 0 rfl sc_int (og rfl hg) rfl) (by decide) ?_
  refine WL.gd rfl rfl (Tells.v _ _) (fun hg => geq (og rfl hg) (oc _)) (by decide) ?_
  refine WL.op (and_ (ot rfl) (ot rfl)) (by decide) ?_
  refine WL.op (mv (ot rfl)) (by decide) ?_
  refine WL.gd rfl rfl (Tells.v _ _) (fun hg => fv fo_Extent_2 (ot rfl)) (by decide) ?_
  refine WL.gd rfl rfl (Tells.v _ _) (fun hg => lb 0 rfl sc_int (og rfl hg) rfl) (by decide) ?_
  refine WL.gd rfl rfl (Tells.v _ _) (fun hg => fa fo_refcount_Counts_0 (ot rfl)) (by decide) ?_
  refine WL.gd rfl rfl (Tells.v _ _) (fun hg => ld sc_s_int (og rfl hg)) (by decide) ?_
  refine WL.gd rfl rfl (Tells.v _ _) (fun hg => len_ us_s_int (og rfl hg)) (by decide) ?_
  refine WL.gd rfl rfl (Tells.v _ _) (fun hg => leq (og rfl hg) (og rfl hg)) (by decide) ?_
  refine WL.op (and_ (ot rfl) (ot rfl)) (by decide) ?_
  refine WL.op (mv (ot rfl)) (by decide) ?_
  refine WL.gd rfl rfl (Tells.v _ _) (fun hg => fv fo_Extent_1 (ot rfl)) (by decide) ?_
  refine WL.gd rfl rfl (Tells.v _ _) (fun hg => lb 0 rfl sc_int (og rfl hg) rfl) (by decide) ?_
  refine WL.gd rfl rfl (Tells.v _ _) (fun hg => fa fo_refcount_Counts_0 (ot rfl)) (by decide) ?_
  refine WL.gd rfl rfl (Tells.v _ _) (fun hg => ld sc_s_int (og rfl hg)) (by decide) ?_
  refine WL.gd rfl rfl (Tells.v _ _) (fun hg => len_ us_s_int (og rfl hg)) (by decide) ?_
  refine WL.gd rfl rfl (Tells.v _ _) (fun hg => fv fo_Extent_2 (ot rfl)) (by decide) ?_
  refine WL.gd rfl rfl (Tells.v _ _) (fun hg => lb 0 rfl sc_int (og rfl hg) rfl) (by decide) ?_
  refine WL.gd rfl rfl (Tells.v _ _) (fun hg => sub (og rfl hg) (og rfl hg) (by simp at hg; omega)) (by decide) ?_
  refine WL.gd rfl rfl (Tells.v _ _) (fun hg => leq (og rfl hg) (og rfl hg)) (by decide) ?_
  refine WL.op (and_ (ot rfl) (ot rfl)) (by decide) ?_
  refine WL.op (asg (ot rfl)) (by decide) ?_
  refine WL.nl (.thn ?_)
  exact WP.rt (.r1 rfl rfl (imp_eq (congrArg (fun b => val (.bool b)) (by simp only [perm1, Bool.and_assoc]))))
theorem c_refcount_Counts_permitted {cs : List Int} {xs : List X} (hc : cs.length ≤ 1000000) (hl : xs.length ≤ 1000000) : PureC Tryz.prog 106 [eC cs, sl 3 FX xs] (val (.bool (permB cs.length xs))) := by
  refine PureC.of_wp Tryz.func106 (by kernel_rfl) rfl Tryz.ntmps106 (le_ rfl) (fun w0 M0 => ?_)
  refine WP.seq ?_
  refine WP.region ?_
  refine WL.op (boxi (ot rfl) (.agg _)) (by decide) ?_
  refine WL.op (asg (oc _)) (by decide) ?_
  refine WL.nl (.thn ?_)
  refine WP.seq ?_
  refine WP.region ?_
  refine WL.op (mv (ot rfl)) (by decide) ?_
  refine WL.op (mkfn (ot rfl)) (by decide) ?_
  refine WL.op (call (c_refcount_fold (stp := fun ok x => ok && perm1 cs.length x) hl (fun b x => c_refcount_permitted_1 hc)) (.c (ot rfl) (.c (oc _) (.c (ot rfl) .n)))) (by decide) ?_
  refine WL.op (asg (ot rfl)) (by decide) ?_
  refine WL.nl (.thn ?_)
  exact WP.rt (.r1 rfl rfl (imp _))
theorem getX_mem' {xs : List X} {i : Nat} (hi : i < xs.length) : xs.getD (i : Int).toNat default ∈ xs := by
  rw [show ((i : Nat) : Int).toNat = i from by omega]; exact getX_mem hi
theorem chg_step {d : Int} {cs : List Int} {xs : List X} {i : Nat} (hi : i < xs.length) : chg d cs (xs.take (i + 1)) = inc d (chg d cs (xs.take i)) (xs.getD (i : Int).toNat default).s.toNat (xs.getD (i : Int).toNat default).n.toNat := by
  unfold chg
  exact foldl_step _ _ hi
theorem c_refcount_Counts_changed {cs : List Int} {xs : List X} {d : Int} (hd : d = 1 ∨ d = -1) (hc : cs.length ≤ 1000000) (hl : xs.length ≤ 100000) (hcs : ∀ s : Nat, -1000000000 ≤ cs.getD s 0 ∧ cs.getD s 0 ≤ 1000000000) (hp : permB cs.length xs = true) : PureC Tryz.prog 107 [eC cs, sl 3 FX xs, I d] (eC (chg d cs xs)) := by
  have hp := permB_iff.1 hp
  have hchg := fun i : Nat => chg_ok d cs _ (xs.take i) rfl (fun x hx => hp x (List.mem_of_mem_take hx))
  refine PureC.of_wp Tryz.func107 (by kernel_rfl) rfl Tryz.ntmps107 (le_ rfl) (fun w0 M0 => ?_)
  refine WP.seq ?_
  refine WP.region ?_
  refine WL.box (ot rfl) (.agg _) (by decide) fun b3 => ?_
  refine WL.alloc zr_refcount_Counts rfl (by decide) fun b6 => ?_
  refine WL.nl (.thn ?_)
  refine WP.seq ?_
  refine WP.region ?_
  refine WL.op (fv fo_refcount_Counts_0 (ot rfl)) (by decide) ?_
  refine WL.op (lb 1 rfl sc_s_int (ot rfl) rfl) (by decide) ?_
  refine WL.op (len_ us_s_int (ot rfl)) (by decide) ?_
  refine WL.mkr (OpN.mks ei_s_int zr_int rfl (ot rfl) (ot rfl) (by omega) (by omega)) (by decide) fun v14 h14 => ?_
  refine WL.op (asg (ot rfl)) (by decide) ?_
  refine WL.nl (.thn ?_)
  refine WP.seq ?_
  refine WP.region ?_
  refine WL.op (mv (ot rfl)) (by decide) ?_
  refine WL.op (fv fo_refcount_Counts_0 (ot rfl)) (by decide) ?_
  refine WL.op (lb 2 rfl sc_s_int (ot rfl) rfl) (by decide) ?_
  refine WL.copy 0 rfl ei_s_int (ot rfl) (ot rfl) (fun _ => rfl) rfl (by decide) ?_
  refine WL.nl (.thn ?_)
  refine WP.seq ?_
  refine WP.seq ?_
  refine WP.region ?_
  refine WL.op (mv (ot rfl)) (by decide) ?_
  refine WL.op (len_ us_s_api_Extent (ot rfl)) (by decide) ?_
  refine WL.op (mv (oc _)) (by decide) ?_
  refine WL.nl (.thn ?_)
  refine WP.block  ?_
  refine WP.rowAt' 0 rfl fun g cap hv => ?_
  refine WP.loop (fun y : Nat => [.r v14 3 1 cs.length ((chg d cs (xs.take y)).flatMap FI), .b b6 25 [val (.slice none 0 0)], .b b3 25 [sl 1 FI cs]]) (fun y => [(21, I (y : Int)), (20, I (xs.length : Int)), (19, sl 3 FX xs), (7, val v14), (2, I d), (6, val (.pointer (some ⟨b6, 0, none⟩)))]) (fun y => y ≤ xs.length) (fun y => xs.length - y) 0 (Nat.zero_le _) (Sub.ofD 0 rfl (Sub.cons rfl (imp_eq rfl) (Sub.cons rfl (imp _) (Sub.cons rfl (imp _) (Sub.cons rfl (imp _) (Sub.cons rfl (imp _) (Sub.cons rfl (imp _) Sub.nil))))))) (fun i hi => ?_)
  replace hi : i ≤ xs.length := hi
  show WP _ _ _ _ [.r v14 3 1 cs.length ((chg d cs (xs.take i)).flatMap FI), .b b6 25 [val (.slice none 0 0)], .b b3 25 [sl 1 FI cs]] [(21, I (i : Int)), (20, I (xs.length : Int)), (19, sl 3 FX xs), (7, val v14), (2, I d), (6, val (.pointer (some ⟨b6, 0, none⟩)))] _ _
  refine WP.seq ?_
  refine WP.region ?_
  refine WL.op (lss (ot rfl) (ot rfl)) (by decide) ?_
  refine WL.nl (.thn ?_)
  refine WP.seq ?_
  refine WP.cond rfl (fun hc => ?_) (fun hc => ?_)
  · skip
    have hc1 : i < xs.length := by have := of_decide_eq_true hc; omega
    have hx := hp _ (getX_mem' hc1)
    have hstep := chg_step (d := d) (cs := cs) hc1
    obtain ⟨hcl, hcg⟩ := hchg i
    refine WP.sk (.thn ?_)
    refine WP.seq ?_
    refine WP.block ?_
    refine WP.seq ?_
    refine WP.region ?_
    refine WL.op (ixd el_s_api_Extent (ot rfl) (ot rfl) (by omega) (by omega)) (by decide) ?_
    refine WL.op (ls ag_Extent (ot rfl) (le_ rfl)) (by decide) ?_
    refine WL.alloc zr_Extent rfl (by decide) fun b9 => ?_
    refine WL.store 0 rfl (ot rfl) (ot rfl) (.agg _) sz_Extent rfl (le_ rfl) ?_
    refine WL.nl (.thn ?_)
    refine WP.seq ?_
    refine WP.region ?_
    refine WL.op (fv fo_Extent_2 (ot rfl)) (by decide) ?_
    refine WL.op (lb 0 rfl sc_int (ot rfl) rfl) (by decide) ?_
    refine WL.op (asg (ot rfl)) (by decide) ?_
    refine WL.nl (.thn ?_)
    refine WP.block ?_
    refine WP.loop (fun q : Nat => [.b b9 65 (FX (xs.getD (i : Int).toNat default)), .r v14 3 1 cs.length ((inc d (chg d cs (xs.take i)) (xs.getD (i : Int).toNat default).s.toNat q).flatMap FI), .b b6 25 [val (.slice none 0 0)], .b b3 25 [sl 1 FI cs]]) (fun q => [(10, I ((xs.getD (i : Int).toNat default).s + q)), (9, val (.pointer (some ⟨b9, 0, none⟩))), (21, I (i : Int)), (20, I (xs.length : Int)), (19, sl 3 FX xs), (7, val v14), (2, I d), (6, val (.pointer (some ⟨b6, 0, none⟩)))]) (fun q => (q : Int) ≤ (xs.getD (i : Int).toNat default).n) (fun q => (xs.getD (i : Int).toNat default).n.toNat - q) 0 (by omega) (Sub.ofD 0 rfl (Sub.cons rfl (imp_eq (congrArg I (by omega))) (Sub.cons rfl (imp _) (Sub.cons rfl (imp _) (Sub.cons rfl (imp _) (Sub.cons rfl (imp _) (Sub.cons rfl (imp _) (Sub.cons rfl (imp _) (Sub.cons rfl (imp _) Sub.nil))))))))) (fun k hk => ?_)
    replace hk : (k : Int) ≤ (xs.getD (i : Int).toNat default).n := hk
    show WP _ _ _ _ [.b b9 65 (FX (xs.getD (i : Int).toNat default)), .r v14 3 1 cs.length ((inc d (chg d cs (xs.take i)) (xs.getD (i : Int).toNat default).s.toNat k).flatMap FI), .b b6 25 [val (.slice none 0 0)], .b b3 25 [sl 1 FI cs]] [(10, I ((xs.getD (i : Int).toNat default).s + k)), (9, val (.pointer (some ⟨b9, 0, none⟩))), (21, I (i : Int)), (20, I (xs.length : Int)), (19, sl 3 FX xs), (7, val v14), (2, I d), (6, val (.pointer (some ⟨b6, 0, none⟩)))] _ _
    refine WP.seq ?_
    refine WP.seq ?_
    refine WP.region ?_
    refine WL.op (mv (ot rfl)) (by decide) ?_
    refine WL.op (fv fo_Extent_2 (ot rfl)) (by decide) ?_
    refine WL.op (lb 0 rfl sc_int (ot rfl) rfl) (by decide) ?_
    refine WL.op (fv fo_Extent_1 (ot rfl)) (by decide) ?_
    refine WL.op (lb 0 rfl sc_int (ot rfl) rfl) (by decide) ?_
    refine WL.op (add (ot rfl) (ot rfl) (by omega)) (by decide) ?_
    refine WL.op (lss (ot rfl) (ot rfl)) (by decide) ?_
    refine WL.nl (.thn ?_)
    refine WP.cond rfl (fun hc => ?_) (fun hc => ?_)
    · skip
      have hk1 : (k : Int) < (xs.getD (i : Int).toNat default).n := by have := of_decide_eq_true hc; omega
      have hin1 := inc_len d (chg d cs (xs.take i)) (xs.getD (i : Int).toNat default).s.toNat k
      have hin2 := inc_get d (chg d cs (xs.take i)) (xs.getD (i : Int).toNat default).s.toNat k (by omega) ((xs.getD (i : Int).toNat default).s + k).toNat
      rw [hcg] at hin2
      have hh1 := hits_nn (xs.take i) (((xs.getD (i : Int).toNat default).s + k).toNat : Nat)
      have hh2 := hits_le (xs.take i) (((xs.getD (i : Int).toNat default).s + k).toNat : Nat)
      have hh3 : (xs.take i).length ≤ i := List.length_take_le _ _
      have hcb := hcs ((xs.getD (i : Int).toNat default).s + k).toNat
      rw [if_neg (by omega)] at hin2
      have hbd : -1001000000 ≤ (inc d (chg d cs (xs.take i)) (xs.getD (i : Int).toNat default).s.toNat k).getD ((xs.getD (i : Int).toNat default).s + k).toNat 0 ∧ (inc d (chg d cs (xs.take i)) (xs.getD (i : Int).toNat default).s.toNat k).getD ((xs.getD (i : Int).toNat default).s + k).toNat 0 ≤ 1001000000 := by
        rw [hin2]
        rcases hd with rfl | rfl <;> omega
      refine WP.sk (.thn ?_)
      refine WP.seq ?_
      refine WP.block ?_
      refine WP.region ?_
      refine WL.op (mv (ot rfl)) (by decide) ?_
      refine WL.op (mv (ot rfl)) (by decide) ?_
      refine WL.op (ixr' (hv (by omega)) el_s_int (ot rfl) (ot rfl) (by omega) (by omega)) (by decide) ?_
      refine WL.op (lr' 1 (hv (by omega)) rfl sc_int (ot rfl) (fI_get (L := inc d (chg d cs (xs.take i)) (xs.getD (i : Int).toNat default).s.toNat k) (by omega))) (by decide) ?_
      refine WL.op (mv (ot rfl)) (by decide) ?_
      refine WL.op (add (ot rfl) (ot rfl) (by omega)) (by decide) ?_
      refine WL.op (ixr' (hv (by omega)) el_s_int (ot rfl) (ot rfl) (by omega) (by omega)) (by decide) ?_
      refine WL.storeR' 1 (hv (by omega)) rfl (ot rfl) (ot rfl) (.leaf (.val rfl)) sz_int rfl (by rw [fI_len, hin1]; omega) ?_
      refine WL.nl (.blk (.thn ?_))
      refine WP.region ?_
      refine WL.op (mv (ot rfl)) (by decide) ?_
      refine WL.op (add (ot rfl) (oc _) (by omega)) (by decide) ?_
      refine WL.op (asg (ot rfl)) (by decide) ?_
      exact WL.nl (.again (k + 1) (by omega) (by omega) (Sub.ofD 0 (Eq.trans (b := [.b b9 65 (FX (xs.getD (i : Int).toNat default)), .r v14 3 1 cs.length (setAt ((inc d (chg d cs (xs.take i)) (xs.getD (i : Int).toNat default).s.toNat k).flatMap FI) (((xs.getD (i : Int).toNat default).s + k).toNat * 1) [I ((inc d (chg d cs (xs.take i)) (xs.getD (i : Int).toNat default).s.toNat k).getD ((xs.getD (i : Int).toNat default).s + k).toNat 0 + d)]), .b b6 25 [val (.slice none 0 0)], .b b3 25 [sl 1 FI cs]]) rfl (by rw [fI_set (by rw [hin1]; omega), show ((xs.getD (i : Int).toNat default).s + (k : Int)).toNat = (xs.getD (i : Int).toNat default).s.toNat + k from by omega]; rfl)) (Sub.cons rfl (imp_eq (congrArg I (by omega))) (Sub.cons rfl (imp _) (Sub.cons rfl (imp _) (Sub.cons rfl (imp _) (Sub.cons rfl (imp _) (Sub.cons rfl (imp _) (Sub.cons rfl (imp _) (Sub.cons rfl (imp _) Sub.nil))))))))))
    · skip
      have hk1 : ¬ (k : Int) < (xs.getD (i : Int).toNat default).n := by have := of_decide_eq_false hc; omega
      refine WP.xt (.xthn (.xthn (.xin (.blk (.thn ?_)))))
      refine WP.region ?_
      refine WL.op (add (ot rfl) (oc _) (by omega)) (by decide) ?_
      refine WL.op (mv (ot rfl)) (by decide) ?_
      exact WL.nl (.again (i + 1) hc1 (by omega) (Sub.ofD 1 (by rw [hstep, show k = (xs.getD (i : Int).toNat default).n.toNat from by omega]; rfl) (Sub.cons rfl (imp_eq (congrArg I (by omega))) (Sub.cons rfl (imp _) (Sub.cons rfl (imp _) (Sub.cons rfl (imp _) (Sub.cons rfl (imp _) (Sub.cons rfl (imp _) Sub.nil))))))))
  · skip
    have hc1 : ¬ i < xs.length := by have := of_decide_eq_false hc; omega
    refine WP.xt (.xthn (.xthn (.xin (.thn ?_))))
    refine WP.seq ?_
    refine WP.region ?_
    refine WL.op (mv (ot rfl)) (by decide) ?_
    refine WL.freeze 0 44 FI (chg d cs (xs.take i)) rfl (fun _ => rfl) (hchg i).1.symm rfl rfl ?_
    refine WL.op (bld zr_refcount_Counts rfl ps_refcount_Counts (.c (ot rfl) (.leaf (.sl _ _ _)) pl_refcount_Counts_0 rfl (le_ rfl) .n)) (by decide) ?_
    refine WL.store 1 rfl (ot rfl) (ot rfl) (.agg _) sz_refcount_Counts rfl (le_ rfl) ?_
    refine WL.nl (.thn ?_)
    have hL2 : chg d cs (xs.take i) = chg d cs xs := by rw [List.take_of_length_le (by omega)]
    exact WP.rt (.rB rfl (.bx 1 rfl rfl ag_refcount_Counts) (imp_eq (by rw [← hL2]; rfl)))
theorem c_refcount_New {k : Nat} (hk : k ≤ 65536) : PureC Tryz.prog 62 [I (k : Int)] (tup [eC (List.replicate k 0), I 0]) := by
  refine PureC.of_wp Tryz.func62 (by kernel_rfl) rfl Tryz.ntmps62 (le_ rfl) (fun w0 M0 => ?_)
  refine WP.seq ?_
  refine WP.region ?_
  refine WL.alloc zr_refcount_Counts rfl (by decide) fun b2 => ?_
  refine WL.op (asg (oc _)) (by decide) ?_
  refine WL.nl (.thn ?_)
  refine WP.seq ?_
  refine WP.seq ?_
  refine WP.region ?_
  refine WL.op (mv (ot rfl)) (by decide) ?_
  refine WL.op (OpG.weak (R' := val (.bool false)) (lss (ot rfl) (oc _)) (imp_eq (congrArg (fun b => val (.bool b)) (decide_eq_false (by omega))))) (by decide) ?_
  refine WL.op (mv (ot rfl)) (by decide) ?_
  refine WL.gT rfl rfl ?_ -- g2
  refine WL.op (mv (ot rfl)) (by decide) ?_
  refine WL.gT rfl rfl ?_ -- g2
  refine WL.op (OpG.weak (R' := val (.bool false)) (gtr (ot rfl) (oc _)) (imp_eq (congrArg (fun b => val (.bool b)) (decide_eq_false (by omega))))) (by decide) ?_
  refine WL.op (pickF (ot rfl) (ot rfl)) (by decide) ?_
  refine WL.nl (.thn ?_)
  refine WP.condF rfl ?_
  refine WP.sk (.thn ?_)
  refine WP.seq ?_
  refine WP.region ?_
  refine WL.op (mv (ot rfl)) (by decide) ?_
  refine WL.mkr (OpN.mks ei_s_int zr_int rfl (ot rfl) (ot rfl) (by omega) (by omega)) (by decide) fun v12 h12 => ?_
  refine WL.freeze 0 12 FI (List.replicate k 0) rfl (fun _ => rfl) (List.length_replicate ..).symm (fI_rep k 0).symm rfl ?_
  refine WL.op (bld zr_refcount_Counts rfl ps_refcount_Counts (.c (ot rfl) (.leaf (.sl _ _ _)) pl_refcount_Counts_0 rfl (le_ rfl) .n)) (by decide) ?_
  refine WL.store 1 rfl (ot rfl) (ot rfl) (.agg _) sz_refcount_Counts rfl (le_ rfl) ?_
  refine WL.op (asg (oc _)) (by decide) ?_
  refine WL.nl (.thn ?_)
  exact WP.rt (.rN rfl (.cons (.bx 1 rfl rfl ag_refcount_Counts) (.cons (.tm rfl) .nil)) (le_ rfl) (imp _))
end Go.Proofs.YtjglgfnhgehpeaaGreat

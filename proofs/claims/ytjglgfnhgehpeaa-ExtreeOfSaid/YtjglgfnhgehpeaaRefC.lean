/- Cut and Put of the specification of extents; a step of a script, of a list and of a tree. -/
import Derived.Test.YtjglgfnhgehpeaaRefB
import Derived.Test.YtjglgfnhgehpeaaLawB
set_option linter.unusedVariables false
set_option linter.unusedSimpArgs false
set_option maxRecDepth 4000
namespace Go.Proofs.Ytjglgfnhgehpeaa
open Go.RowKit Go.Fw Go.Xt

abbrev rErr : Rp := tup [sl 3 FX ([] : List X), sl 3 FX ([] : List X), I 1]
inductive ImpT : List Rp → List Rp → Prop
  | n : ImpT [] []
  | c {R R' : Rp} {Rs Rs' : List Rp} : (∀ v w M, R.h v w M → R'.h v w M) → ImpT Rs Rs' → ImpT (R :: Rs) (R' :: Rs')
theorem ImpT.all {w : World} {M : Mask} : ∀ {Rs Rs' : List Rp}, ImpT Rs Rs' → ∀ {vs : List Value}, TupAll w M Rs vs → TupAll w M Rs' vs := by
  intro Rs Rs' h
  induction h with
  | n => intro vs h; exact h
  | c h _ ih =>
    intro vs hv
    cases vs with
    | nil => exact hv.elim
    | cons v vs => exact ⟨h _ _ _ hv.1, ih hv.2⟩
theorem impT {Rs Rs' : List Rp} (h : ImpT Rs Rs') : ∀ v w M, (tup Rs).h v w M → (tup Rs').h v w M := fun v w M ⟨vs, h1, h2⟩ => ⟨vs, h1, h.all h2⟩

theorem c_r32_Cut_err {xs : List X} {a n : Int} (hl : xs.length ≤ 30000) (ho : Xt.Ok 0 xs) (hw : ¬ Wi a n 65536) : PureC Try.prog 50 [sl 3 FX xs, I a, I n] rErr := by
  refine PureC.of_wp Try.func50 (by kernel_rfl) rfl Try.ntmps50 (le_ rfl) (fun w0 M0 => ?_)
  refine WP.seq ?_
  -- region 0 ref.go:87
  refine WP.region ?_
  refine WL.op (asg (oc _)) (by decide) ?_
  refine WL.op (asg (oc _)) (by decide) ?_
  refine WL.op (asg (oc _)) (by decide) ?_
  refine WL.nl (.thn ?_)
  refine WP.seq ?_
  refine WP.seq ?_
  -- region 1 ref.go:88
  refine WP.region ?_
  refine WL.op (mv (ot rfl)) (by decide) ?_
  refine WL.op (OpG.weak (R' := val (.bool true)) (call (c_r32_Valid xs (by omega)) (.c (ot rfl) .n)) (imp_eq (congrArg (fun b => val (.bool b)) (decide_eq_true ho)))) (by decide) ?_
  refine WL.op (not_ (ot rfl)) (by decide) ?_
  refine WL.op (mv (ot rfl)) (by decide) ?_
  refine WL.gT rfl rfl ?_ -- g3
  refine WL.op (mv (ot rfl)) (by decide) ?_
  refine WL.gT rfl rfl ?_ -- g3
  refine WL.op (mv (ot rfl)) (by decide) ?_
  refine WL.gT rfl rfl ?_ -- g3
  refine WL.op (OpG.weak (R' := val (.bool false)) (call (c_r32_Range a n) (.c (ot rfl) (.c (ot rfl) .n))) (imp_eq (congrArg (fun b => val (.bool b)) (decide_eq_false hw)))) (by decide) ?_
  refine WL.gT rfl rfl ?_ -- g3
  refine WL.op (not_ (ot rfl)) (by decide) ?_
  refine WL.op (pickF (ot rfl) (ot rfl)) (by decide) ?_
  refine WL.nl (.thn ?_)
  -- ref.go:88
  refine WP.condT rfl ?_
  refine WP.seq ?_
  -- region 2 ref.go:89
  refine WP.region ?_
  refine WL.op (asg (oc _)) (by decide) ?_
  refine WL.op (asg (oc _)) (by decide) ?_
  refine WL.op (asg (oc _)) (by decide) ?_
  refine WL.nl (.thn ?_)
  exact WP.rt (.rthn (.rN rfl (.cons (.tm rfl) (.cons (.tm rfl) (.cons (.tm rfl) .nil))) (le_ rfl) (impT (.c sl_nil (.c sl_nil (.c (imp _) .n))))))
theorem c_r32_Cut_ok {xs : List X} {a n : Int} (hl : xs.length ≤ 30000) (ho : Xt.Ok 0 xs) (hw : Wi a n 65536) : PureC Try.prog 50 [sl 3 FX xs, I a, I n] (tup [sl 3 FX (rcut xs a n), sl 3 FX (Jn (Xt.parts xs a (a + n))), I 0]) := by
  have l1 := parts_len xs 0 a
  have l2 := parts_len xs (a + n) 65536
  have l3 := parts_len xs a (a + n)
  have hb : 0 ≤ a ∧ 0 ≤ n ∧ a ≤ 65536 ∧ n ≤ 65536 := by have := hw.1; have := hw.2.1; have := hw.2.2; omega
  refine PureC.of_wp Try.func50 (by kernel_rfl) rfl Try.ntmps50 (le_ rfl) (fun w0 M0 => ?_)
  refine WP.seq ?_
  -- region 0 ref.go:87
  refine WP.region ?_
  refine WL.op (asg (oc _)) (by decide) ?_
  refine WL.op (asg (oc _)) (by decide) ?_
  refine WL.op (asg (oc _)) (by decide) ?_
  refine WL.nl (.thn ?_)
  refine WP.seq ?_
  refine WP.seq ?_
  -- region 1 ref.go:88
  refine WP.region ?_
  refine WL.op (mv (ot rfl)) (by decide) ?_
  refine WL.op (OpG.weak (R' := val (.bool true)) (call (c_r32_Valid xs (by omega)) (.c (ot rfl) .n)) (imp_eq (congrArg (fun b => val (.bool b)) (decide_eq_true ho)))) (by decide) ?_
  refine WL.op (not_ (ot rfl)) (by decide) ?_
  refine WL.op (mv (ot rfl)) (by decide) ?_
  refine WL.gT rfl rfl ?_ -- g3
  refine WL.op (mv (ot rfl)) (by decide) ?_
  refine WL.gT rfl rfl ?_ -- g3
  refine WL.op (mv (ot rfl)) (by decide) ?_
  refine WL.gT rfl rfl ?_ -- g3
  refine WL.op (OpG.weak (R' := val (.bool true)) (call (c_r32_Range a n) (.c (ot rfl) (.c (ot rfl) .n))) (imp_eq (congrArg (fun b => val (.bool b)) (decide_eq_true hw)))) (by decide) ?_
  refine WL.gT rfl rfl ?_ -- g3
  refine WL.op (not_ (ot rfl)) (by decide) ?_
  refine WL.op (pickF (ot rfl) (ot rfl)) (by decide) ?_
  refine WL.nl (.thn ?_)
  -- ref.go:88
  refine WP.condF rfl ?_
  refine WP.sk (.thn ?_)
  refine WP.seq ?_
  -- region 3 ref.go:91
  refine WP.region ?_
  refine WL.op (mv (ot rfl)) (by decide) ?_
  refine WL.op (mv (ot rfl)) (by decide) ?_
  refine WL.new (c_r32_parts xs 0 a (by omega) ho (by omega) (by omega)) (.c (ot rfl) (.c (oc _) (.c (ot rfl) .n))) (by decide) fun v25 h25 => ?_
  refine WL.op (mv (ot rfl)) (by decide) ?_
  refine WL.op (mv (ot rfl)) (by decide) ?_
  refine WL.op (mv (ot rfl)) (by decide) ?_
  refine WL.op (add (ot rfl) (ot rfl) (by omega)) (by decide) ?_
  refine WL.new (c_r32_parts xs (a + n) 65536 (by omega) ho (by omega) (by omega)) (.c (ot rfl) (.c (ot rfl) (.c (oc _) .n))) (by decide) fun v30 h30 => ?_
  refine WL.freeze 0 30 FX (Xt.parts xs (a + n) 65536) rfl (fun _ => rfl) rfl rfl rfl ?_
  refine WL.app' 1 rfl ei_s_api_Extent (by decide) (ot rfl) (ot rfl) h25 (fun _ => rfl) (by omega) (by omega) (by decide) fun v31 h31 => ?_
  refine WL.freeze 1 31 FX (Xt.parts xs 0 a ++ Xt.parts xs (a + n) 65536) rfl (fun _ => rfl) List.length_append.symm List.flatMap_append.symm rfl ?_
  refine WL.op (call (c_r32_Join (Xt.parts xs 0 a ++ Xt.parts xs (a + n) 65536) (by rw [List.length_append]; omega) (ok_rcut ho hw.1 hw.2.1)) (.c (ot rfl) .n)) (by decide) ?_
  refine WL.op (mv (ot rfl)) (by decide) ?_
  refine WL.op (ex (ot rfl) rfl) (by decide) ?_
  refine WL.op (ex (ot rfl) rfl) (by decide) ?_
  refine WL.op (asg (ot rfl)) (by decide) ?_
  refine WL.op (asg (ot rfl)) (by decide) ?_
  refine WL.nl (.thn ?_)
  refine WP.seq ?_
  -- region 4 ref.go:92
  refine WP.region ?_
  refine WL.op (mv (ot rfl)) (by decide) ?_
  refine WL.op (mv (ot rfl)) (by decide) ?_
  refine WL.op (mv (ot rfl)) (by decide) ?_
  refine WL.op (mv (ot rfl)) (by decide) ?_
  refine WL.op (add (ot rfl) (ot rfl) (by omega)) (by decide) ?_
  refine WL.new (c_r32_parts xs a (a + n) (by omega) ho (by omega) (by omega)) (.c (ot rfl) (.c (ot rfl) (.c (ot rfl) .n))) (by decide) fun v41 h41 => ?_
  refine WL.freeze 0 41 FX (Xt.parts xs a (a + n)) rfl (fun _ => rfl) rfl rfl rfl ?_
  refine WL.op (call (c_r32_Join (Xt.parts xs a (a + n)) (by omega) (ok_parts ho (by omega))) (.c (ot rfl) .n)) (by decide) ?_
  refine WL.op (mv (ot rfl)) (by decide) ?_
  refine WL.op (ex (ot rfl) rfl) (by decide) ?_
  refine WL.op (ex (ot rfl) rfl) (by decide) ?_
  refine WL.op (asg (ot rfl)) (by decide) ?_
  refine WL.op (asg (ot rfl)) (by decide) ?_
  refine WL.nl (.thn ?_)
  refine WP.seq ?_
  -- region 5 ref.go:93
  refine WP.region ?_
  refine WL.op (mv (ot rfl)) (by decide) ?_
  refine WL.op (mv (ot rfl)) (by decide) ?_
  refine WL.op (asg (ot rfl)) (by decide) ?_
  refine WL.op (asg (ot rfl)) (by decide) ?_
  refine WL.op (asg (oc _)) (by decide) ?_
  refine WL.nl (.thn ?_)
  exact WP.rt (.rN rfl (.cons (.tm rfl) (.cons (.tm rfl) (.cons (.tm rfl) .nil))) (le_ rfl) (imp _))
theorem c_r32_Put_err {xs : List X} {x : X} (hl : xs.length ≤ 30000) (ho : Xt.Ok 0 xs) (hw : ¬ Pr x) : PureC Try.prog 51 [sl 3 FX xs, ext x] rErr := by
  refine PureC.of_wp Try.func51 (by kernel_rfl) rfl Try.ntmps51 (le_ rfl) (fun w0 M0 => ?_)
  refine WP.seq ?_
  -- region 0 ref.go:97
  refine WP.region ?_
  refine WL.box (ot rfl) (.agg _) (by decide) fun b3 => ?_
  refine WL.op (asg (oc _)) (by decide) ?_
  refine WL.op (asg (oc _)) (by decide) ?_
  refine WL.op (asg (oc _)) (by decide) ?_
  refine WL.nl (.thn ?_)
  refine WP.seq ?_
  refine WP.seq ?_
  -- region 1 ref.go:98
  refine WP.region ?_
  refine WL.op (mv (ot rfl)) (by decide) ?_
  refine WL.op (OpG.weak (R' := val (.bool true)) (call (c_r32_Valid xs (by omega)) (.c (ot rfl) .n)) (imp_eq (congrArg (fun b => val (.bool b)) (decide_eq_true ho)))) (by decide) ?_
  refine WL.op (not_ (ot rfl)) (by decide) ?_
  refine WL.op (mv (ot rfl)) (by decide) ?_
  refine WL.gT rfl rfl ?_ -- g3
  refine WL.op (lbs 0 rfl ag_Extent (ot rfl) (le_ rfl)) (by decide) ?_
  refine WL.gT rfl rfl ?_ -- g3
  refine WL.op (OpG.weak (R' := val (.bool false)) (call (c_r32_One x) (.c (ot rfl) .n)) (imp_eq (congrArg (fun b => val (.bool b)) (decide_eq_false hw)))) (by decide) ?_
  refine WL.gT rfl rfl ?_ -- g3
  refine WL.op (not_ (ot rfl)) (by decide) ?_
  refine WL.op (pickF (ot rfl) (ot rfl)) (by decide) ?_
  refine WL.nl (.thn ?_)
  -- ref.go:98
  refine WP.condT rfl ?_
  refine WP.seq ?_
  -- region 2 ref.go:99
  refine WP.region ?_
  refine WL.op (asg (oc _)) (by decide) ?_
  refine WL.op (asg (oc _)) (by decide) ?_
  refine WL.op (asg (oc _)) (by decide) ?_
  refine WL.nl (.thn ?_)
  exact WP.rt (.rthn (.rN rfl (.cons (.tm rfl) (.cons (.tm rfl) (.cons (.tm rfl) .nil))) (le_ rfl) (impT (.c sl_nil (.c sl_nil (.c (imp _) .n))))))
theorem vx_of {x : X} (h : Pr x) : Vx x := by
  obtain ⟨h1, ⟨a1, a2, a3, a4⟩, ⟨b1, b2, b3, b4⟩⟩ := h
  exact ⟨h1, b1, by omega, by omega⟩
theorem c_r32_Put_ok {xs : List X} {x : X} (hl : xs.length ≤ 30000) (ho : Xt.Ok 0 xs) (hw : Pr x) : PureC Try.prog 51 [sl 3 FX xs, ext x] (tup [sl 3 FX (rput xs x), sl 3 FX (Jn (Xt.parts xs x.a (x.a + x.n))), I 0]) := by
  have l1 := parts_len xs 0 x.a
  have l2 := parts_len xs (x.a + x.n) 65536
  have l3 := parts_len xs x.a (x.a + x.n)
  have hb : 0 ≤ x.a ∧ 1 ≤ x.n ∧ x.a + x.n ≤ 65536 ∧ 0 ≤ x.s := by have := hw.1; have := hw.2.1.1; have := hw.2.1.2.2.2; have := hw.2.2.1; omega
  refine PureC.of_wp Try.func51 (by kernel_rfl) rfl Try.ntmps51 (le_ rfl) (fun w0 M0 => ?_)
  refine WP.seq ?_
  -- region 0 ref.go:97
  refine WP.region ?_
  refine WL.box (ot rfl) (.agg _) (by decide) fun b3 => ?_
  refine WL.op (asg (oc _)) (by decide) ?_
  refine WL.op (asg (oc _)) (by decide) ?_
  refine WL.op (asg (oc _)) (by decide) ?_
  refine WL.nl (.thn ?_)
  refine WP.seq ?_
  refine WP.seq ?_
  -- region 1 ref.go:98
  refine WP.region ?_
  refine WL.op (mv (ot rfl)) (by decide) ?_
  refine WL.op (OpG.weak (R' := val (.bool true)) (call (c_r32_Valid xs (by omega)) (.c (ot rfl) .n)) (imp_eq (congrArg (fun b => val (.bool b)) (decide_eq_true ho)))) (by decide) ?_
  refine WL.op (not_ (ot rfl)) (by decide) ?_
  refine WL.op (mv (ot rfl)) (by decide) ?_
  refine WL.gT rfl rfl ?_ -- g3
  refine WL.op (lbs 0 rfl ag_Extent (ot rfl) (le_ rfl)) (by decide) ?_
  refine WL.gT rfl rfl ?_ -- g3
  refine WL.op (OpG.weak (R' := val (.bool true)) (call (c_r32_One x) (.c (ot rfl) .n)) (imp_eq (congrArg (fun b => val (.bool b)) (decide_eq_true hw)))) (by decide) ?_
  refine WL.gT rfl rfl ?_ -- g3
  refine WL.op (not_ (ot rfl)) (by decide) ?_
  refine WL.op (pickF (ot rfl) (ot rfl)) (by decide) ?_
  refine WL.nl (.thn ?_)
  -- ref.go:98
  refine WP.condF rfl ?_
  refine WP.sk (.thn ?_)
  refine WP.seq ?_
  -- region 3 draws ref.go:101
  refine WP.draws ?_
  refine RG.op (mv (ot rfl)) ?_
  refine RG.op (fv fo_Extent_0 (ot rfl)) ?_
  refine RG.op (lb 0 rfl sc_int (ot rfl) rfl) ?_
  refine RG.nx (OpN.call (c_r32_parts xs 0 x.a (by omega) ho (by omega) (by omega)) (.c (ot rfl) (.c (oc _) (.c (ot rfl) .n)))) ?_
  refine RG.op (lbs 0 rfl ag_Extent (ot rfl) (le_ rfl)) ?_
  refine RG.op (bsl1 (f := FX) (el := x) ei_s_api_Extent (ot rfl) (.agg _) rfl (by decide) (by decide)) ?_
  refine RG.fin HM (by kernel_rfl) ?_
  intro v21 h21
  show WL _ _ _ _ _ _ _ _ _
  refine WL.app' 0 rfl ei_s_api_Extent (by decide) (ot rfl) (ot rfl) h21 (fun _ => rfl) (by simp only [List.length_singleton]; omega) (by simp only [List.length_singleton]; omega) (by decide) fun v24 h24 => ?_
  refine WL.op (asg (ot rfl)) (by decide) ?_
  refine WL.nl (.thn ?_)
  refine WP.seq ?_
  -- region 4 ref.go:102
  refine WP.region ?_
  refine WL.op (mv (ot rfl)) (by decide) ?_
  refine WL.op (mv (ot rfl)) (by decide) ?_
  refine WL.op (fv fo_Extent_0 (ot rfl)) (by decide) ?_
  refine WL.op (lb 1 rfl sc_int (ot rfl) rfl) (by decide) ?_
  refine WL.op (fv fo_Extent_1 (ot rfl)) (by decide) ?_
  refine WL.op (lb 1 rfl sc_int (ot rfl) rfl) (by decide) ?_
  refine WL.op (add (ot rfl) (ot rfl) (by omega)) (by decide) ?_
  refine WL.new (c_r32_parts xs (x.a + x.n) 65536 (by omega) ho (by omega) (by omega)) (.c (ot rfl) (.c (ot rfl) (.c (oc _) .n))) (by decide) fun v33 h33 => ?_
  refine WL.freeze 0 33 FX (Xt.parts xs (x.a + x.n) 65536) rfl (fun _ => rfl) rfl rfl rfl ?_
  refine WL.app' 1 rfl ei_s_api_Extent (by decide) (ot rfl) (ot rfl) h24 (fun _ => rfl) (by simp only [List.length_singleton]; omega) (by simp only [List.length_singleton]; omega) (by decide) fun v34 h34 => ?_
  refine WL.freeze 1 34 FX (Xt.parts xs 0 x.a ++ [x] ++ Xt.parts xs (x.a + x.n) 65536) rfl (fun _ => rfl) (by simp only [List.length_append, List.length_singleton]) (by simp only [List.flatMap_append]) rfl ?_
  refine WL.op (call (c_r32_Join (Xt.parts xs 0 x.a ++ [x] ++ Xt.parts xs (x.a + x.n) 65536) (by simp only [List.length_append, List.length_singleton]; omega) (ok_rput ho hw.2.1.1 (vx_of hw))) (.c (ot rfl) .n)) (by decide) ?_
  refine WL.op (mv (ot rfl)) (by decide) ?_
  refine WL.op (ex (ot rfl) rfl) (by decide) ?_
  refine WL.op (ex (ot rfl) rfl) (by decide) ?_
  refine WL.op (asg (ot rfl)) (by decide) ?_
  refine WL.nl (.thn ?_)
  refine WP.seq ?_
  -- region 5 ref.go:103
  refine WP.region ?_
  refine WL.op (mv (ot rfl)) (by decide) ?_
  refine WL.op (fv fo_Extent_0 (ot rfl)) (by decide) ?_
  refine WL.op (lb 2 rfl sc_int (ot rfl) rfl) (by decide) ?_
  refine WL.op (fv fo_Extent_0 (ot rfl)) (by decide) ?_
  refine WL.op (lb 2 rfl sc_int (ot rfl) rfl) (by decide) ?_
  refine WL.op (fv fo_Extent_1 (ot rfl)) (by decide) ?_
  refine WL.op (lb 2 rfl sc_int (ot rfl) rfl) (by decide) ?_
  refine WL.op (add (ot rfl) (ot rfl) (by omega)) (by decide) ?_
  refine WL.new (c_r32_parts xs x.a (x.a + x.n) (by omega) ho (by omega) (by omega)) (.c (ot rfl) (.c (ot rfl) (.c (ot rfl) .n))) (by decide) fun v47 h47 => ?_
  refine WL.freeze 0 47 FX (Xt.parts xs x.a (x.a + x.n)) rfl (fun _ => rfl) rfl rfl rfl ?_
  refine WL.op (call (c_r32_Join (Xt.parts xs x.a (x.a + x.n)) (by omega) (ok_parts ho (by omega))) (.c (ot rfl) .n)) (by decide) ?_
  refine WL.op (mv (ot rfl)) (by decide) ?_
  refine WL.op (ex (ot rfl) rfl) (by decide) ?_
  refine WL.op (ex (ot rfl) rfl) (by decide) ?_
  refine WL.op (asg (ot rfl)) (by decide) ?_
  refine WL.op (asg (ot rfl)) (by decide) ?_
  refine WL.nl (.thn ?_)
  refine WP.seq ?_
  -- region 6 ref.go:104
  refine WP.region ?_
  refine WL.op (mv (ot rfl)) (by decide) ?_
  refine WL.op (mv (ot rfl)) (by decide) ?_
  refine WL.op (asg (ot rfl)) (by decide) ?_
  refine WL.op (asg (ot rfl)) (by decide) ?_
  refine WL.op (asg (oc _)) (by decide) ?_
  refine WL.nl (.thn ?_)
  exact WP.rt (.rN rfl (.cons (.tm rfl) (.cons (.tm rfl) (.cons (.tm rfl) .nil))) (le_ rfl) (imp _))
end Go.Proofs.Ytjglgfnhgehpeaa

/- The small functions of the specification of extents. -/
import Derived.Test.YtjglgfnhgehpeaaPutW
import Derived.Test.YtjglgfnhgehpeaaFwz
import Derived.Test.YtjglgfnhgehpeaaLay2
set_option linter.unusedVariables false
set_option linter.unusedSimpArgs false
set_option maxRecDepth 4000
namespace Go.Proofs.Ytjglgfnhgehpeaa
open Go.RowKit Go.Fw Go.Xt
theorem c_r32_One (x : X) : PureC Try.prog 55 [ext x] (val (.bool (decide (Pr x)))) := by
  refine PureC.of_wp Try.func55 (by kernel_rfl) rfl Try.ntmps55 (le_ rfl) (fun w0 M0 => ?_)
  refine WP.seq ?_
  -- region 0 ref.go:7
  refine WP.region ?_
  refine WL.box (ot rfl) (.agg _) (by decide) fun b1 => ?_
  refine WL.op (asg (oc _)) (by decide) ?_
  refine WL.nl (.thn ?_)
  refine WP.seq ?_
  -- region 1 ref.go:8
  refine WP.region ?_
  refine WL.op (fv fo_Extent_0 (ot rfl)) (by decide) ?_
  refine WL.op (lb 0 rfl sc_int (ot rfl) rfl) (by decide) ?_
  refine WL.op (geq (ot rfl) (oc _)) (by decide) ?_
  refine WL.op (mv (ot rfl)) (by decide) ?_
  refine WL.gd rfl rfl (Tells.v _ _) (fun hg => fv fo_Extent_2 (ot rfl)) (by decide) ?_
  refine WL.gd rfl rfl (Tells.v _ _) (fun hg => lb 0 rfl sc_int (og rfl hg) rfl) (by decide) ?_
  refine WL.gd rfl rfl (Tells.v _ _) (fun hg => geq (og rfl hg) (oc _)) (by decide) ?_
  refine WL.op (and_ (ot rfl) (ot rfl)) (by decide) ?_
  refine WL.op (mv (ot rfl)) (by decide) ?_
  refine WL.gd rfl rfl (Tells.v _ _) (fun hg => fv fo_Extent_1 (ot rfl)) (by decide) ?_
  refine WL.gd rfl rfl (Tells.v _ _) (fun hg => lb 0 rfl sc_int (og rfl hg) rfl) (by decide) ?_
  refine WL.gd rfl rfl (Tells.v _ _) (fun hg => geq (og rfl hg) (oc _)) (by decide) ?_
  refine WL.op (and_ (ot rfl) (ot rfl)) (by decide) ?_
  refine WL.op (mv (ot rfl)) (by decide) ?_
  refine WL.gd rfl rfl (Tells.v _ _) (fun hg => fv fo_Extent_0 (ot rfl)) (by decide) ?_
  refine WL.gd rfl rfl (Tells.v _ _) (fun hg => lb 0 rfl sc_int (og rfl hg) rfl) (by decide) ?_
  refine WL.gd rfl rfl (Tells.v _ _) (fun hg => leq (og rfl hg) (oc _)) (by decide) ?_
  refine WL.op (and_ (ot rfl) (ot rfl)) (by decide) ?_
  refine WL.op (mv (ot rfl)) (by decide) ?_
  refine WL.gd rfl rfl (Tells.v _ _) (fun hg => fv fo_Extent_2 (ot rfl)) (by decide) ?_
  refine WL.gd rfl rfl (Tells.v _ _) (fun hg => lb 0 rfl sc_int (og rfl hg) rfl) (by decide) ?_
  refine WL.gd rfl rfl (Tells.v _ _) (fun hg => leq (og rfl hg) (oc _)) (by decide) ?_
  refine WL.op (and_ (ot rfl) (ot rfl)) (by decide) ?_
  refine WL.op (mv (ot rfl)) (by decide) ?_
  refine WL.gd rfl rfl (Tells.v _ _) (fun hg => fv fo_Extent_1 (ot rfl)) (by decide) ?_
  refine WL.gd rfl rfl (Tells.v _ _) (fun hg => lb 0 rfl sc_int (og rfl hg) rfl) (by decide) ?_
  refine WL.gd rfl rfl (Tells.v _ _) (fun hg => leq (og rfl hg) (oc _)) (by decide) ?_
  refine WL.op (and_ (ot rfl) (ot rfl)) (by decide) ?_
  refine WL.op (mv (ot rfl)) (by decide) ?_
  refine WL.gd rfl rfl (Tells.v _ _) (fun hg => fv fo_Extent_0 (ot rfl)) (by decide) ?_
  refine WL.gd rfl rfl (Tells.v _ _) (fun hg => lb 0 rfl sc_int (og rfl hg) rfl) (by decide) ?_
  refine WL.gd rfl rfl (Tells.v _ _) (fun hg => fv fo_Extent_1 (ot rfl)) (by decide) ?_
  refine WL.gd rfl rfl (Tells.v _ _) (fun hg => lb 0 rfl sc_int (og rfl hg) rfl) (by decide) ?_
  refine WL.gd rfl rfl (Tells.v _ _) (fun hg => add (og rfl hg) (og rfl hg) (by simp at hg; omega)) (by decide) ?_
  refine WL.gd rfl rfl (Tells.v _ _) (fun hg => leq (og rfl hg) (oc _)) (by decide) ?_
  refine WL.op (and_ (ot rfl) (ot rfl)) (by decide) ?_
  refine WL.op (mv (ot rfl)) (by decide) ?_
  refine WL.gd rfl rfl (Tells.v _ _) (fun hg => fv fo_Extent_2 (ot rfl)) (by decide) ?_
  refine WL.gd rfl rfl (Tells.v _ _) (fun hg => lb 0 rfl sc_int (og rfl hg) rfl) (by decide) ?_
  refine WL.gd rfl rfl (Tells.v _ _) (fun hg => fv fo_Extent_1 (ot rfl)) (by decide) ?_
  refine WL.gd rfl rfl (Tells.v _ _) (fun hg => lb 0 rfl sc_int (og rfl hg) rfl) (by decide) ?_
  refine WL.gd rfl rfl (Tells.v _ _) (fun hg => add (og rfl hg) (og rfl hg) (by simp at hg; omega)) (by decide) ?_
  refine WL.gd rfl rfl (Tells.v _ _) (fun hg => leq (og rfl hg) (oc _)) (by decide) ?_
  refine WL.op (and_ (ot rfl) (ot rfl)) (by decide) ?_
  refine WL.op (asg (ot rfl)) (by decide) ?_
  refine WL.nl (.thn ?_)
  exact WP.rt (.r1 rfl rfl (imp_eq (congrArg (fun b => val (.bool b)) (by rw [Bool.eq_iff_iff]; refine Iff.trans ?_ decide_eq_true_iff.symm; simp [Pr, Wi]; omega))))
theorem c_r32_Range (a n : Int) : PureC Try.prog 72 [I a, I n] (val (.bool (decide (Wi a n 65536)))) := by
  refine PureC.of_wp Try.func72 (by kernel_rfl) rfl Try.ntmps72 (le_ rfl) (fun w0 M0 => ?_)
  refine WP.seq ?_
  -- region 0 ref.go:22
  refine WP.region ?_
  refine WL.op (asg (oc _)) (by decide) ?_
  refine WL.nl (.thn ?_)
  refine WP.seq ?_
  -- region 1 ref.go:23
  refine WP.region ?_
  refine WL.op (mv (ot rfl)) (by decide) ?_
  refine WL.op (geq (ot rfl) (oc _)) (by decide) ?_
  refine WL.op (mv (ot rfl)) (by decide) ?_
  refine WL.gd rfl rfl (Tells.v _ _) (fun hg => mv (ot rfl)) (by decide) ?_
  refine WL.gd rfl rfl (Tells.v _ _) (fun hg => geq (og rfl hg) (oc _)) (by decide) ?_
  refine WL.op (and_ (ot rfl) (ot rfl)) (by decide) ?_
  refine WL.op (mv (ot rfl)) (by decide) ?_
  refine WL.gd rfl rfl (Tells.v _ _) (fun hg => mv (ot rfl)) (by decide) ?_
  refine WL.gd rfl rfl (Tells.v _ _) (fun hg => leq (og rfl hg) (oc _)) (by decide) ?_
  refine WL.op (and_ (ot rfl) (ot rfl)) (by decide) ?_
  refine WL.op (mv (ot rfl)) (by decide) ?_
  refine WL.gd rfl rfl (Tells.v _ _) (fun hg => mv (ot rfl)) (by decide) ?_
  refine WL.gd rfl rfl (Tells.v _ _) (fun hg => leq (og rfl hg) (oc _)) (by decide) ?_
  refine WL.op (and_ (ot rfl) (ot rfl)) (by decide) ?_
  refine WL.op (mv (ot rfl)) (by decide) ?_
  refine WL.gd rfl rfl (Tells.v _ _) (fun hg => mv (ot rfl)) (by decide) ?_
  refine WL.gd rfl rfl (Tells.v _ _) (fun hg => mv (ot rfl)) (by decide) ?_
  refine WL.gd rfl rfl (Tells.v _ _) (fun hg => add (og rfl hg) (og rfl hg) (by simp at hg; omega)) (by decide) ?_
  refine WL.gd rfl rfl (Tells.v _ _) (fun hg => leq (og rfl hg) (oc _)) (by decide) ?_
  refine WL.op (and_ (ot rfl) (ot rfl)) (by decide) ?_
  refine WL.op (asg (ot rfl)) (by decide) ?_
  refine WL.nl (.thn ?_)
  exact WP.rt (.r1 rfl rfl (imp_eq (congrArg (fun b => val (.bool b)) (by rw [Bool.eq_iff_iff]; refine Iff.trans ?_ decide_eq_true_iff.symm; simp [Wi]; omega))))

/-- the part of an extent between two blocks, as the code says it -/
def cpart (x : X) (f t : Int) : X := ⟨max x.a f, min (x.a + x.n) t - max x.a f, x.s + max x.a f - x.a⟩

theorem c_r32_part (x : X) (f t : Int) (h : 0 ≤ x.a ∧ 0 ≤ x.n ∧ 0 ≤ x.s ∧ x.a + x.n ≤ 100000000 ∧ x.s + x.n ≤ 100000000) (hf : 0 ≤ f ∧ f ≤ 100000000) (ht : 0 ≤ t ∧ t ≤ 100000000) : PureC Try.prog 83 [ext x, I f, I t] (tup [ext (cpart x f t), val (.bool (decide (max x.a f < min (x.a + x.n) t)))]) := by
  refine PureC.of_wp Try.func83 (by kernel_rfl) rfl Try.ntmps83 (le_ rfl) (fun w0 M0 => ?_)
  refine WP.seq ?_
  -- region 0 ref.go:70
  refine WP.region ?_
  refine WL.box (ot rfl) (.agg _) (by decide) fun b3 => ?_
  refine WL.alloc zr_Extent rfl (by decide) fun b6 => ?_
  refine WL.op (asg (oc _)) (by decide) ?_
  refine WL.nl (.thn ?_)
  refine WP.seq ?_
  -- region 1 draws ref.go:71
  refine WP.draws ?_
  refine RG.op (fv fo_Extent_0 (ot rfl)) ?_
  refine RG.op (lb 1 rfl sc_int (ot rfl) rfl) ?_
  refine RG.op (mv (ot rfl)) ?_
  refine RG.op (mx_ (ot rfl) (ot rfl)) ?_
  refine RG.op (fv fo_Extent_0 (ot rfl)) ?_
  refine RG.op (lb 1 rfl sc_int (ot rfl) rfl) ?_
  refine RG.op (fv fo_Extent_1 (ot rfl)) ?_
  refine RG.op (lb 1 rfl sc_int (ot rfl) rfl) ?_
  refine RG.op (add (ot rfl) (ot rfl) (by omega)) ?_
  refine RG.op (mv (ot rfl)) ?_
  refine RG.op (mn_ (ot rfl) (ot rfl)) ?_
  refine RG.op (asg (ot rfl)) ?_
  refine RG.op (asg (ot rfl)) ?_
  refine RG.fin HM (by kernel_rfl) ?_
  show WL _ _ _ _ _ _ _ _ _
  refine WL.nl (.thn ?_)
  refine WP.seq ?_
  -- region 2 ref.go:72
  refine WP.region ?_
  refine WL.op (mv (ot rfl)) (by decide) ?_
  refine WL.op (mv (ot rfl)) (by decide) ?_
  refine WL.op (mv (ot rfl)) (by decide) ?_
  refine WL.op (sub (ot rfl) (ot rfl) (by omega)) (by decide) ?_
  refine WL.op (fv fo_Extent_2 (ot rfl)) (by decide) ?_
  refine WL.op (lb 1 rfl sc_int (ot rfl) rfl) (by decide) ?_
  refine WL.op (mv (ot rfl)) (by decide) ?_
  refine WL.op (add (ot rfl) (ot rfl) (by omega)) (by decide) ?_
  refine WL.op (fv fo_Extent_0 (ot rfl)) (by decide) ?_
  refine WL.op (lb 1 rfl sc_int (ot rfl) rfl) (by decide) ?_
  refine WL.op (sub (ot rfl) (ot rfl) (by omega)) (by decide) ?_
  refine WL.op (bld zr_Extent rfl ps_Extent (.c (ot rfl) (.leaf (.val rfl)) pl_Extent_0 rfl (le_ rfl) (.c (ot rfl) (.leaf (.val rfl)) pl_Extent_1 rfl (le_ rfl) (.c (ot rfl) (.leaf (.val rfl)) pl_Extent_2 rfl (le_ rfl) .n)))) (by decide) ?_
  refine WL.op (mv (ot rfl)) (by decide) ?_
  refine WL.op (mv (ot rfl)) (by decide) ?_
  refine WL.op (lss (ot rfl) (ot rfl)) (by decide) ?_
  refine WL.store 0 rfl (ot rfl) (ot rfl) (.agg _) sz_Extent rfl (le_ rfl) ?_
  refine WL.op (asg (ot rfl)) (by decide) ?_
  refine WL.nl (.thn ?_)
  exact WP.rt (.rN rfl (.cons (.bx 0 rfl rfl ag_Extent) (.cons (.tm rfl) .nil)) (le_ rfl) (imp_eq rfl))
theorem c_r32_Valid (xs : List X) (hl : xs.length ≤ 100000) : PureC Try.prog 25 [sl 3 FX xs] (val (.bool (decide (Xt.Ok 0 xs)))) := by
  refine PureC.of_wp Try.func25 (by kernel_rfl) rfl Try.ntmps25 (le_ rfl) (fun w0 M0 => ?_)
  refine WP.seq ?_
  -- region 0 ref.go:12
  refine WP.region ?_
  refine WL.op (asg (oc _)) (by decide) ?_
  refine WL.nl (.thn ?_)
  refine WP.seq ?_
  refine WP.seq ?_
  -- region 1 ref.go:13
  refine WP.region ?_
  refine WL.op (asg (oc _)) (by decide) ?_
  refine WL.nl (.thn ?_)
  refine WP.block ?_
  refine WP.loop (fun y : Nat => []) (fun y => [(3, I (y : Int)), (0, sl 3 FX xs)]) (fun y => y ≤ xs.length ∧ Xt.Ok 0 (xs.take y)) (fun y => xs.length - y) 0 ⟨Nat.zero_le _, trivial⟩ (Sub.of (Sub.cons rfl (imp_eq rfl) (Sub.cons rfl (imp _) Sub.nil))) (fun i hi => ?_)
  replace hi : i ≤ xs.length ∧ Xt.Ok 0 (xs.take i) := hi
  show WP _ _ _ _ [] [(3, I (i : Int)), (0, sl 3 FX xs)] _ _
  refine WP.seq ?_
  refine WP.seq ?_
  -- region 2 ref.go:13
  refine WP.region ?_
  refine WL.op (mv (ot rfl)) (by decide) ?_
  refine WL.op (mv (ot rfl)) (by decide) ?_
  refine WL.op (len_ us_s_api_Extent (ot rfl)) (by decide) ?_
  refine WL.op (lss (ot rfl) (ot rfl)) (by decide) ?_
  refine WL.nl (.thn ?_)
  -- ref.go:13
  refine WP.condB (decide (i < xs.length)) rfl (by rw [Bool.eq_iff_iff]; simp) (fun hc => ?_) (fun hc => ?_)
  · skip
    have hc1 : i < xs.length := by simpa using hc
    have hprev : 0 < i → 0 ≤ (xs.getD ((i : Int) - 1).toNat default).a + (xs.getD ((i : Int) - 1).toNat default).n ∧ (xs.getD ((i : Int) - 1).toNat default).a + (xs.getD ((i : Int) - 1).toNat default).n ≤ 100000000 := fun h0 => by
      have e2 : ((i : Int) - 1).toNat = i - 1 := by omega
      rw [e2, List.getD_eq_getElem?_getD, List.getElem?_eq_getElem (by omega)]
      have := hi.2.starts (xs[i - 1]) (List.mem_take_iff_getElem.2 ⟨i - 1, by omega, rfl⟩)
      show 0 ≤ xs[i - 1].a + xs[i - 1].n ∧ xs[i - 1].a + xs[i - 1].n ≤ 100000000
      omega
    refine WP.sk (.thn ?_)
    refine WP.seq ?_
    refine WP.block ?_
    refine WP.seq ?_
    -- region 4 draws ref.go:14
    refine WP.draws ?_
    refine RG.op (mv (ot rfl)) ?_
    refine RG.op (mv (ot rfl)) ?_
    refine RG.op (ixd el_s_api_Extent (ot rfl) (ot rfl) (by omega) (by omega)) ?_
    refine RG.op (ls ag_Extent (ot rfl) (le_ rfl)) ?_
    refine RG.op (call (c_r32_One (xs.getD (i : Int).toNat default)) (.c (ot rfl) .n)) ?_
    refine RG.op (not_ (ot rfl)) ?_
    refine RG.op (mv (ot rfl)) ?_
    refine RG.gd rfl rfl (Tells.v _ _) (fun hg => mv (ot rfl)) ?_
    refine RG.gd rfl rfl (Tells.v _ _) (fun hg => gtr (og rfl hg) (oc _)) ?_
    refine RG.gd rfl rfl (Tells.v _ _) (fun hg => mv (og rfl hg)) ?_
    refine RG.gd rfl rfl (Tells.g _ _) (fun hg => mv (ot rfl)) ?_
    refine RG.gd rfl rfl (Tells.g _ _) (fun hg => mv (ot rfl)) ?_
    refine RG.gd rfl rfl (Tells.g _ _) (fun hg => ixd el_s_api_Extent (og rfl hg) (og rfl hg) (by simp at hg; omega) (by simp at hg; omega)) ?_
    refine RG.gd rfl rfl (Tells.g _ _) (fun hg => fa fo_Extent_0 (og rfl hg)) ?_
    refine RG.gd rfl rfl (Tells.g _ _) (fun hg => ld sc_int (og rfl hg)) ?_
    refine RG.gd rfl rfl (Tells.g _ _) (fun hg => mv (ot rfl)) ?_
    refine RG.gd rfl rfl (Tells.g _ _) (fun hg => mv (ot rfl)) ?_
    refine RG.gd rfl rfl (Tells.g _ _) (fun hg => sub (og rfl hg) (oc _) (by omega)) ?_
    refine RG.gd rfl rfl (Tells.g _ _) (fun hg => ixd el_s_api_Extent (og rfl hg) (og rfl hg) (by simp at hg; omega) (by simp at hg; omega)) ?_
    refine RG.gd rfl rfl (Tells.g _ _) (fun hg => fa fo_Extent_0 (og rfl hg)) ?_
    refine RG.gd rfl rfl (Tells.g _ _) (fun hg => ld sc_int (og rfl hg)) ?_
    refine RG.gd rfl rfl (Tells.g _ _) (fun hg => mv (ot rfl)) ?_
    refine RG.gd rfl rfl (Tells.g _ _) (fun hg => mv (ot rfl)) ?_
    refine RG.gd rfl rfl (Tells.g _ _) (fun hg => sub (og rfl hg) (oc _) (by omega)) ?_
    refine RG.gd rfl rfl (Tells.g _ _) (fun hg => ixd el_s_api_Extent (og rfl hg) (og rfl hg) (by simp at hg; omega) (by simp at hg; omega)) ?_
    refine RG.gd rfl rfl (Tells.g _ _) (fun hg => fa fo_Extent_1 (og rfl hg)) ?_
    refine RG.gd rfl rfl (Tells.g _ _) (fun hg => ld sc_int (og rfl hg)) ?_
    refine RG.gd rfl rfl (Tells.g _ _) (fun hg => add (og rfl hg) (og rfl hg) (by have := hprev (by simp at hg; omega); omega)) ?_
    refine RG.gd rfl rfl (Tells.g _ _) (fun hg => lss (og rfl hg) (og rfl hg)) ?_
    refine RG.gd rfl rfl (Tells.v _ _) (fun hg => and_ (og rfl hg) (og2 rfl hg)) ?_
    refine RG.op (or_ (ot rfl) (ot rfl)) ?_
    refine RG.fin HM (by kernel_rfl) ?_
    show WL _ _ _ _ _ _ _ _ _
    refine WL.nl (.thn ?_)
    -- ref.go:14
    refine WP.condB (!decide (Xt.Ok 0 (xs.take (i + 1)))) rfl (valid_step hc1 hi.2) (fun hc => ?_) (fun hc => ?_)
    · skip
      refine WP.seq ?_
      -- region 5 ref.go:15
      refine WP.region ?_
      refine WL.op (asg (oc _)) (by decide) ?_
      refine WL.nl (.thn ?_)
      exact WP.rt (.rblk (.rthn (.rthn (.rblk (.rthn (.r1 rfl rfl (imp_eq (congrArg (fun b => val (.bool b)) (Eq.symm (decide_eq_false fun h => (by simpa using hc : ¬ Xt.Ok 0 (xs.take (i + 1))) (Xt.Ok.append_left (B := xs.drop (i + 1)) (by rw [List.take_append_drop]; exact h))))))))))))
    · skip
      refine WP.sk (.blk (.thn ?_))
      -- region 3 ref.go:13
      refine WP.region ?_
      refine WL.op (mv (ot rfl)) (by decide) ?_
      refine WL.op (add (ot rfl) (oc _) (by omega)) (by decide) ?_
      refine WL.op (asg (ot rfl)) (by decide) ?_
      exact WL.nl (.again (i + 1) ⟨hc1, by simpa using hc⟩ (by omega) (Sub.of (Sub.cons rfl (imp_eq (congrArg I (by omega))) (Sub.cons rfl (imp _) Sub.nil))))
  · skip
    have hc1 : ¬ i < xs.length := by simpa using hc
    refine WP.xt (.xthn (.xthn (.xin (.thn ?_))))
    refine WP.seq ?_
    -- region 6 ref.go:18
    refine WP.region ?_
    refine WL.op (asg (oc _)) (by decide) ?_
    refine WL.nl (.thn ?_)
    exact WP.rt (.r1 rfl rfl (imp_eq (congrArg (fun b => val (.bool b)) (Eq.symm (decide_eq_true (by have := hi.2; rwa [List.take_of_length_le (by omega)] at this))))))

theorem X.ext3 {x y : X} : ([x.a, x.n, x.s] : List Int) = [y.a, y.n, y.s] ↔ x = y := by cases x; cases y; simp
theorem take_eq {xs ys : List X} {i : Nat} (hi : i < xs.length) (hj : i < ys.length) (h : xs.take i = ys.take i) (he : xs.getD ((i : Nat) : Int).toNat default = ys.getD ((i : Nat) : Int).toNat default) : xs.take (i + 1) = ys.take (i + 1) := by
  have e : ((i : Nat) : Int).toNat = i := by omega
  rw [e, List.getD_eq_getElem?_getD, List.getD_eq_getElem?_getD, List.getElem?_eq_getElem hi, List.getElem?_eq_getElem hj] at he
  have he : xs[i] = ys[i] := he
  rw [List.take_add_one, List.take_add_one, List.getElem?_eq_getElem hi, List.getElem?_eq_getElem hj, h, he]

theorem c_r32_Same (xs ys : List X) (hl : xs.length ≤ 100000) (hl2 : ys.length ≤ 100000) : PureC Try.prog 21 [sl 3 FX xs, sl 3 FX ys] (val (.bool (decide (xs = ys)))) := by
  refine PureC.of_wp Try.func21 (by kernel_rfl) rfl Try.ntmps21 (le_ rfl) (fun w0 M0 => ?_)
  refine WP.seq ?_
  -- region 0 ref.go:44
  refine WP.region ?_
  refine WL.op (asg (oc _)) (by decide) ?_
  refine WL.nl (.thn ?_)
  refine WP.seq ?_
  refine WP.seq ?_
  -- region 1 ref.go:45
  refine WP.region ?_
  refine WL.op (mv (ot rfl)) (by decide) ?_
  refine WL.op (len_ us_s_api_Extent (ot rfl)) (by decide) ?_
  refine WL.op (mv (ot rfl)) (by decide) ?_
  refine WL.op (len_ us_s_api_Extent (ot rfl)) (by decide) ?_
  refine WL.op (neq (ot rfl) (ot rfl)) (by decide) ?_
  refine WL.nl (.thn ?_)
  -- ref.go:45
  refine WP.cond rfl (fun hc => ?_) (fun hc => ?_)
  · skip
    refine WP.seq ?_
    -- region 2 ref.go:46
    refine WP.region ?_
    refine WL.op (asg (oc _)) (by decide) ?_
    refine WL.nl (.thn ?_)
    exact WP.rt (.rthn (.r1 rfl rfl (imp_eq (congrArg (fun b => val (.bool b)) (Eq.symm (decide_eq_false fun h => by subst h; simp at hc))))))
  · skip
    have hle : xs.length = ys.length := by simp at hc; omega
    refine WP.sk (.thn ?_)
    refine WP.seq ?_
    refine WP.seq ?_
    -- region 3 ref.go:48
    refine WP.region ?_
    refine WL.op (asg (oc _)) (by decide) ?_
    refine WL.nl (.thn ?_)
    refine WP.block ?_
    refine WP.loop (fun y : Nat => []) (fun y => [(5, I (y : Int)), (0, sl 3 FX xs), (1, sl 3 FX ys)]) (fun y => y ≤ xs.length ∧ xs.take y = ys.take y) (fun y => xs.length - y) 0 ⟨Nat.zero_le _, rfl⟩ (Sub.of (Sub.cons rfl (imp_eq rfl) (Sub.cons rfl (imp _) (Sub.cons rfl (imp _) Sub.nil)))) (fun i hi => ?_)
    replace hi : i ≤ xs.length ∧ xs.take i = ys.take i := hi
    show WP _ _ _ _ [] [(5, I (i : Int)), (0, sl 3 FX xs), (1, sl 3 FX ys)] _ _
    refine WP.seq ?_
    refine WP.seq ?_
    -- region 4 ref.go:48
    refine WP.region ?_
    refine WL.op (mv (ot rfl)) (by decide) ?_
    refine WL.op (mv (ot rfl)) (by decide) ?_
    refine WL.op (len_ us_s_api_Extent (ot rfl)) (by decide) ?_
    refine WL.op (lss (ot rfl) (ot rfl)) (by decide) ?_
    refine WL.nl (.thn ?_)
    -- ref.go:48
    refine WP.condB (decide (i < xs.length)) rfl (by rw [Bool.eq_iff_iff]; simp) (fun hc => ?_) (fun hc => ?_)
    · skip
      have hc1 : i < xs.length := by simpa using hc
      refine WP.sk (.thn ?_)
      refine WP.seq ?_
      refine WP.block ?_
      refine WP.seq ?_
      -- region 6 draws ref.go:49
      refine WP.draws ?_
      refine RG.op (mv (ot rfl)) ?_
      refine RG.op (mv (ot rfl)) ?_
      refine RG.op (ixd el_s_api_Extent (ot rfl) (ot rfl) (by omega) (by omega)) ?_
      refine RG.op (ls ag_Extent (ot rfl) (le_ rfl)) ?_
      refine RG.op (mv (ot rfl)) ?_
      refine RG.op (mv (ot rfl)) ?_
      refine RG.op (ixd el_s_api_Extent (ot rfl) (ot rfl) (by omega) (by omega)) ?_
      refine RG.op (ls ag_Extent (ot rfl) (le_ rfl)) ?_
      refine RG.op (nes (us := [(xs.getD (i : Int).toNat default).a, (xs.getD (i : Int).toNat default).n, (xs.getD (i : Int).toNat default).s]) (cs := [(ys.getD (i : Int).toNat default).a, (ys.getD (i : Int).toNat default).n, (ys.getD (i : Int).toNat default).s]) iF_Extent rfl rfl (ot rfl) (ot rfl)) ?_
      refine RG.fin HM (by kernel_rfl) ?_
      show WL _ _ _ _ _ _ _ _ _
      refine WL.nl (.thn ?_)
      -- ref.go:49
      refine WP.cond rfl (fun hc => ?_) (fun hc => ?_)
      · skip
        refine WP.seq ?_
        -- region 7 ref.go:50
        refine WP.region ?_
        refine WL.op (asg (oc _)) (by decide) ?_
        refine WL.nl (.thn ?_)
        exact WP.rt (.rblk (.rthn (.rthn (.rblk (.rthn (.r1 rfl rfl (imp_eq (congrArg (fun b => val (.bool b)) (Eq.symm (decide_eq_false fun h => by subst h; simp at hc))))))))))
      · skip
        refine WP.sk (.blk (.thn ?_))
        -- region 5 ref.go:48
        refine WP.region ?_
        refine WL.op (mv (ot rfl)) (by decide) ?_
        refine WL.op (add (ot rfl) (oc _) (by omega)) (by decide) ?_
        refine WL.op (asg (ot rfl)) (by decide) ?_
        exact WL.nl (.again (i + 1) ⟨hc1, take_eq hc1 (by omega) hi.2 (X.ext3.1 (by simpa using hc))⟩ (by omega) (Sub.of (Sub.cons rfl (imp_eq (congrArg I (by omega))) (Sub.cons rfl (imp _) (Sub.cons rfl (imp _) Sub.nil)))))
    · skip
      have hc1 : ¬ i < xs.length := by simpa using hc
      refine WP.xt (.xthn (.xthn (.xin (.thn ?_))))
      refine WP.seq ?_
      -- region 8 ref.go:53
      refine WP.region ?_
      refine WL.op (asg (oc _)) (by decide) ?_
      refine WL.nl (.thn ?_)
      exact WP.rt (.r1 rfl rfl (imp_eq (congrArg (fun b => val (.bool b)) (Eq.symm (decide_eq_true (by have := hi.2; rwa [List.take_of_length_le (by omega), List.take_of_length_le (by omega)] at this))))))

theorem sum_step {xs : List X} {i : Nat} (hi : i < xs.length) (ho : Xt.Ok 0 xs) : sumN (xs.take i) + (xs.getD ((i : Nat) : Int).toNat default).n = sumN (xs.take (i + 1)) ∧ 0 ≤ sumN (xs.take i) ∧ sumN (xs.take i) ≤ 70000 ∧ 0 ≤ (xs.getD ((i : Nat) : Int).toNat default).n ∧ (xs.getD ((i : Nat) : Int).toNat default).n ≤ 65536 := by
  have e : ((i : Nat) : Int).toNat = i := by omega
  rw [e, List.getD_eq_getElem?_getD, List.getElem?_eq_getElem hi]
  have h1 : Xt.Ok 0 (xs.take i) := Xt.Ok.append_left (B := xs.drop i) (by rw [List.take_append_drop]; exact ho)
  have h2 := h1.bd (Int.le_refl 0)
  have h3 := sumN_nn h2.1
  have h4 := ho.starts xs[i] (List.getElem_mem hi)
  refine ⟨?_, h3, h2.2.2, ?_, ?_⟩
  · rw [List.take_add_one, List.getElem?_eq_getElem hi]
    show sumN (xs.take i) + xs[i].n = sumN (xs.take i ++ [xs[i]])
    rw [sumN_append]; simp [sumN]
  · show 0 ≤ xs[i].n
    omega
  · show xs[i].n ≤ 65536
    omega

theorem c_r32_Blocks (xs : List X) (hl : xs.length ≤ 100000) (ho : Xt.Ok 0 xs) : PureC Try.prog 27 [sl 3 FX xs] (I (sumN xs)) := by
  refine PureC.of_wp Try.func27 (by kernel_rfl) rfl Try.ntmps27 (le_ rfl) (fun w0 M0 => ?_)
  refine WP.seq ?_
  -- region 0 ref.go:108
  refine WP.region ?_
  refine WL.op (asg (oc _)) (by decide) ?_
  refine WL.nl (.thn ?_)
  refine WP.seq ?_
  refine WP.seq ?_
  -- region 1 ref.go:109
  refine WP.region ?_
  refine WL.op (mv (ot rfl)) (by decide) ?_
  refine WL.op (OpG.weak (R' := val (.bool true)) (call (c_r32_Valid xs hl) (.c (ot rfl) .n)) (imp_eq (congrArg (fun b => val (.bool b)) (decide_eq_true ho)))) (by decide) ?_
  refine WL.op (not_ (ot rfl)) (by decide) ?_
  refine WL.nl (.thn ?_)
  -- ref.go:109
  refine WP.condF rfl ?_
  refine WP.sk (.thn ?_)
  refine WP.seq ?_
  -- region 3 ref.go:112
  refine WP.region ?_
  refine WL.op (asg (oc _)) (by decide) ?_
  refine WL.nl (.thn ?_)
  refine WP.seq ?_
  refine WP.seq ?_
  -- region 4 ref.go:113
  refine WP.region ?_
  refine WL.op (asg (oc _)) (by decide) ?_
  refine WL.nl (.thn ?_)
  refine WP.block ?_
  refine WP.loop (fun y : Nat => []) (fun y => [(4, I (y : Int)), (3, I (sumN (xs.take y))), (0, sl 3 FX xs)]) (fun y => y ≤ xs.length) (fun y => xs.length - y) 0 (Nat.zero_le _) (Sub.of (Sub.cons rfl (imp_eq rfl) (Sub.cons rfl (imp _) (Sub.cons rfl (imp _) Sub.nil)))) (fun i hi => ?_)
  replace hi : i ≤ xs.length := hi
  show WP _ _ _ _ [] [(4, I (i : Int)), (3, I (sumN (xs.take i))), (0, sl 3 FX xs)] _ _
  refine WP.seq ?_
  refine WP.seq ?_
  -- region 5 ref.go:113
  refine WP.region ?_
  refine WL.op (mv (ot rfl)) (by decide) ?_
  refine WL.op (mv (ot rfl)) (by decide) ?_
  refine WL.op (len_ us_s_api_Extent (ot rfl)) (by decide) ?_
  refine WL.op (lss (ot rfl) (ot rfl)) (by decide) ?_
  refine WL.nl (.thn ?_)
  -- ref.go:113
  refine WP.condB (decide (i < xs.length)) rfl (by rw [Bool.eq_iff_iff]; simp) (fun hc => ?_) (fun hc => ?_)
  · skip
    have hc1 : i < xs.length := by simpa using hc
    have hs := sum_step hc1 ho
    refine WP.sk (.thn ?_)
    refine WP.seq ?_
    refine WP.block ?_
    -- region 7 ref.go:114
    refine WP.region ?_
    refine WL.op (mv (ot rfl)) (by decide) ?_
    refine WL.op (mv (ot rfl)) (by decide) ?_
    refine WL.op (mv (ot rfl)) (by decide) ?_
    refine WL.op (ixd el_s_api_Extent (ot rfl) (ot rfl) (by omega) (by omega)) (by decide) ?_
    refine WL.op (fa fo_Extent_1 (ot rfl)) (by decide) ?_
    refine WL.op (ld sc_int (ot rfl)) (by decide) ?_
    refine WL.op (add (ot rfl) (ot rfl) (by omega)) (by decide) ?_
    refine WL.op (asg (ot rfl)) (by decide) ?_
    refine WL.nl (.blk (.thn ?_))
    -- region 6 ref.go:113
    refine WP.region ?_
    refine WL.op (mv (ot rfl)) (by decide) ?_
    refine WL.op (add (ot rfl) (oc _) (by omega)) (by decide) ?_
    refine WL.op (asg (ot rfl)) (by decide) ?_
    exact WL.nl (.again (i + 1) hc1 (by omega) (Sub.of (Sub.cons rfl (imp_eq (congrArg I (by omega))) (Sub.cons rfl (imp_eq (congrArg I hs.1)) (Sub.cons rfl (imp _) Sub.nil)))))
  · skip
    have hc1 : ¬ i < xs.length := by simpa using hc
    refine WP.xt (.xthn (.xthn (.xin (.thn ?_))))
    refine WP.seq ?_
    -- region 8 ref.go:116
    refine WP.region ?_
    refine WL.op (mv (ot rfl)) (by decide) ?_
    refine WL.op (asg (ot rfl)) (by decide) ?_
    refine WL.nl (.thn ?_)
    exact WP.rt (.r1 rfl rfl (imp_eq (congrArg I (by rw [List.take_of_length_le (by omega)]))))

theorem find_step {xs : List X} {i : Nat} (hi : i < xs.length) (ho : Xt.Ok 0 xs) (b : Int) (hn : sem (xs.take i) b = none) :
    (0 ≤ (xs.getD ((i : Nat) : Int).toNat default).a ∧ 1 ≤ (xs.getD ((i : Nat) : Int).toNat default).n ∧ 0 ≤ (xs.getD ((i : Nat) : Int).toNat default).s ∧ (xs.getD ((i : Nat) : Int).toNat default).a + (xs.getD ((i : Nat) : Int).toNat default).n ≤ 65536 ∧ (xs.getD ((i : Nat) : Int).toNat default).s + (xs.getD ((i : Nat) : Int).toNat default).n ≤ 65536) ∧
    ((xs.getD ((i : Nat) : Int).toNat default).a ≤ b ∧ b < (xs.getD ((i : Nat) : Int).toNat default).a + (xs.getD ((i : Nat) : Int).toNat default).n → sem xs b = some ((xs.getD ((i : Nat) : Int).toNat default).s + b - (xs.getD ((i : Nat) : Int).toNat default).a)) ∧
    (¬ ((xs.getD ((i : Nat) : Int).toNat default).a ≤ b ∧ b < (xs.getD ((i : Nat) : Int).toNat default).a + (xs.getD ((i : Nat) : Int).toNat default).n) → sem (xs.take (i + 1)) b = none) := by
  have e : ((i : Nat) : Int).toNat = i := by omega
  have h4 := ho.starts xs[i] (List.getElem_mem hi)
  have e2 : xs.take i ++ (xs[i] :: xs.drop (i + 1)) = xs := by rw [← List.drop_eq_getElem_cons hi, List.take_append_drop]
  have e3 : xs.take (i + 1) = xs.take i ++ [xs[i]] := by rw [List.take_add_one, List.getElem?_eq_getElem hi]; rfl
  have e4 : xs.getD i default = xs[i] := by rw [List.getD_eq_getElem?_getD, List.getElem?_eq_getElem hi]; rfl
  rw [e, e4, e3]
  generalize xs[i] = z at *
  refine ⟨h4, fun h => ?_, fun h => ?_⟩
  · rw [← e2, sem_append, hn]
    simp only [sem, Option.none_or]
    rw [if_pos h]
  · show sem (xs.take i ++ [z]) b = none
    rw [sem_append, hn]
    simp only [sem, Option.none_or]
    rw [if_neg h]

theorem c_r32_Find (xs : List X) (b : Int) (hl : xs.length ≤ 100000) (ho : Xt.Ok 0 xs) : PureC Try.prog 29 [sl 3 FX xs, I b] (tup [I ((sem xs b).getD 0), val (.bool (sem xs b).isSome)]) := by
  refine PureC.of_wp Try.func29 (by kernel_rfl) rfl Try.ntmps29 (le_ rfl) (fun w0 M0 => ?_)
  refine WP.seq ?_
  -- region 0 ref.go:57
  refine WP.region ?_
  refine WL.op (asg (oc _)) (by decide) ?_
  refine WL.op (asg (oc _)) (by decide) ?_
  refine WL.nl (.thn ?_)
  refine WP.seq ?_
  refine WP.seq ?_
  -- region 1 ref.go:58
  refine WP.region ?_
  refine WL.op (mv (ot rfl)) (by decide) ?_
  refine WL.op (OpG.weak (R' := val (.bool true)) (call (c_r32_Valid xs hl) (.c (ot rfl) .n)) (imp_eq (congrArg (fun b => val (.bool b)) (decide_eq_true ho)))) (by decide) ?_
  refine WL.op (not_ (ot rfl)) (by decide) ?_
  refine WL.nl (.thn ?_)
  -- ref.go:58
  refine WP.condF rfl ?_
  refine WP.sk (.thn ?_)
  refine WP.seq ?_
  refine WP.seq ?_
  -- region 3 ref.go:61
  refine WP.region ?_
  refine WL.op (asg (oc _)) (by decide) ?_
  refine WL.nl (.thn ?_)
  refine WP.block ?_
  refine WP.loop (fun y : Nat => []) (fun y => [(6, I (y : Int)), (0, sl 3 FX xs), (1, I b)]) (fun y => y ≤ xs.length ∧ sem (xs.take y) b = none) (fun y => xs.length - y) 0 ⟨Nat.zero_le _, rfl⟩ (Sub.of (Sub.cons rfl (imp_eq rfl) (Sub.cons rfl (imp _) (Sub.cons rfl (imp _) Sub.nil)))) (fun i hi => ?_)
  replace hi : i ≤ xs.length ∧ sem (xs.take i) b = none := hi
  show WP _ _ _ _ [] [(6, I (i : Int)), (0, sl 3 FX xs), (1, I b)] _ _
  refine WP.seq ?_
  refine WP.seq ?_
  -- region 4 ref.go:61
  refine WP.region ?_
  refine WL.op (mv (ot rfl)) (by decide) ?_
  refine WL.op (mv (ot rfl)) (by decide) ?_
  refine WL.op (len_ us_s_api_Extent (ot rfl)) (by decide) ?_
  refine WL.op (lss (ot rfl) (ot rfl)) (by decide) ?_
  refine WL.nl (.thn ?_)
  -- ref.go:61
  refine WP.condB (decide (i < xs.length)) rfl (by rw [Bool.eq_iff_iff]; simp) (fun hc => ?_) (fun hc => ?_)
  · skip
    have hc1 : i < xs.length := by simpa using hc
    have hs := find_step hc1 ho b hi.2
    refine WP.sk (.thn ?_)
    refine WP.seq ?_
    refine WP.block ?_
    refine WP.seq ?_
    -- region 6 draws ref.go:62
    refine WP.draws ?_
    refine RG.op (mv (ot rfl)) ?_
    refine RG.op (mv (ot rfl)) ?_
    refine RG.op (mv (ot rfl)) ?_
    refine RG.op (ixd el_s_api_Extent (ot rfl) (ot rfl) (by omega) (by omega)) ?_
    refine RG.op (fa fo_Extent_0 (ot rfl)) ?_
    refine RG.op (ld sc_int (ot rfl)) ?_
    refine RG.op (geq (ot rfl) (ot rfl)) ?_
    refine RG.op (mv (ot rfl)) ?_
    refine RG.gd rfl rfl (Tells.v _ _) (fun hg => mv (ot rfl)) ?_
    refine RG.gd rfl rfl (Tells.v _ _) (fun hg => mv (ot rfl)) ?_
    refine RG.gd rfl rfl (Tells.v _ _) (fun hg => mv (ot rfl)) ?_
    refine RG.gd rfl rfl (Tells.v _ _) (fun hg => ixd el_s_api_Extent (og rfl hg) (og rfl hg) (by omega) (by omega)) ?_
    refine RG.gd rfl rfl (Tells.v _ _) (fun hg => fa fo_Extent_0 (og rfl hg)) ?_
    refine RG.gd rfl rfl (Tells.v _ _) (fun hg => ld sc_int (og rfl hg)) ?_
    refine RG.gd rfl rfl (Tells.v _ _) (fun hg => mv (ot rfl)) ?_
    refine RG.gd rfl rfl (Tells.v _ _) (fun hg => mv (ot rfl)) ?_
    refine RG.gd rfl rfl (Tells.v _ _) (fun hg => ixd el_s_api_Extent (og rfl hg) (og rfl hg) (by omega) (by omega)) ?_
    refine RG.gd rfl rfl (Tells.v _ _) (fun hg => fa fo_Extent_1 (og rfl hg)) ?_
    refine RG.gd rfl rfl (Tells.v _ _) (fun hg => ld sc_int (og rfl hg)) ?_
    refine RG.gd rfl rfl (Tells.v _ _) (fun hg => add (og rfl hg) (og rfl hg) (by omega)) ?_
    refine RG.gd rfl rfl (Tells.v _ _) (fun hg => lss (og rfl hg) (og rfl hg)) ?_
    refine RG.op (and_ (ot rfl) (ot rfl)) ?_
    refine RG.fin HM (by kernel_rfl) ?_
    show WL _ _ _ _ _ _ _ _ _
    refine WL.nl (.thn ?_)
    -- ref.go:62
    refine WP.cond rfl (fun hc => ?_) (fun hc => ?_)
    · skip
      have hf : (xs.getD (i : Int).toNat default).a ≤ b ∧ b < (xs.getD (i : Int).toNat default).a + (xs.getD (i : Int).toNat default).n := by simpa using hc
      refine WP.seq ?_
      -- region 7 draws ref.go:63
      refine WP.draws ?_
      refine RG.op (mv (ot rfl)) ?_
      refine RG.op (mv (ot rfl)) ?_
      refine RG.op (ixd el_s_api_Extent (ot rfl) (ot rfl) (by omega) (by omega)) ?_
      refine RG.op (fa fo_Extent_2 (ot rfl)) ?_
      refine RG.op (ld sc_int (ot rfl)) ?_
      refine RG.op (mv (ot rfl)) ?_
      refine RG.op (add (ot rfl) (ot rfl) (by omega)) ?_
      refine RG.op (mv (ot rfl)) ?_
      refine RG.op (mv (ot rfl)) ?_
      refine RG.op (ixd el_s_api_Extent (ot rfl) (ot rfl) (by omega) (by omega)) ?_
      refine RG.op (fa fo_Extent_0 (ot rfl)) ?_
      refine RG.op (ld sc_int (ot rfl)) ?_
      refine RG.op (sub (ot rfl) (ot rfl) (by omega)) ?_
      refine RG.op (asg (ot rfl)) ?_
      refine RG.op (asg (oc _)) ?_
      refine RG.fin HM (by kernel_rfl) ?_
      show WL _ _ _ _ _ _ _ _ _
      refine WL.nl (.thn ?_)
      exact WP.rt (.rblk (.rthn (.rthn (.rblk (.rthn (.rN rfl (.cons (.tm rfl) (.cons (.tm rfl) .nil)) (le_ rfl) (imp_eq (by rw [hs.2.1 hf]; rfl))))))))
    · skip
      have hf : ¬ ((xs.getD (i : Int).toNat default).a ≤ b ∧ b < (xs.getD (i : Int).toNat default).a + (xs.getD (i : Int).toNat default).n) := by simp only [Bool.and_eq_false_iff, decide_eq_false_iff_not] at hc; omega
      refine WP.sk (.blk (.thn ?_))
      -- region 5 ref.go:61
      refine WP.region ?_
      refine WL.op (mv (ot rfl)) (by decide) ?_
      refine WL.op (add (ot rfl) (oc _) (by omega)) (by decide) ?_
      refine WL.op (asg (ot rfl)) (by decide) ?_
      exact WL.nl (.again (i + 1) ⟨hc1, hs.2.2 hf⟩ (by omega) (Sub.of (Sub.cons rfl (imp_eq (congrArg I (by omega))) (Sub.cons rfl (imp _) (Sub.cons rfl (imp _) Sub.nil)))))
  · skip
    have hc1 : ¬ i < xs.length := by simpa using hc
    refine WP.xt (.xthn (.xthn (.xin (.thn ?_))))
    refine WP.seq ?_
    -- region 8 ref.go:66
    refine WP.region ?_
    refine WL.op (asg (oc _)) (by decide) ?_
    refine WL.op (asg (oc _)) (by decide) ?_
    refine WL.nl (.thn ?_)
    exact WP.rt (.rN rfl (.cons (.tm rfl) (.cons (.tm rfl) .nil)) (le_ rfl) (imp_eq (by have := hi.2; rw [List.take_of_length_le (by omega)] at this; rw [this]; rfl)))
end Go.Proofs.Ytjglgfnhgehpeaa

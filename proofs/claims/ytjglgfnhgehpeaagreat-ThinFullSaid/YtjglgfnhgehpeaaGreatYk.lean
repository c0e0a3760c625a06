/- Parts: RefA, RefB. -/
import Derived.Test.YtjglgfnhgehpeaaGreatYj
import Derived.Test.YtjglgfnhgehpeaaGreatYe
import Derived.Test.YtjglgfnhgehpeaaGreatYg
/- The small functions of the specification of extents. -/
set_option linter.unusedVariables false
set_option linter.unusedSimpArgs false
set_option maxRecDepth 4000
namespace Go.Proofs.YtjglgfnhgehpeaaGreat
open Go.RowKit Go.Fw Go.Xt
theorem c_r32_One (x : X) : PureC Tryz.prog 150 [ext x] (val (.bool (decide (Pr x)))) := by
  refine PureC.of_wp Tryz.func150 (by kernel_rfl) rfl Tryz.ntmps150 (le_ rfl) (fun w0 M0 => ?_)
  refine WP.seq ?_
  refine WP.region ?_
  refine WL.box (ot rfl) (.agg _) (by decide) fun b1 => ?_
  refine WL.op (asg (oc _)) (by decide) ?_
  refine WL.nl (.thn ?_)
  refine WP.seq ?_
  refine WP.region ?_
  refine WL.op (fv fo_Extent_0 (ot rfl)) (by decide) ?_
  refine WL.op (lb 0 rfl sc_int (ot rfl) rfl) (by decide) ?_
  refine WL.op (geq (ot rfl) (oc _)) (by decide) ?_
  refine WL.op (mv (ot rfl)) (by decide) ?_
  refine WL.gd rfl rfl (Tells.v _ _) (fun hg => fv fo_Extent_2 (ot rfl)) (by decide) ?_
  refine WL.gd rfl rfl (Tells.v _ _) (fun hg => lb 0 rfl sc_int (og rfl hg) rfl) (by decide) ?_
  refine WL.gd rfl rfl (Tells.v _ _) (fun hg => geq (og rfl hg) (oc _)) (by decide) ?_
  refine WL.op (and_ (ot rfl) (ot rfl)) (by decide) ?_
  refine WL.op (mv (ot rfl)) (by decide) ?_
  refine WL.gd rfl rfl (Tells.v _ _) (fun hg => fv fo_Extent_1 (ot rfl)) (by decide) ?_
  refine WL.gd rfl rfl (Tells.v _ _) (fun hg => lb 0 rfl sc_int (og rfl hg) rfl) (by decide) ?_
  refine WL.gd rfl rfl (Tells.v _ _) (fun hg => geq (og rfl hg) (oc _)) (by decide) ?_
  refine WL.op (and_ (ot rfl) (ot rfl)) (by decide) ?_
  refine WL.op (mv (ot rfl)) (by decide) ?_
  refine WL.gd rfl rfl (Tells.v _ _) (fun hg => fv fo_Extent_0 (ot rfl)) (by decide) ?_
  refine WL.gd rfl rfl (Tells.v _ _) (fun hg => lb 0 rfl sc_int (og rfl hg) rfl) (by decide) ?_
  refine WL.gd rfl rfl (Tells.v _ _) (fun hg => leq (og rfl hg) (oc _)) (by decide) ?_
  refine WL.op (and_ (ot rfl) (ot rfl)) (by decide) ?_
  refine WL.op (mv (ot rfl)) (by decide) ?_
  refine WL.gd rfl rfl (Tells.v _ _) (fun hg => fv fo_Extent_2 (ot rfl)) (by decide) ?_
  refine WL.gd rfl rfl (Tells.v _ _) (fun hg => lb 0 rfl sc_int (og rfl hg) rfl) (by decide) ?_
  refine WL.gd rfl rfl (Tells.v _ _) (fun hg => leq (og rfl hg) (oc _)) (by decide) ?_
  refine WL.op (and_ (ot rfl) (ot rfl)) (by decide) ?_
  refine WL.op (mv (ot rfl)) (by decide) ?_
  refine WL.gd rfl rfl (Tells.v _ _) (fun hg => fv fo_Extent_1 (ot rfl)) (by decide) ?_
  refine WL.gd rfl rfl (Tells.v _ _) (fun hg => lb 0 rfl sc_int (og rfl hg) rfl) (by decide) ?_
  refine WL.gd rfl rfl (Tells.v _ _) (fun hg => leq (og rfl hg) (oc _)) (by decide) ?_
  refine WL.op (and_ (ot rfl) (ot rfl)) (by decide) ?_
  refine WL.op (mv (ot rfl)) (by decide) ?_
  refine WL.gd rfl rfl (Tells.v _ _) (fun hg => fv fo_Extent_0 (ot rfl)) (by decide) ?_
  refine WL.gd rfl rfl (Tells.v _ _) (fun hg => lb 0 rfl sc_int (og rfl hg) rfl) (by decide) ?_
  refine WL.gd rfl rfl (Tells.v _ _) (fun hg => fv fo_Extent_1 (ot rfl)) (by decide) ?_
  refine WL.gd rfl rfl (Tells.v _ _) (fun hg => lb 0 rfl sc_int (og rfl hg) rfl) (by decide) ?_
  refine WL.gd rfl rfl (Tells.v _ _) (fun hg => add (og rfl hg) (og rfl hg) (by simp at hg; omega)) (by decide) ?_
  refine WL.gd rfl rfl (Tells.v _ _) (fun hg => leq (og rfl hg) (oc _)) (by decide) ?_
  refine WL.op (and_ (ot rfl) (ot rfl)) (by decide) ?_
  refine WL.op (mv (ot rfl)) (by decide) ?_
  refine WL.gd rfl rfl (Tells.v _ _) (fun hg => fv fo_Extent_2 (ot rfl)) (by decide) ?_
  refine WL.gd rfl rfl (Tells.v _ _) (fun hg => lb 0 rfl sc_int (og rfl hg) rfl) (by decide) ?_
  refine WL.gd rfl rfl (Tells.v _ _) (fun hg => fv fo_Extent_1 (ot rfl)) (by decide) ?_
  refine WL.gd rfl rfl (Tells.v _ _) (fun hg => lb 0 rfl sc_int (og rfl hg) rfl) (by decide) ?_
  refine WL.gd rfl rfl (Tells.v _ _) (fun hg => add (og rfl hg) (og rfl hg) (by simp at hg; omega)) (by decide) ?_
  refine WL.gd rfl rfl (Tells.v _ _) (fun hg => leq (og rfl hg) (oc _)) (by decide) ?_
  refine WL.op (and_ (ot rfl) (ot rfl)) (by decide) ?_
  refine WL.op (asg (ot rfl)) (by decide) ?_
  refine WL.nl (.thn ?_)
  exact WP.rt (.r1 rfl rfl (imp_eq (congrArg (fun b => val (.bool b)) (by rw [Bool.eq_iff_iff]; refine Iff.trans ?_ decide_eq_true_iff.symm; simp [Pr, Wi]; omega))))
theorem c_r32_Range (a n : Int) : PureC Tryz.prog 121 [I a, I n] (val (.bool (decide (Wi a n 65536)))) := by
  refine PureC.of_wp Tryz.func121 (by kernel_rfl) rfl Tryz.ntmps121 (le_ rfl) (fun w0 M0 => ?_)
  refine WP.seq ?_
  refine WP.region ?_
  refine WL.op (asg (oc _)) (by decide) ?_
  refine WL.nl (.thn ?_)
  refine WP.seq ?_
  refine WP.region ?_
  refine WL.op (mv (ot rfl)) (by decide) ?_
  refine WL.op (geq (ot rfl) (oc _)) (by decide) ?_
  refine WL.op (mv (ot rfl)) (by decide) ?_
  refine WL.gd rfl rfl (Tells.v _ _) (fun hg => mv (ot rfl)) (by decide) ?_
  refine WL.gd rfl rfl (Tells.v _ _) (fun hg => geq (og rfl hg) (oc _)) (by decide) ?_
  refine WL.op (and_ (ot rfl) (ot rfl)) (by decide) ?_
  refine WL.op (mv (ot rfl)) (by decide) ?_
  refine WL.gd rfl rfl (Tells.v _ _) (fun hg => mv (ot rfl)) (by decide) ?_
  refine WL.gd rfl rfl (Tells.v _ _) (fun hg => leq (og rfl hg) (oc _)) (by decide) ?_
  refine WL.op (and_ (ot rfl) (ot rfl)) (by decide) ?_
  refine WL.op (mv (ot rfl)) (by decide) ?_
  refine WL.gd rfl rfl (Tells.v _ _) (fun hg => mv (ot rfl)) (by decide) ?_
  refine WL.gd rfl rfl (Tells.v _ _) (fun hg => leq (og rfl hg) (oc _)) (by decide) ?_
  refine WL.op (and_ (ot rfl) (ot rfl)) (by decide) ?_
  refine WL.op (mv (ot rfl)) (by decide) ?_
  refine WL.gd rfl rfl (Tells.v _ _) (fun hg => mv (ot rfl)) (by decide) ?_
  refine WL.gd rfl rfl (Tells.v _ _) (fun hg => mv (ot rfl)) (by decide) ?_
  refine WL.gd rfl rfl (Tells.v _ _) (fun hg => add (og rfl hg) (og rfl hg) (by simp at hg; omega)) (by decide) ?_
  refine WL.gd rfl rfl (Tells.v _ _) (fun hg => leq (og rfl hg) (oc _)) (by decide) ?_
  refine WL.op (and_ (ot rfl) (ot rfl)) (by decide) ?_
  refine WL.op (asg (ot rfl)) (by decide) ?_
  refine WL.nl (.thn ?_)
  exact WP.rt (.r1 rfl rfl (imp_eq (congrArg (fun b => val (.bool b)) (by rw [Bool.eq_iff_iff]; refine Iff.trans ?_ decide_eq_true_iff.symm; simp [Wi]; omega))))

def cpart (x : X) (f t : Int) : X := ⟨max x.a f, min (x.a + x.n) t - max x.a f, x.s + max x.a f - x.a⟩

theorem c_r32_part (x : X) (f t : Int) (h : 0 ≤ x.a ∧ 0 ≤ x.n ∧ 0 ≤ x.s ∧ x.a + x.n ≤ 100000000 ∧ x.s + x.n ≤ 100000000) (hf : 0 ≤ f ∧ f ≤ 100000000) (ht : 0 ≤ t ∧ t ≤ 100000000) : PureC Tryz.prog 155 [ext x, I f, I t] (tup [ext (cpart x f t), val (.bool (decide (max x.a f < min (x.a + x.n) t)))]) := by
  refine PureC.of_wp Tryz.func155 (by kernel_rfl) rfl Tryz.ntmps155 (le_ rfl) (fun w0 M0 => ?_)
  refine WP.seq ?_
  refine WP.region ?_
  refine WL.box (ot rfl) (.agg _) (by decide) fun b3 => ?_
  refine WL.alloc zr_Extent rfl (by decide) fun b6 => ?_
  refine WL.op (asg (oc _)) (by decide) ?_
  refine WL.nl (.thn ?_)
  refine WP.seq ?_
  refine WP.draws ?_
  refine RG.op (fv fo_Extent_0 (ot rfl)) ?_
  refine RG.op (lb 1 rfl sc_int (ot rfl) rfl) ?_
  refine RG.op (mv (ot rfl)) ?_
  refine RG.op (mx_ (ot rfl) (ot rfl)) ?_
  refine RG.op (fv fo_Extent_0 (ot rfl)) ?_
  refine RG.op (lb 1 rfl sc_int (ot rfl) rfl) ?_
  refine RG.op (fv fo_Extent_1 (ot rfl)) ?_
  refine RG.op (lb 1 rfl sc_int (ot rfl) rfl) ?_
  refine RG.op (add (ot rfl) (ot rfl) (by omega)) ?_
  refine RG.op (mv (ot rfl)) ?_
  refine RG.op (mn_ (ot rfl) (ot rfl)) ?_
  refine RG.op (asg (ot rfl)) ?_
  refine RG.op (asg (ot rfl)) ?_
  refine RG.fin HM (by kernel_rfl) ?_
  show WL _ _ _ _ _ _ _ _ _
  refine WL.nl (.thn ?_)
  refine WP.seq ?_
  refine WP.region ?_
  refine WL.op (mv (ot rfl)) (by decide) ?_
  refine WL.op (mv (ot rfl)) (by decide) ?_
  refine WL.op (mv (ot rfl)) (by decide) ?_
  refine WL.op (sub (ot rfl) (ot rfl) (by omega)) (by decide) ?_
  refine WL.op (fv fo_Extent_2 (ot rfl)) (by decide) ?_
  refine WL.op (lb 1 rfl sc_int (ot rfl) rfl) (by decide) ?_
  refine WL.op (mv (ot rfl)) (by decide) ?_
  refine WL.op (add (ot rfl) (ot rfl) (by omega)) (by decide) ?_
  refine WL.op (fv fo_Extent_0 (ot rfl)) (by decide) ?_
  refine WL.op (lb 1 rfl sc_int (ot rfl) rfl) (by decide) ?_
  refine WL.op (sub (ot rfl) (ot rfl) (by omega)) (by decide) ?_
  refine WL.op (bld zr_Extent rfl ps_Extent (.c (ot rfl) (.leaf (.val rfl)) pl_Extent_0 rfl (le_ rfl) (.c (ot rfl) (.leaf (.val rfl)) pl_Extent_1 rfl (le_ rfl) (.c (ot rfl) (.leaf (.val rfl)) pl_Extent_2 rfl (le_ rfl) .n)))) (by decide) ?_
  refine WL.op (mv (ot rfl)) (by decide) ?_
  refine WL.op (mv (ot rfl)) (by decide) ?_
  refine WL.op (lss (ot rfl) (ot rfl)) (by decide) ?_
  refine WL.store 0 rfl (ot rfl) (ot rfl) (.agg _) sz_Extent rfl (le_ rfl) ?_
  refine WL.op (asg (ot rfl)) (by decide) ?_
  refine WL.nl (.thn ?_)
  exact WP.rt (.rN rfl (.cons (.bx 0 rfl rfl ag_Extent) (.cons (.tm rfl) .nil)) (le_ rfl) (imp_eq rfl))
theorem c_r32_Valid (xs : List X) (hl : xs.length ≤ 100000) : PureC Tryz.prog 115 [sl 3 FX xs] (val (.bool (decide (Xt.Ok 0 xs)))) := by
  refine PureC.of_wp Tryz.func115 (by kernel_rfl) rfl Tryz.ntmps115 (le_ rfl) (fun w0 M0 => ?_)
  refine WP.seq ?_
  refine WP.region ?_
  refine WL.op (asg (oc _)) (by decide) ?_
  refine WL.nl (.thn ?_)
  refine WP.seq ?_
  refine WP.seq ?_
  refine WP.region ?_
  refine WL.op (asg (oc _)) (by decide) ?_
  refine WL.nl (.thn ?_)
  refine WP.block ?_
  refine WP.loop (fun y : Nat => []) (fun y => [(3, I (y : Int)), (0, sl 3 FX xs)]) (fun y => y ≤ xs.length ∧ Xt.Ok 0 (xs.take y)) (fun y => xs.length - y) 0 ⟨Nat.zero_le _, trivial⟩ (Sub.of (Sub.cons rfl (imp_eq rfl) (Sub.cons rfl (imp _) Sub.nil))) (fun i hi => ?_)
  replace hi : i ≤ xs.length ∧ Xt.Ok 0 (xs.take i) := hi
  show WP _ _ _ _ [] [(3, I (i : Int)), (0, sl 3 FX xs)] _ _
  refine WP.seq ?_
  refine WP.seq ?_
  refine WP.region ?_
  refine WL.op (mv (ot rfl)) (by decide) ?_
  refine WL.op (mv (ot rfl)) (by decide) ?_
  refine WL.op (len_ us_s_api_Extent (ot rfl)) (by decide) ?_
  refine WL.op (lss (ot rfl) (ot rfl)) (by decide) ?_
  refine WL.nl (.thn ?_)
  refine WP.condB (decide (i < xs.length)) rfl (by rw [Bool.eq_iff_iff]; simp) (fun hc => ?_) (fun hc => ?_)
  · skip
    have hc1 : i < xs.length := by simpa using hc
    have hprev : 0 < i → 0 ≤ (xs.getD ((i : Int) - 1).toNat default).a + (xs.getD ((i : Int) - 1).toNat default).n ∧ (xs.getD ((i : Int) - 1).toNat default).a + (xs.getD ((i : Int) - 1).toNat default).n ≤ 100000000 := fun h0 => by
      have e2 : ((i : Int) - 1).toNat = i - 1 := by omega
      rw [e2, List.getD_eq_getElem?_getD, List.getElem?_eq_getElem (by omega)]
      have := hi.2.starts (xs[i - 1]) (List.mem_take_iff_getElem.2 ⟨i - 1, by omega, rfl⟩)
      show 0 ≤ xs[i - 1].a + xs[i - 1].n ∧ xs[i - 1].a + xs[i - 1].n ≤ 100000000
      omega
    refine WP.sk (.thn ?_)
    refine WP.seq ?_
    refine WP.block ?_
    refine WP.seq ?_
    refine WP.draws ?_
    refine RG.op (mv (ot rfl)) ?_
    refine RG.op (mv (ot rfl)) ?_
    refine RG.op (ixd el_s_api_Extent (ot rfl) (ot rfl) (by omega) (by omega)) ?_
    refine RG.op (ls ag_Extent (ot rfl) (le_ rfl)) ?_
    refine RG.op (call (c_r32_One (xs.getD (i : Int).toNat default)) (.c (ot rfl) .n)) ?_
    refine RG.op (not_ (ot rfl)) ?_
    refine RG.op (mv (ot rfl)) ?_
    refine RG.gd rfl rfl (Tells.v _ _) (fun hg => mv (ot rfl)) ?_
    refine RG.gd rfl rfl (Tells.v _ _) (fun hg => gtr (og rfl hg) (oc _)) ?_
    refine RG.gd rfl rfl (Tells.v _ _) (fun hg => mv (og rfl hg)) ?_
    refine RG.gd rfl rfl (Tells.g _ _) (fun hg => mv (ot rfl)) ?_
    refine RG.gd rfl rfl (Tells.g _ _) (fun hg => mv (ot rfl)) ?_
    refine RG.gd rfl rfl (Tells.g _ _) (fun hg => ixd el_s_api_Extent (og rfl hg) (og rfl hg) (by simp at hg; omega) (by simp at hg; omega)) ?_
    refine RG.gd rfl rfl (Tells.g _ _) (fun hg => fa fo_Extent_0 (og rfl hg)) ?_
    refine RG.gd rfl rfl (Tells.g _ _) (fun hg => ld sc_int (og rfl hg)) ?_
    refine RG.gd rfl rfl (Tells.g _ _) (fun hg => mv (ot rfl)) ?_
    refine RG.gd rfl rfl (Tells.g _ _) (fun hg => mv (ot rfl)) ?_
    refine RG.gd rfl rfl (Tells.g _ _) (fun hg => sub (og rfl hg) (oc _) (by omega)) ?_
    refine RG.gd rfl rfl (Tells.g _ _) (fun hg => ixd el_s_api_Extent (og rfl hg) (og rfl hg) (by simp at hg; omega) (by simp at hg; omega)) ?_
    refine RG.gd rfl rfl (Tells.g _ _) (fun hg => fa fo_Extent_0 (og rfl hg)) ?_
    refine RG.gd rfl rfl (Tells.g _ _) (fun hg => ld sc_int (og rfl hg)) ?_
    refine RG.gd rfl rfl (Tells.g _ _) (fun hg => mv (ot rfl)) ?_
    refine RG.gd rfl rfl (Tells.g _ _) (fun hg => mv (ot rfl)) ?_
    refine RG.gd rfl rfl (Tells.g _ _) (fun hg => sub (og rfl hg) (oc _) (by omega)) ?_
    refine RG.gd rfl rfl (Tells.g _ _) (fun hg => ixd el_s_api_Extent (og rfl hg) (og rfl hg) (by simp at hg; omega) (by simp at hg; omega)) ?_
    refine RG.gd rfl rfl (Tells.g _ _) (fun hg => fa fo_Extent_1 (og rfl hg)) ?_
    refine RG.gd rfl rfl (Tells.g _ _) (fun hg => ld sc_int (og rfl hg)) ?_
    refine RG.gd rfl rfl (Tells.g _ _) (fun hg => add (og rfl hg) (og rfl hg) (by have := hprev (by simp at hg; omega); omega)) ?_
    refine RG.gd rfl rfl (Tells.g _ _) (fun hg => lss (og rfl hg) (og rfl hg)) ?_
    refine RG.gd rfl rfl (Tells.v _ _) (fun hg => and_ (og rfl hg) (og2 rfl hg)) ?_
    refine RG.op (or_ (ot rfl) (ot rfl)) ?_
    refine RG.fin HM (by kernel_rfl) ?_
    show WL _ _ _ _ _ _ _ _ _
    refine WL.nl (.thn ?_)
    refine WP.condB (!decide (Xt.Ok 0 (xs.take (i + 1)))) rfl (valid_step hc1 hi.2) (fun hc => ?_) (fun hc => ?_)
    · skip
      refine WP.seq ?_
      refine WP.region ?_
      refine WL.op (asg (oc _)) (by decide) ?_
      refine WL.nl (.thn ?_)
      exact WP.rt (.rblk (.rthn (.rthn (.rblk (.rthn (.r1 rfl rfl (imp_eq (congrArg (fun b => val (.bool b)) (Eq.symm (decide_eq_false fun h => (by simpa using hc : ¬ Xt.Ok 0 (xs.take (i + 1))) (Xt.Ok.append_left (B := xs.drop (i + 1)) (by rw [List.take_append_drop]; exact h))))))))))))
    · skip
      refine WP.sk (.blk (.thn ?_))
      refine WP.region ?_
      refine WL.op (mv (ot rfl)) (by decide) ?_
      refine WL.op (add (ot rfl) (oc _) (by omega)) (by decide) ?_
      refine WL.op (asg (ot rfl)) (by decide) ?_
      exact WL.nl (.again (i + 1) ⟨hc1, by simpa using hc⟩ (by omega) (Sub.of (Sub.cons rfl (imp_eq (congrArg I (by omega))) (Sub.cons rfl (imp _) Sub.nil))))
  · skip
    have hc1 : ¬ i < xs.length := by simpa using hc
    refine WP.xt (.xthn (.xthn (.xin (.thn ?_))))
    refine WP.seq ?_
    refine WP.region ?_
    refine WL.op (asg (oc _)) (by decide) ?_
    refine WL.nl (.thn ?_)
    exact WP.rt (.r1 rfl rfl (imp_eq (congrArg (fun b => val (.bool b)) (Eq.symm (decide_eq_true (by have := hi.2; rwa [List.take_of_length_le (by omega)] at this))))))

theorem sum_step {xs : List X} {i : Nat} (hi : i < xs.length) (ho : Xt.Ok 0 xs) : sumN (xs.take i) + (xs.getD ((i : Nat) : Int).toNat default).n = sumN (xs.take (i + 1)) ∧ 0 ≤ sumN (xs.take i) ∧ sumN (xs.take i) ≤ 70000 ∧ 0 ≤ (xs.getD ((i : Nat) : Int).toNat default).n ∧ (xs.getD ((i : Nat) : Int).toNat default).n ≤ 65536 := by
  have e : ((i : Nat) : Int).toNat = i := by omega
  rw [e, List.getD_eq_getElem?_getD, List.getElem?_eq_getElem hi]
  have h1 : Xt.Ok 0 (xs.take i) := Xt.Ok.append_left (B := xs.drop i) (by rw [List.take_append_drop]; exact ho)
  have h2 := h1.bd (Int.le_refl 0)
  have h3 := sumN_nn h2.1
  have h4 := ho.starts xs[i] (List.getElem_mem hi)
  refine ⟨?_, h3, h2.2.2, ?_, ?_⟩
  · rw [List.take_add_one, List.getElem?_eq_getElem hi]
    show sumN (xs.take i) + xs[i].n = sumN (xs.take i ++ [xs[i]])
    rw [sumN_append]; simp [sumN]
  · show 0 ≤ xs[i].n
    omega
  · show xs[i].n ≤ 65536
    omega

theorem c_r32_Blocks (xs : List X) (hl : xs.length ≤ 100000) (ho : Xt.Ok 0 xs) : PureC Tryz.prog 79 [sl 3 FX xs] (I (sumN xs)) := by
  refine PureC.of_wp Tryz.func79 (by kernel_rfl) rfl Tryz.ntmps79 (le_ rfl) (fun w0 M0 => ?_)
  refine WP.seq ?_
  refine WP.region ?_
  refine WL.op (asg (oc _)) (by decide) ?_
  refine WL.nl (.thn ?_)
  refine WP.seq ?_
  refine WP.seq ?_
  refine WP.region ?_
  refine WL.op (mv (ot rfl)) (by decide) ?_
  refine WL.op (OpG.weak (R' := val (.bool true)) (call (c_r32_Valid xs hl) (.c (ot rfl) .n)) (imp_eq (congrArg (fun b => val (.bool b)) (decide_eq_true ho)))) (by decide) ?_
  refine WL.op (not_ (ot rfl)) (by decide) ?_
  refine WL.nl (.thn ?_)
  refine WP.condF rfl ?_
  refine WP.sk (.thn ?_)
  refine WP.seq ?_
  refine WP.region ?_
  refine WL.op (asg (oc _)) (by decide) ?_
  refine WL.nl (.thn ?_)
  refine WP.seq ?_
  refine WP.seq ?_
  refine WP.region ?_
  refine WL.op (asg (oc _)) (by decide) ?_
  refine WL.nl (.thn ?_)
  refine WP.block ?_
  refine WP.loop (fun y : Nat => []) (fun y => [(4, I (y : Int)), (3, I (sumN (xs.take y))), (0, sl 3 FX xs)]) (fun y => y ≤ xs.length) (fun y => xs.length - y) 0 (Nat.zero_le _) (Sub.of (Sub.cons rfl (imp_eq rfl) (Sub.cons rfl (imp _) (Sub.cons rfl (imp _) Sub.nil)))) (fun i hi => ?_)
  replace hi : i ≤ xs.length := hi
  show WP _ _ _ _ [] [(4, I (i : Int)), (3, I (sumN (xs.take i))), (0, sl 3 FX xs)] _ _
  refine WP.seq ?_
  refine WP.seq ?_
  refine WP.region ?_
  refine WL.op (mv (ot rfl)) (by decide) ?_
  refine WL.op (mv (ot rfl)) (by decide) ?_
  refine WL.op (len_ us_s_api_Extent (ot rfl)) (by decide) ?_
  refine WL.op (lss (ot rfl) (ot rfl)) (by decide) ?_
  refine WL.nl (.thn ?_)
  refine WP.condB (decide (i < xs.length)) rfl (by rw [Bool.eq_iff_iff]; simp) (fun hc => ?_) (fun hc => ?_)
  · skip
    have hc1 : i < xs.length := by simpa using hc
    have hs := sum_step hc1 ho
    refine WP.sk (.thn ?_)
    refine WP.seq ?_
    refine WP.block ?_
    refine WP.region ?_
    refine WL.op (mv (ot rfl)) (by decide) ?_
    refine WL.op (mv (ot rfl)) (by decide) ?_
    refine WL.op (mv (ot rfl)) (by decide) ?_
    refine WL.op (ixd el_s_api_Extent (ot rfl) (ot rfl) (by omega) (by omega)) (by decide) ?_
    refine WL.op (fa fo_Extent_1 (ot rfl)) (by decide) ?_
    refine WL.op (ld sc_int (ot rfl)) (by decide) ?_
    refine WL.op (add (ot rfl) (ot rfl) (by omega)) (by decide) ?_
    refine WL.op (asg (ot rfl)) (by decide) ?_
    refine WL.nl (.blk (.thn ?_))
    refine WP.region ?_
    refine WL.op (mv (ot rfl)) (by decide) ?_
    refine WL.op (add (ot rfl) (oc _) (by omega)) (by decide) ?_
    refine WL.op (asg (ot rfl)) (by decide) ?_
    exact WL.nl (.again (i + 1) hc1 (by omega) (Sub.of (Sub.cons rfl (imp_eq (congrArg I (by omega))) (Sub.cons rfl (imp_eq (congrArg I hs.1)) (Sub.cons rfl (imp _) Sub.nil)))))
  · skip
    have hc1 : ¬ i < xs.length := by simpa using hc
    refine WP.xt (.xthn (.xthn (.xin (.thn ?_))))
    refine WP.seq ?_
    refine WP.region ?_
    refine WL.op (mv (ot rfl)) (by decide) ?_
    refine WL.op (asg (ot rfl)) (by decide) ?_
    refine WL.nl (.thn ?_)
    exact WP.rt (.r1 rfl rfl (imp_eq (congrArg I (by rw [List.take_of_length_le (by omega)]))))

theorem find_step {xs : List X} {i : Nat} (hi : i < xs.length) (ho : Xt.Ok 0 xs) (b : Int) (hn : sem (xs.take i) b = none) :
    (0 ≤ (xs.getD ((i : Nat) : Int).toNat default).a ∧ 1 ≤ (xs.getD ((i : Nat) : Int).toNat default).n ∧ 0 ≤ (xs.getD ((i : Nat) : Int).toNat default).s ∧ (xs.getD ((i : Nat) : Int).toNat default).a + (xs.getD ((i : Nat) : Int).toNat default).n ≤ 65536 ∧ (xs.getD ((i : Nat) : Int).toNat default).s + (xs.getD ((i : Nat) : Int).toNat default).n ≤ 65536) ∧
    ((xs.getD ((i : Nat) : Int).toNat default).a ≤ b ∧ b < (xs.getD ((i : Nat) : Int).toNat default).a + (xs.getD ((i : Nat) : Int).toNat default).n → sem xs b = some ((xs.getD ((i : Nat) : Int).toNat default).s + b - (xs.getD ((i : Nat) : Int).toNat default).a)) ∧
    (¬ ((xs.getD ((i : Nat) : Int).toNat default).a ≤ b ∧ b < (xs.getD ((i : Nat) : Int).toNat default).a + (xs.getD ((i : Nat) : Int).toNat default).n) → sem (xs.take (i + 1)) b = none) := by
  have e : ((i : Nat) : Int).toNat = i := by omega
  have h4 := ho.starts xs[i] (List.getElem_mem hi)
  have e2 : xs.take i ++ (xs[i] :: xs.drop (i + 1)) = xs := by rw [← List.drop_eq_getElem_cons hi, List.take_append_drop]
  have e3 : xs.take (i + 1) = xs.take i ++ [xs[i]] := by rw [List.take_add_one, List.getElem?_eq_getElem hi]; rfl
  have e4 : xs.getD i default = xs[i] := by rw [List.getD_eq_getElem?_getD, List.getElem?_eq_getElem hi]; rfl
  rw [e, e4, e3]
  generalize xs[i] = z at *
  refine ⟨h4, fun h => ?_, fun h => ?_⟩
  · rw [← e2, sem_append, hn]
    simp only [sem, Option.none_or]
    rw [if_pos h]
  · show sem (xs.take i ++ [z]) b = none
    rw [sem_append, hn]
    simp only [sem, Option.none_or]
    rw [if_neg h]

theorem c_r32_Find (xs : List X) (b : Int) (hl : xs.length ≤ 100000) (ho : Xt.Ok 0 xs) : PureC Tryz.prog 86 [sl 3 FX xs, I b] (tup [I ((sem xs b).getD 0), val (.bool (sem xs b).isSome)]) := by
  refine PureC.of_wp Tryz.func86 (by kernel_rfl) rfl Tryz.ntmps86 (le_ rfl) (fun w0 M0 => ?_)
  refine WP.seq ?_
  refine WP.region ?_
  refine WL.op (asg (oc _)) (by decide) ?_
  refine WL.op (asg (oc _)) (by decide) ?_
  refine WL.nl (.thn ?_)
  refine WP.seq ?_
  refine WP.seq ?_
  refine WP.region ?_
  refine WL.op (mv (ot rfl)) (by decide) ?_
  refine WL.op (OpG.weak (R' := val (.bool true)) (call (c_r32_Valid xs hl) (.c (ot rfl) .n)) (imp_eq (congrArg (fun b => val (.bool b)) (decide_eq_true ho)))) (by decide) ?_
  refine WL.op (not_ (ot rfl)) (by decide) ?_
  refine WL.nl (.thn ?_)
  refine WP.condF rfl ?_
  refine WP.sk (.thn ?_)
  refine WP.seq ?_
  refine WP.seq ?_
  refine WP.region ?_
  refine WL.op (asg (oc _)) (by decide) ?_
  refine WL.nl (.thn ?_)
  refine WP.block ?_
  refine WP.loop (fun y : Nat => []) (fun y => [(6, I (y : Int)), (0, sl 3 FX xs), (1, I b)]) (fun y => y ≤ xs.length ∧ sem (xs.take y) b = none) (fun y => xs.length - y) 0 ⟨Nat.zero_le _, rfl⟩ (Sub.of (Sub.cons rfl (imp_eq rfl) (Sub.cons rfl (imp _) (Sub.cons rfl (imp _) Sub.nil)))) (fun i hi => ?_)
  replace hi : i ≤ xs.length ∧ sem (xs.take i) b = none := hi
  show WP _ _ _ _ [] [(6, I (i : Int)), (0, sl 3 FX xs), (1, I b)] _ _
  refine WP.seq ?_
  refine WP.seq ?_
  refine WP.region ?_
  refine WL.op (mv (ot rfl)) (by decide) ?_
  refine WL.op (mv (ot rfl)) (by decide) ?_
  refine WL.op (len_ us_s_api_Extent (ot rfl)) (by decide) ?_
  refine WL.op (lss (ot rfl) (ot rfl)) (by decide) ?_
  refine WL.nl (.thn ?_)
  refine WP.condB (decide (i < xs.length)) rfl (by rw [Bool.eq_iff_iff]; simp) (fun hc => ?_) (fun hc => ?_)
  · skip
    have hc1 : i < xs.length := by simpa using hc
    have hs := find_step hc1 ho b hi.2
    refine WP.sk (.thn ?_)
    refine WP.seq ?_
    refine WP.block ?_
    refine WP.seq ?_
    refine WP.draws ?_
    refine RG.op (mv (ot rfl)) ?_
    refine RG.op (mv (ot rfl)) ?_
    refine RG.op (mv (ot rfl)) ?_
    refine RG.op (ixd el_s_api_Extent (ot rfl) (ot rfl) (by omega) (by omega)) ?_
    refine RG.op (fa fo_Extent_0 (ot rfl)) ?_
    refine RG.op (ld sc_int (ot rfl)) ?_
    refine RG.op (geq (ot rfl) (ot rfl)) ?_
    refine RG.op (mv (ot rfl)) ?_
    refine RG.gd rfl rfl (Tells.v _ _) (fun hg => mv (ot rfl)) ?_
    refine RG.gd rfl rfl (Tells.v _ _) (fun hg => mv (ot rfl)) ?_
    refine RG.gd rfl rfl (Tells.v _ _) (fun hg => mv (ot rfl)) ?_
    refine RG.gd rfl rfl (Tells.v _ _) (fun hg => ixd el_s_api_Extent (og rfl hg) (og rfl hg) (by omega) (by omega)) ?_
    refine RG.gd rfl rfl (Tells.v _ _) (fun hg => fa fo_Extent_0 (og rfl hg)) ?_
    refine RG.gd rfl rfl (Tells.v _ _) (fun hg => ld sc_int (og rfl hg)) ?_
    refine RG.gd rfl rfl (Tells.v _ _) (fun hg => mv (ot rfl)) ?_
    refine RG.gd rfl rfl (Tells.v _ _) (fun hg => mv (ot rfl)) ?_
    refine RG.gd rfl rfl (Tells.v _ _) (fun hg => ixd el_s_api_Extent (og rfl hg) (og rfl hg) (by omega) (by omega)) ?_
    refine RG.gd rfl rfl (Tells.v _ _) (fun hg => fa fo_Extent_1 (og rfl hg)) ?_
    refine RG.gd rfl rfl (Tells.v _ _) (fun hg => ld sc_int (og rfl hg)) ?_
    refine RG.gd rfl rfl (Tells.v _ _) (fun hg => add (og rfl hg) (og rfl hg) (by omega)) ?_
    refine RG.gd rfl rfl (Tells.v _ _) (fun hg => lss (og rfl hg) (og rfl hg)) ?_
    refine RG.op (and_ (ot rfl) (ot rfl)) ?_
    refine RG.fin HM (by kernel_rfl) ?_
    show WL _ _ _ _ _ _ _ _ _
    refine WL.nl (.thn ?_)
    refine WP.cond rfl (fun hc => ?_) (fun hc => ?_)
    · skip
      have hf : (xs.getD (i : Int).toNat default).a ≤ b ∧ b < (xs.getD (i : Int).toNat default).a + (xs.getD (i : Int).toNat default).n := by simpa using hc
      refine WP.seq ?_
      refine WP.draws ?_
      refine RG.op (mv (ot rfl)) ?_
      refine RG.op (mv (ot rfl)) ?_
      refine RG.op (ixd el_s_api_Extent (ot rfl) (ot rfl) (by omega) (by omega)) ?_
      refine RG.op (fa fo_Extent_2 (ot rfl)) ?_
      refine RG.op (ld sc_int (ot rfl)) ?_
      refine RG.op (mv (ot rfl)) ?_
      refine RG.op (add (ot rfl) (ot rfl) (by omega)) ?_
      refine RG.op (mv (ot rfl)) ?_
      refine RG.op (mv (ot rfl)) ?_
      refine RG.op (ixd el_s_api_Extent (ot rfl) (ot rfl) (by omega) (by omega)) ?_
      refine RG.op (fa fo_Extent_0 (ot rfl)) ?_
      refine RG.op (ld sc_int (ot rfl)) ?_
      refine RG.op (sub (ot rfl) (ot rfl) (by omega)) ?_
      refine RG.op (asg (ot rfl)) ?_
      refine RG.op (asg (oc _)) ?_
      refine RG.fin HM (by kernel_rfl) ?_
      show WL _ _ _ _ _ _ _ _ _
      refine WL.nl (.thn ?_)
      exact WP.rt (.rblk (.rthn (.rthn (.rblk (.rthn (.rN rfl (.cons (.tm rfl) (.cons (.tm rfl) .nil)) (le_ rfl) (imp_eq (by rw [hs.2.1 hf]; rfl))))))))
    · skip
      have hf : ¬ ((xs.getD (i : Int).toNat default).a ≤ b ∧ b < (xs.getD (i : Int).toNat default).a + (xs.getD (i : Int).toNat default).n) := by simp only [Bool.and_eq_false_iff, decide_eq_false_iff_not] at hc; omega
      refine WP.sk (.blk (.thn ?_))
      refine WP.region ?_
      refine WL.op (mv (ot rfl)) (by decide) ?_
      refine WL.op (add (ot rfl) (oc _) (by omega)) (by decide) ?_
      refine WL.op (asg (ot rfl)) (by decide) ?_
      exact WL.nl (.again (i + 1) ⟨hc1, hs.2.2 hf⟩ (by omega) (Sub.of (Sub.cons rfl (imp_eq (congrArg I (by omega))) (Sub.cons rfl (imp _) (Sub.cons rfl (imp _) Sub.nil)))))
  · skip
    have hc1 : ¬ i < xs.length := by simpa using hc
    refine WP.xt (.xthn (.xthn (.xin (.thn ?_))))
    refine WP.seq ?_
    refine WP.region ?_
    refine WL.op (asg (oc _)) (by decide) ?_
    refine WL.op (asg (oc _)) (by decide) ?_
    refine WL.nl (.thn ?_)
    exact WP.rt (.rN rfl (.cons (.tm rfl) (.cons (.tm rfl) .nil)) (le_ rfl) (imp_eq (by have := hi.2; rw [List.take_of_length_le (by omega)] at this; rw [this]; rfl)))
end Go.Proofs.YtjglgfnhgehpeaaGreat

/- The functions of the specification of extents that make lists. -/
set_option linter.unusedVariables false
set_option linter.unusedSimpArgs false
set_option maxRecDepth 4000
namespace Go.Proofs.YtjglgfnhgehpeaaGreat
open Go.RowKit Go.Fw Go.Xt

theorem getD_at {xs : List X} {i : Nat} (hi : i < xs.length) : xs.getD ((i : Nat) : Int).toNat default = xs[i] := by
  rw [show ((i : Nat) : Int).toNat = i from by omega, List.getD_eq_getElem?_getD, List.getElem?_eq_getElem hi]; rfl
theorem parts_step {xs : List X} {i : Nat} (hi : i < xs.length) (fr to : Int) : Xt.parts (xs.take (i + 1)) fr to = Xt.parts (xs.take i) fr to ++ (if max (xs.getD (i : Int).toNat default).a fr < min ((xs.getD (i : Int).toNat default).a + (xs.getD (i : Int).toNat default).n) to then [cpart (xs.getD (i : Int).toNat default) fr to] else []) := by
  rw [getD_at hi, List.take_add_one, List.getElem?_eq_getElem hi]
  show List.filterMap _ (_ ++ [xs[i]]) = _
  rw [List.filterMap_append]
  congr 1
  have e : Xt.part xs[i] fr to = if max xs[i].a fr < min (xs[i].a + xs[i].n) to then some (cpart xs[i] fr to) else none := rfl
  rw [List.filterMap_cons, e]
  by_cases h : max xs[i].a fr < min (xs[i].a + xs[i].n) to
  · rw [if_pos h, if_pos h]; rfl
  · rw [if_neg h, if_neg h]; rfl
theorem ok_at {xs : List X} {i : Nat} (hi : i < xs.length) (ho : Xt.Ok 0 xs) : 0 ≤ (xs.getD (i : Int).toNat default).a ∧ 1 ≤ (xs.getD (i : Int).toNat default).n ∧ 0 ≤ (xs.getD (i : Int).toNat default).s ∧ (xs.getD (i : Int).toNat default).a + (xs.getD (i : Int).toNat default).n ≤ 65536 ∧ (xs.getD (i : Int).toNat default).s + (xs.getD (i : Int).toNat default).n ≤ 65536 := by
  rw [getD_at hi]
  exact ho.starts xs[i] (List.getElem_mem hi)
theorem parts_len (xs : List X) (fr to : Int) : (Xt.parts xs fr to).length ≤ xs.length := List.length_filterMap_le _ _
theorem take_len_parts (xs : List X) (i : Nat) (fr to : Int) : (Xt.parts (xs.take i) fr to).length ≤ i := Nat.le_trans (parts_len _ _ _) (List.length_take_le _ _)

theorem c_r32_parts (xs : List X) (fr to : Int) (hl : xs.length ≤ 100000) (ho : Xt.Ok 0 xs) (hfr : 0 ≤ fr ∧ fr ≤ 100000000) (hto : 0 ≤ to ∧ to ≤ 100000000) : NewC Tryz.prog 123 [sl 3 FX xs, I fr, I to] 65 3 (Xt.parts xs fr to).length ((Xt.parts xs fr to).flatMap FX) := by
  refine NewC.of_wp Tryz.func123 (by kernel_rfl) rfl Tryz.ntmps123 (le_ rfl) (fun w0 M0 => ?_)
  refine WP.nilrow 65 3 ?_
  refine WP.seq ?_
  refine WP.region ?_
  refine WL.op (asg (oc _)) (by decide) ?_
  refine WL.nl (.thn ?_)
  refine WP.seq ?_
  refine WP.region ?_
  refine WL.op (asg (oc _)) (by decide) ?_
  refine WL.nl (.thn ?_)
  refine WP.seq ?_
  refine WP.seq ?_
  refine WP.region ?_
  refine WL.op (asg (oc _)) (by decide) ?_
  refine WL.nl (.thn ?_)
  refine WP.block ?_
  refine WP.loop (fun y : Nat × Value => [.r y.2 65 3 (Xt.parts (xs.take y.1) fr to).length ((Xt.parts (xs.take y.1) fr to).flatMap FX)]) (fun y => [(8, I (y.1 : Int)), (7, val y.2), (0, sl 3 FX xs), (1, I fr), (2, I to)]) (fun y => y.1 ≤ xs.length ∧ y.2.oneCell' = true) (fun y => xs.length - y.1) (0, nilS) ⟨Nat.zero_le _, rfl⟩ (Sub.ofD 0 rfl (Sub.cons rfl (imp_eq rfl) (Sub.cons rfl (imp _) (Sub.cons rfl (imp _) (Sub.cons rfl (imp _) (Sub.cons rfl (imp _) Sub.nil)))))) (fun y hi => ?_)
  obtain ⟨i, v⟩ := y
  replace hi : i ≤ xs.length ∧ v.oneCell' = true := hi
  show WP _ _ _ _ [.r v 65 3 (Xt.parts (xs.take i) fr to).length ((Xt.parts (xs.take i) fr to).flatMap FX)] [(8, I (i : Int)), (7, val v), (0, sl 3 FX xs), (1, I fr), (2, I to)] _ _
  refine WP.seq ?_
  refine WP.seq ?_
  refine WP.region ?_
  refine WL.op (mv (ot rfl)) (by decide) ?_
  refine WL.op (mv (ot rfl)) (by decide) ?_
  refine WL.op (len_ us_s_api_Extent (ot rfl)) (by decide) ?_
  refine WL.op (lss (ot rfl) (ot rfl)) (by decide) ?_
  refine WL.nl (.thn ?_)
  refine WP.cond rfl (fun hc => ?_) (fun hc => ?_)
  · skip
    have hc1 : i < xs.length := by have := of_decide_eq_true hc; omega
    have hx := ok_at hc1 ho
    have htl := take_len_parts xs i fr to
    refine WP.sk (.thn ?_)
    refine WP.seq ?_
    refine WP.block ?_
    refine WP.seq ?_
    refine WP.region ?_
    refine WL.op (mv (ot rfl)) (by decide) ?_
    refine WL.op (mv (ot rfl)) (by decide) ?_
    refine WL.op (ixd el_s_api_Extent (ot rfl) (ot rfl) (by omega) (by omega)) (by decide) ?_
    refine WL.op (ls ag_Extent (ot rfl) (le_ rfl)) (by decide) ?_
    refine WL.op (mv (ot rfl)) (by decide) ?_
    refine WL.op (mv (ot rfl)) (by decide) ?_
    refine WL.op (call (c_r32_part (xs.getD (i : Int).toNat default) fr to (by omega) hfr hto) (.c (ot rfl) (.c (ot rfl) (.c (ot rfl) .n)))) (by decide) ?_
    refine WL.op (mv (ot rfl)) (by decide) ?_
    refine WL.op (ex (ot rfl) rfl) (by decide) ?_
    refine WL.op (ex (ot rfl) rfl) (by decide) ?_
    refine WL.alloc zr_Extent rfl (by decide) fun b9 => ?_
    refine WL.store 0 rfl (ot rfl) (ot rfl) (.agg _) sz_Extent rfl (le_ rfl) ?_
    refine WL.op (asg (ot rfl)) (by decide) ?_
    refine WL.nl (.thn ?_)
    refine WP.seq ?_
    refine WP.region ?_
    refine WL.op (mv (ot rfl)) (by decide) ?_
    refine WL.nl (.thn ?_)
    refine WP.cond rfl (fun hc => ?_) (fun hc => ?_)
    · skip
      have hp := of_decide_eq_true hc
      refine WP.region ?_
      refine WL.op (mv (ot rfl)) (by decide) ?_
      refine WL.op (lbs 0 rfl ag_Extent (ot rfl) (le_ rfl)) (by decide) ?_
      refine WL.op (bsl1 (f := FX) (el := cpart (xs.getD (i : Int).toNat default) fr to) ei_s_api_Extent (ot rfl) (.agg _) rfl (by decide) (by decide)) (by decide) ?_
      refine WL.app 1 rfl ei_s_api_Extent (by decide) (ot rfl) (ot rfl) (by simp) (fun _ => rfl) (by simp only [List.length_singleton]; omega) (by simp only [List.length_singleton]; omega) (by decide) fun v31 h31 => ?_
      refine WL.op (asg (ot rfl)) (by decide) ?_
      refine WL.nl (.blk (.thn ?_))
      refine WP.region ?_
      refine WL.op (mv (ot rfl)) (by decide) ?_
      refine WL.op (add (ot rfl) (oc _) (by omega)) (by decide) ?_
      refine WL.op (asg (ot rfl)) (by decide) ?_
      exact WL.nl (.again (i + 1, v31) ⟨hc1, h31⟩ (by show xs.length - (i + 1) < xs.length - i; omega) (Sub.ofD 1 (by rw [parts_step hc1, if_pos hp]; simp) (Sub.cons rfl (imp_eq (congrArg I (by omega))) (Sub.cons rfl (imp _) (Sub.cons rfl (imp _) (Sub.cons rfl (imp _) (Sub.cons rfl (imp _) Sub.nil)))))))
    · skip
      have hp := of_decide_eq_false hc
      refine WP.sk (.blk (.thn ?_))
      refine WP.region ?_
      refine WL.op (mv (ot rfl)) (by decide) ?_
      refine WL.op (add (ot rfl) (oc _) (by omega)) (by decide) ?_
      refine WL.op (asg (ot rfl)) (by decide) ?_
      exact WL.nl (.again (i + 1, v) ⟨hc1, hi.2⟩ (by show xs.length - (i + 1) < xs.length - i; omega) (Sub.ofD 1 (by rw [parts_step hc1, if_neg hp]; simp) (Sub.cons rfl (imp_eq (congrArg I (by omega))) (Sub.cons rfl (imp _) (Sub.cons rfl (imp _) (Sub.cons rfl (imp _) (Sub.cons rfl (imp _) Sub.nil)))))))
  · skip
    have hc1 : ¬ i < xs.length := by have := of_decide_eq_false hc; omega
    refine WP.xt (.xthn (.xthn (.xin (.thn ?_))))
    refine WP.seq ?_
    refine WP.region ?_
    refine WL.op (mv (ot rfl)) (by decide) ?_
    refine WL.op (asg (ot rfl)) (by decide) ?_
    refine WL.nl (.thn ?_)
    exact WP.rt (.new rfl rfl hi.2 0 (by rw [List.take_of_length_le (by omega)]; rfl))

theorem jn_len (xs : List X) : (Jn xs).length ≤ xs.length := by
  have hp : ∀ (L : List X) (x : X), (push L x).length ≤ L.length + 1 := fun L x => by
    unfold push
    split
    · split <;> simp
    · simp
  have : ∀ (L acc : List X), (L.foldl push acc).length ≤ acc.length + L.length := by
    intro L
    induction L with
    | nil => intro acc; simp
    | cons x L ih => intro acc; have := ih (push acc x); have := hp acc x; simp only [List.foldl_cons, List.length_cons]; omega
  have := this xs []
  simpa [Jn] using this
theorem jn_step {xs : List X} {i : Nat} (hi : i < xs.length) : Jn (xs.take (i + 1)) = push (Jn (xs.take i)) (xs.getD (i : Int).toNat default) := by
  rw [getD_at hi, List.take_add_one, List.getElem?_eq_getElem hi]
  show List.foldl _ _ (_ ++ [xs[i]]) = _
  rw [List.foldl_append]; rfl
abbrev lastX (L : List X) : X := L.getD ((L.length : Int) - 1).toNat default
theorem last_eq {L : List X} (h : 0 < L.length) : lastX L = L[L.length - 1] ∧ ((L.length : Int) - 1).toNat = L.length - 1 := by
  have e : ((L.length : Int) - 1).toNat = L.length - 1 := by omega
  refine ⟨?_, e⟩
  unfold lastX
  rw [e, List.getD_eq_getElem?_getD, List.getElem?_eq_getElem (by omega)]; rfl
theorem last_ok {L : List X} (h : Xt.Ok 0 L) (hm : 0 < L.length) : 0 ≤ (lastX L).a ∧ 1 ≤ (lastX L).n ∧ 0 ≤ (lastX L).s ∧ (lastX L).a + (lastX L).n ≤ 65536 ∧ (lastX L).s + (lastX L).n ≤ 65536 := by
  rw [(last_eq hm).1]
  exact h.starts _ (List.getElem_mem _)
theorem push_fol {L : List X} {x : X} (h : 0 < L.length) (hf : Fol (lastX L) x) : push L x = L.set (((L.length : Int) - 1).toNat) ⟨(lastX L).a, (lastX L).n + x.n, (lastX L).s⟩ := by
  rw [(last_eq h).2]
  rw [(last_eq h).1] at hf ⊢
  rcases List.eq_nil_or_concat L with rfl | ⟨A, y, h0⟩
  · simp at h
  · rw [List.concat_eq_append] at h0
    subst h0
    have e : (A ++ [y])[(A ++ [y]).length - 1] = y := by simp
    rw [e] at hf ⊢
    rw [push_snoc, if_pos hf]
    simp
theorem push_not {L : List X} {x : X} (hf : 0 < L.length → ¬ Fol (lastX L) x) : push L x = L ++ [x] := by
  rcases List.eq_nil_or_concat L with rfl | ⟨A, y, h0⟩
  · rfl
  · rw [List.concat_eq_append] at h0
    subst h0
    have h := hf (by simp)
    rw [(last_eq (by simp)).1] at h
    have e : (A ++ [y])[(A ++ [y]).length - 1]'(by simp) = y := by simp
    rw [e] at h
    rw [push_snoc, if_neg h]
theorem fol_test (L : List X) (x : X) : (decide (0 ≤ (L.length : Int) - 1) && decide (x.a = (lastX L).a + (lastX L).n) && decide (x.s = (lastX L).s + (lastX L).n)) = decide (0 < L.length ∧ Fol (lastX L) x) := by
  refine Bool.eq_iff_iff.2 ?_
  rw [Bool.and_eq_true, Bool.and_eq_true, decide_eq_true_iff, decide_eq_true_iff, decide_eq_true_iff, decide_eq_true_iff]
  unfold Fol
  exact ⟨fun ⟨⟨h1, h2⟩, h3⟩ => ⟨by omega, h2.symm, h3.symm⟩, fun ⟨h1, h2, h3⟩ => ⟨⟨by omega, h2.symm⟩, h3.symm⟩⟩
theorem flat_get {L : List X} {k j : Nat} (hk : k < L.length) (hj : j < 3) : (L.flatMap FX)[k * 3 + j]? = (FX (L.getD k default))[j]? := by
  have h := flat_at (sz := 3) (f := FX) (fun _ => rfl) L k L[k] (List.getElem?_eq_getElem hk)
  have h2 : (FX L[k])[j]? = (((L.flatMap FX).drop (k * 3)).take 3)[j]? := by rw [h]
  rw [List.getElem?_take, if_pos hj, List.getElem?_drop] at h2
  rw [List.getD_eq_getElem?_getD, List.getElem?_eq_getElem hk]
  exact h2.symm
theorem flat_set {L : List X} {q : Int} : ∀ {k : Nat}, k < L.length → setAt (L.flatMap FX) (k * 3 + 1) [I q] = (L.set k ⟨(L.getD k default).a, q, (L.getD k default).s⟩).flatMap FX := by
  induction L with
  | nil => intro k hk; simp at hk
  | cons x L ih =>
    intro k hk
    cases k with
    | zero => rfl
    | succ k =>
      have := ih (k := k) (by simpa using hk)
      unfold setAt at *
      rw [List.flatMap_cons, List.set_cons_succ, List.flatMap_cons, List.getD_cons_succ, ← this]
      have e : ∀ m, (FX x ++ L.flatMap FX).take (3 + m) = FX x ++ (L.flatMap FX).take m := fun m => by rw [List.take_append, List.take_of_length_le (by show 3 ≤ 3 + m; omega)]; congr 1; congr 1; show 3 + m - 3 = m; omega
      have e2 : ∀ m, (FX x ++ L.flatMap FX).drop (3 + m) = (L.flatMap FX).drop m := fun m => by rw [List.drop_append, List.drop_of_length_le (by show 3 ≤ 3 + m; omega)]; rw [List.nil_append]; congr 1; show 3 + m - 3 = m; omega
      rw [show (k + 1) * 3 + 1 = 3 + (k * 3 + 1) from by omega, e, Nat.add_assoc, e2, List.append_assoc, List.append_assoc, List.append_assoc]

theorem c_r32_Join (xs : List X) (hl : xs.length ≤ 100000) (ho : Xt.Ok 0 xs) : PureC Tryz.prog 122 [sl 3 FX xs] (tup [sl 3 FX (Jn xs), I 0]) := by
  refine PureC.of_wp Tryz.func122 (by kernel_rfl) rfl Tryz.ntmps122 (le_ rfl) (fun w0 M0 => ?_)
  refine WP.nilrow 65 3 ?_
  refine WP.seq  ?_
  refine WP.region ?_
  refine WL.op (asg (oc _)) (by decide) ?_
  refine WL.op (asg (oc _)) (by decide) ?_
  refine WL.nl (.thn ?_)
  refine WP.seq ?_
  refine WP.seq ?_
  refine WP.region ?_
  refine WL.op (mv (ot rfl)) (by decide) ?_
  refine WL.op (OpG.weak (R' := val (.bool true)) (call (c_r32_Valid xs hl) (.c (ot rfl) .n)) (imp_eq (congrArg (fun b => val (.bool b)) (decide_eq_true ho)))) (by decide) ?_
  refine WL.op (not_ (ot rfl)) (by decide) ?_
  refine WL.nl (.thn ?_)
  refine WP.condF rfl ?_
  refine WP.sk (.thn ?_)
  refine WP.seq ?_
  refine WP.region ?_
  refine WL.op (asg (oc _)) (by decide) ?_
  refine WL.nl (.thn ?_)
  refine WP.seq ?_
  refine WP.seq ?_
  refine WP.region ?_
  refine WL.op (asg (oc _)) (by decide) ?_
  refine WL.nl (.thn ?_)
  refine WP.block ?_
  refine WP.loop (fun y : Nat × Value => [.r y.2 65 3 (Jn (xs.take y.1)).length ((Jn (xs.take y.1)).flatMap FX)]) (fun y => [(5, I (y.1 : Int)), (4, val y.2), (0, sl 3 FX xs)]) (fun y => y.1 ≤ xs.length ∧ y.2.oneCell' = true) (fun y => xs.length - y.1) (0, nilS) ⟨Nat.zero_le _, rfl⟩ (Sub.ofD 0 rfl (Sub.cons rfl (imp_eq rfl) (Sub.cons rfl (imp _) (Sub.cons rfl (imp _) Sub.nil)))) (fun y hi => ?_)
  obtain ⟨i, v⟩ := y
  replace hi : i ≤ xs.length ∧ v.oneCell' = true := hi
  show WP _ _ _ _ [.r v 65 3 (Jn (xs.take i)).length ((Jn (xs.take i)).flatMap FX)] [(5, I (i : Int)), (4, val v), (0, sl 3 FX xs)] _ _
  obtain ⟨L, hL⟩ : ∃ L, L = Jn (xs.take i) := ⟨_, rfl⟩
  rw [← hL]
  have hLl : L.length ≤ i := by rw [hL]; exact Nat.le_trans (jn_len _) (List.length_take_le _ _)
  refine WP.seq ?_
  refine WP.seq ?_
  refine WP.region ?_
  refine WL.op (mv (ot rfl)) (by decide) ?_
  refine WL.op (mv (ot rfl)) (by decide) ?_
  refine WL.op (len_  us_s_api_Extent (ot rfl)) (by decide) ?_
  refine WL.op (lss (ot rfl) (ot rfl)) (by decide) ?_
  refine WL.nl (.thn ?_)
  refine WP.cond rfl (fun hc => ?_) (fun hc => ?_)
  · skip
    have hc1 : i < xs.length := by have := of_decide_eq_true hc; omega
    have hx := ok_at hc1 ho
    have hlast := last_ok (L := L) (by rw [hL]; exact (jn_spec (Xt.Ok.append_left (B := xs.drop i) (by rw [List.take_append_drop]; exact ho))).1)
    unfold lastX at hlast
    refine WP.sk (.thn ?_)
    refine WP.seq ?_
    refine WP.block ?_
    refine WP.seq ?_
    refine WP.region ?_
    refine WL.op (mv (ot rfl)) (by decide) ?_
    refine WL.op (lenr 0 rfl us_s_api_Extent (ot rfl)) (by decide) ?_
    refine WL.op (sub (ot rfl) (oc _) (by omega)) (by decide) ?_
    refine WL.op (asg (ot rfl)) (by decide) ?_
    refine WL.nl (.thn ?_)
    refine WP.seq ?_
    refine WP.rowAt' 0 rfl fun g cap hv => ?_
    refine WP.draws  ?_
    refine RG.op (mv (ot rfl)) ?_
    refine RG.op (geq (ot rfl) (oc _)) ?_
    refine RG.op (mv (ot rfl)) ?_
    refine RG.gd rfl rfl (Tells.v _ _) (fun hg => mv (ot rfl)) ?_
    refine RG.gd rfl rfl (Tells.v _ _) (fun hg => mv (ot rfl)) ?_
    refine RG.gd rfl rfl (Tells.v _ _) (fun hg => ixd el_s_api_Extent (og rfl hg) (og rfl hg) (by omega) (by omega)) ?_
    refine RG.gd rfl rfl (Tells.v _ _) (fun hg => fa fo_Extent_0 (og rfl hg)) ?_
    refine RG.gd rfl rfl (Tells.v _ _) (fun hg => ld sc_int (og rfl hg)) ?_
    refine RG.gd rfl rfl (Tells.v _ _) (fun hg => mv (ot rfl)) ?_
    refine RG.gd rfl rfl (Tells.v _ _) (fun hg => mv (ot rfl)) ?_
    refine RG.gd rfl rfl (Tells.v _ _) (fun hg => ixr' (hv (by simp at hg; omega)) el_s_api_Extent (og rfl hg) (og rfl hg) (by simp at hg; omega) (by omega)) ?_
    refine RG.gd rfl rfl (Tells.v _ _) (fun hg => fv fo_Extent_0 (og rfl hg)) ?_
    refine RG.gd rfl rfl (Tells.v _ _) (fun hg => lr' 0 (hv (by simp at hg; omega)) rfl sc_int (og rfl hg) (flat_get (j := 0) (by simp at hg; omega) (by decide))) ?_
    refine RG.gd rfl rfl (Tells.v _ _) (fun hg => mv (ot rfl)) ?_
    refine RG.gd rfl rfl (Tells.v _ _) (fun hg => mv (ot rfl)) ?_
    refine RG.gd rfl rfl (Tells.v _ _) (fun hg => ixr' (hv (by simp at hg; omega)) el_s_api_Extent (og rfl hg) (og rfl hg) (by simp at hg; omega) (by omega)) ?_
    refine RG.gd rfl rfl (Tells.v _ _) (fun hg => fv fo_Extent_1 (og rfl hg)) ?_
    refine RG.gd rfl rfl (Tells.v _ _) (fun hg => lr' 0 (hv (by simp at hg; omega)) rfl sc_int (og rfl hg) (flat_get (j := 1) (by simp at hg; omega) (by decide))) ?_
    refine RG.gd rfl rfl (Tells.v _ _) (fun hg => have hz := hlast (by simp at hg; omega); add (og rfl hg) (og rfl hg) (by omega)) ?_
    refine RG.gd rfl rfl (Tells.v _ _) (fun hg => eql (og rfl hg) (og rfl hg)) ?_
    refine RG.op (and_ (ot rfl) (ot rfl)) ?_
    refine RG.op (mv (ot rfl)) ?_
    refine RG.gd rfl rfl (Tells.v _ _) (fun hg => mv (ot rfl)) ?_
    refine RG.gd rfl rfl (Tells.v _ _) (fun hg => mv (ot rfl)) ?_
    refine RG.gd rfl rfl (Tells.v _ _) (fun hg => ixd el_s_api_Extent (og rfl hg) (og rfl hg) (by omega) (by omega)) ?_
    refine RG.gd rfl rfl (Tells.v _ _) (fun hg => fa fo_Extent_2 (og rfl hg)) ?_
    refine RG.gd rfl rfl (Tells.v _ _) (fun hg => ld sc_int (og rfl hg)) ?_
    refine RG.gd rfl rfl (Tells.v _ _) (fun hg => mv (ot rfl)) ?_
    refine RG.gd rfl rfl (Tells.v _ _) (fun hg => mv (ot rfl)) ?_
    refine RG.gd rfl rfl (Tells.v _ _) (fun hg => ixr' (hv (by simp at hg; omega)) el_s_api_Extent (og rfl hg) (og rfl hg) (by simp at hg; omega) (by omega)) ?_
    refine RG.gd rfl rfl (Tells.v _ _) (fun hg => fv fo_Extent_2 (og rfl hg)) ?_
    refine RG.gd rfl rfl (Tells.v _ _) (fun hg => lr' 0 (hv (by simp at hg; omega)) rfl sc_int (og rfl hg) (flat_get (j := 2) (by simp at hg; omega) (by decide))) ?_
    refine RG.gd rfl rfl (Tells.v _ _) (fun hg => mv (ot rfl)) ?_
    refine RG.gd rfl rfl (Tells.v _ _) (fun hg => mv (ot rfl)) ?_
    refine RG.gd rfl rfl (Tells.v _ _) (fun hg => ixr' (hv (by simp at hg; omega)) el_s_api_Extent (og rfl hg) (og rfl hg) (by simp at hg; omega) (by omega)) ?_
    refine RG.gd rfl rfl (Tells.v _ _) (fun hg => fv fo_Extent_1 (og rfl hg)) ?_
    refine RG.gd rfl rfl (Tells.v _ _) (fun hg => lr' 0 (hv (by simp at hg; omega)) rfl sc_int (og rfl hg) (flat_get (j := 1) (by simp at hg; omega) (by decide))) ?_
    refine RG.gd rfl rfl (Tells.v _ _) (fun hg => have hz := hlast (by simp at hg; omega); add (og rfl hg) (og rfl hg) (by omega)) ?_
    refine RG.gd rfl rfl (Tells.v _ _) (fun hg => eql (og rfl hg) (og rfl hg)) ?_
    refine RG.op (and_ (ot rfl) (ot rfl)) ?_
    refine RG.fin HM (by kernel_rfl) ?_
    show WL _ _ _ _ _ _ _ _ _
    refine WL.nl (.thn ?_)
    refine WP.condB (decide (0 < L.length ∧ Fol (lastX L) (xs.getD (i : Int).toNat default))) rfl (fol_test _ _) (fun hc => ?_) (fun hc => ?_)
    · skip
      have hp0 := of_decide_eq_true hc
      have hm := hp0.1
      have hz := hlast hm
      have hp := hp0.2
      refine WP.draws ?_
      refine RG.op (mv (ot rfl)) ?_
      refine RG.op (mv (ot rfl)) ?_
      refine RG.op (ixr' (hv hm) el_s_api_Extent (ot rfl) (ot rfl) (by omega) (by omega)) ?_
      refine RG.op (fv fo_Extent_1 (ot rfl)) ?_
      refine RG.op (lr' 0 (hv hm) rfl sc_int (ot rfl) (flat_get (j := 1) (by omega) (by decide))) ?_
      refine RG.op (mv (ot rfl)) ?_
      refine RG.op (mv (ot rfl)) ?_
      refine RG.op (ixd el_s_api_Extent (ot rfl) (ot rfl) (by omega) (by omega)) ?_
      refine RG.op (fa fo_Extent_1 (ot rfl)) ?_
      refine RG.op (ld sc_int (ot rfl)) ?_
      refine RG.op (add (ot rfl) (ot rfl) (by omega)) ?_
      refine RG.op (ixr' (hv hm) el_s_api_Extent (ot rfl) (ot rfl) (by omega) (by omega)) ?_
      refine RG.op (fv fo_Extent_1 (ot rfl)) ?_
      refine RG.fin HM (by kernel_rfl) ?_
      show WL _ _ _ _ _ _ _ _ _
      refine WL.storeR' 0 (hv hm) rfl (ot rfl) (ot rfl) (.leaf (.val rfl)) sz_int rfl (by rw [flat_len (sz := 3) (f := FX) (fun _ => rfl)]; omega) ?_
      refine WL.nl (.blk (.thn ?_))
      refine WP.region ?_
      refine WL.op (mv (ot rfl)) (by decide) ?_
      refine WL.op (add (ot rfl) (oc _) (by omega)) (by decide) ?_
      refine WL.op (asg (ot rfl)) (by decide) ?_
      exact WL.nl (.again (i + 1, v) ⟨hc1, hi.2⟩ (by show xs.length - (i + 1) < xs.length - i; omega) (Sub.ofD 0 (Eq.trans (b := [.r v 65 3 L.length (setAt (L.flatMap FX) (((L.length : Int) - 1).toNat * 3 + 1) [I ((lastX L).n + (xs.getD (i : Int).toNat default).n)])]) rfl (by rw [jn_step hc1, ← hL, push_fol hm hp, flat_set (by omega), List.length_set])) (Sub.cons rfl (imp_eq (congrArg I (by omega))) (Sub.cons rfl (imp _) (Sub.cons rfl (imp _) Sub.nil)))))
    · skip
      have hp : 0 < L.length → ¬ Fol (lastX L) (xs.getD (i : Int).toNat default) := fun hm hf => of_decide_eq_false hc ⟨hm, hf⟩
      refine WP.region ?_
      refine WL.op (mv (ot rfl)) (by decide) ?_
      refine WL.op (mv (ot rfl)) (by decide) ?_
      refine WL.op (mv (ot rfl)) (by decide) ?_
      refine WL.op (ixd el_s_api_Extent (ot rfl) (ot rfl) (by omega) (by omega)) (by decide) ?_
      refine WL.op (ls ag_Extent (ot rfl) (le_ rfl)) (by decide) ?_
      refine WL.op (bsl1 (f := FX) (el := xs.getD (i : Int).toNat default) ei_s_api_Extent (ot rfl) (.agg _) rfl (by decide) (by decide)) (by decide) ?_
      refine WL.app 0 rfl ei_s_api_Extent (by decide) (ot rfl) (ot rfl) (by simp) (fun _ => rfl) (by simp only [List.length_singleton]; omega) (by simp only [List.length_singleton]; omega) (by decide) fun v78 h78 => ?_
      refine WL.op (asg (ot rfl)) (by decide) ?_
      refine WL.nl (.blk (.thn ?_))
      refine WP.region ?_
      refine WL.op (mv (ot rfl)) (by decide) ?_
      refine WL.op (add (ot rfl) (oc _) (by omega)) (by decide) ?_
      refine WL.op (asg (ot rfl)) (by decide) ?_
      exact WL.nl (.again (i + 1, v78) ⟨hc1, h78⟩ (by show xs.length - (i + 1) < xs.length - i; omega) (Sub.ofD 0 (Eq.trans (b := [.r v78 65 3 (L.length + 1) (L.flatMap FX ++ [xs.getD (i : Int).toNat default].flatMap FX)]) rfl (by rw [jn_step hc1, ← hL, push_not hp, List.flatMap_append, List.length_append]; rfl)) (Sub.cons rfl (imp_eq (congrArg I (by omega))) (Sub.cons rfl (imp _) (Sub.cons rfl (imp _) Sub.nil)))))
  · skip
    have hc1 : ¬ i < xs.length := by have := of_decide_eq_false hc; omega
    refine WP.xt (.xthn (.xthn (.xin (.thn ?_))))
    refine WP.seq ?_
    refine WP.region ?_
    refine WL.op (mv (ot rfl)) (by decide) ?_
    refine WL.op (asg (ot rfl)) (by decide) ?_
    refine WL.op (asg (oc _)) (by decide) ?_
    refine WL.nl (.thn ?_)
    refine WP.freeze 0 2 FX L rfl (fun _ => rfl) rfl rfl rfl ?_
    have hL2 : L = Jn xs := by rw [hL, List.take_of_length_le (by omega)]
    exact WP.rt (.rN rfl (.cons (.tm rfl) (.cons (.tm rfl) .nil)) (le_ rfl) (imp_eq (by rw [hL2])))
end Go.Proofs.YtjglgfnhgehpeaaGreat

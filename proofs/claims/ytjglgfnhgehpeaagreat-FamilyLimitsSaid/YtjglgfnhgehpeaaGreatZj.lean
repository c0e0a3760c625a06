/- Parts: Ext. -/
import Derived.Test.YtjglgfnhgehpeaaGreatZi
import Derived.Test.YtjglgfnhgehpeaaGreatZh
/- The small functions of extents: what they compute. -/
set_option linter.unusedVariables false
set_option linter.unusedSimpArgs false
set_option maxRecDepth 4000
namespace Go.Proofs.YtjglgfnhgehpeaaGreat
open Go.RowKit Go.Fw Go.Xt

/-- a part of a space of some size -/
def Wi (a n s : Int) : Prop := 0 ≤ a ∧ 0 ≤ n ∧ a ≤ s ∧ n ≤ s - a
instance (a n s : Int) : Decidable (Wi a n s) := by unfold Wi; infer_instance
def Pr (x : X) : Prop := 1 ≤ x.n ∧ Wi x.a x.n 65536 ∧ Wi x.s x.n 65536
instance (x : X) : Decidable (Pr x) := by unfold Pr; infer_instance
theorem Ok.snoc : ∀ {A : List X} {lo : Int} {x : X}, Xt.Ok lo (A ++ [x]) ↔ Xt.Ok lo A ∧ (match A.getLast? with | none => lo ≤ x.a | some y => y.a + y.n ≤ x.a) ∧ 1 ≤ x.n ∧ 0 ≤ x.s ∧ x.a + x.n ≤ 65536 ∧ x.s + x.n ≤ 65536
  | [], lo, x => by simp [Xt.Ok]
  | [z], lo, x => by simp [Xt.Ok]; omega
  | z :: z' :: A, lo, x => by
    have ih := Ok.snoc (A := z' :: A) (lo := z.a + z.n) (x := x)
    have e : (z :: z' :: A).getLast? = (z' :: A).getLast? := by simp [List.getLast?_cons_cons]
    rw [e]
    have h1 : Xt.Ok lo (z :: z' :: A ++ [x]) ↔ (lo ≤ z.a ∧ 1 ≤ z.n ∧ 0 ≤ z.s ∧ z.a + z.n ≤ 65536 ∧ z.s + z.n ≤ 65536 ∧ Xt.Ok (z.a + z.n) (z' :: A ++ [x])) := Iff.rfl
    have h2 : Xt.Ok lo (z :: z' :: A) ↔ (lo ≤ z.a ∧ 1 ≤ z.n ∧ 0 ≤ z.s ∧ z.a + z.n ≤ 65536 ∧ z.s + z.n ≤ 65536 ∧ Xt.Ok (z.a + z.n) (z' :: A)) := Iff.rfl
    obtain ⟨w, hw⟩ : ∃ w, (z' :: A).getLast? = some w := ⟨_, List.getLast?_eq_some_getLast (by simp)⟩
    rw [h1, h2, ih, hw]
    simp only [and_assoc]
theorem valid_step {xs : List X} {i : Nat} (hi : i < xs.length) (h : Xt.Ok 0 (xs.take i)) :
    (!decide (Pr (xs.getD ((i : Nat) : Int).toNat default)) || (decide ((0 : Int) < (i : Int)) && decide ((xs.getD ((i : Nat) : Int).toNat default).a < (xs.getD ((i : Int) - 1).toNat default).a + (xs.getD ((i : Int) - 1).toNat default).n))) = !decide (Xt.Ok 0 (xs.take (i + 1))) := by
  have e1 : ((i : Nat) : Int).toNat = i := by omega
  have e2 : ((i : Int) - 1).toNat = i - 1 := by omega
  rw [e1, e2]
  have hx : xs[i]? = some xs[i] := List.getElem?_eq_getElem hi
  have hgd : xs.getD i default = xs[i] := by rw [List.getD_eq_getElem?_getD, hx]; rfl
  rw [hgd, List.take_add_one, hx]
  show _ = !decide (Xt.Ok 0 (xs.take i ++ [xs[i]]))
  rw [Bool.eq_iff_iff]
  simp only [Bool.or_eq_true, Bool.not_eq_true', decide_eq_false_iff_not, Bool.and_eq_true, decide_eq_true_eq, Ok.snoc]
  cases i with
  | zero =>
    simp [Xt.Ok, Pr, Wi]
    omega
  | succ k =>
    have hk : k < xs.length := by omega
    have hl : (xs.take (k + 1)).getLast? = some xs[k] := by
      rw [List.take_add_one, List.getElem?_eq_getElem hk]
      show (xs.take k ++ [xs[k]]).getLast? = _
      rw [List.getLast?_append]; rfl
    have hy : Xt.Ok 0 (xs.take k ++ [xs[k]]) := by
      have := h; rw [List.take_add_one, List.getElem?_eq_getElem hk] at this; exact this
    have hgk : xs.getD (k + 1 - 1) default = xs[k] := by rw [List.getD_eq_getElem?_getD]; simp [hk]
    have hyk := (Ok.snoc.1 hy).2
    have hst := (h.starts xs[k] (by rw [List.take_add_one, List.getElem?_eq_getElem hk]; exact List.mem_append_right _ (List.mem_singleton.2 rfl)))
    rw [hl, hgk]
    simp only [h, true_and, Pr, Wi]
    constructor
    · rintro (h1 | h1) h2
      · apply h1; omega
      · omega
    · intro h1
      by_cases h2 : (1 ≤ xs[k+1].n ∧ (0 ≤ xs[k+1].a ∧ 0 ≤ xs[k+1].n ∧ xs[k+1].a ≤ 65536 ∧ xs[k+1].n ≤ 65536 - xs[k+1].a) ∧ 0 ≤ xs[k+1].s ∧ 0 ≤ xs[k+1].n ∧ xs[k+1].s ≤ 65536 ∧ xs[k+1].n ≤ 65536 - xs[k+1].s)
      · exact .inr ⟨by omega, Classical.byContradiction fun h3 => h1 ⟨by omega, by omega⟩⟩
      · exact .inl h2

theorem c_extent_within (a n s : Int) (hs : s ≤ 65536) : PureC Tryz.prog 173 [I a, I n, I s] (val (.bool (decide (Wi a n s)))) := by
  refine PureC.of_wp Tryz.func173 (by kernel_rfl) rfl Tryz.ntmps173 (le_ rfl) (fun w0 M0 => ?_)
  refine WP.seq ?_
  refine WP.region ?_
  refine WL.op (asg (oc _)) (by decide) ?_
  refine WL.nl (.thn ?_)
  refine WP.seq ?_
  refine WP.region ?_
  refine WL.op (mv (ot rfl)) (by decide) ?_
  refine WL.op (geq (ot rfl) (oc _)) (by decide) ?_
  refine WL.op (mv (ot rfl)) (by decide) ?_
  refine WL.gd rfl rfl (Tells.v _ _) (fun hg => mv (ot rfl)) (by decide) ?_
  refine WL.gd rfl rfl (Tells.v _ _) (fun hg => geq (og rfl hg) (oc _)) (by decide) ?_
  refine WL.op (and_ (ot rfl) (ot rfl)) (by decide) ?_
  refine WL.op (mv (ot rfl)) (by decide) ?_
  refine WL.gd rfl rfl (Tells.v _ _) (fun hg => mv (ot rfl)) (by decide) ?_
  refine WL.gd rfl rfl (Tells.v _ _) (fun hg => mv (ot rfl)) (by decide) ?_
  refine WL.gd rfl rfl (Tells.v _ _) (fun hg => leq (og rfl hg) (og rfl hg)) (by decide) ?_
  refine WL.op (and_ (ot rfl) (ot rfl)) (by decide) ?_
  refine WL.op (mv (ot rfl)) (by decide) ?_
  refine WL.gd rfl rfl (Tells.v _ _) (fun hg => mv (ot rfl)) (by decide) ?_
  refine WL.gd rfl rfl (Tells.v _ _) (fun hg => mv (ot rfl)) (by decide) ?_
  refine WL.gd rfl rfl (Tells.v _ _) (fun hg => mv (ot rfl)) (by decide) ?_
  refine WL.gd rfl rfl (Tells.v _ _) (fun hg => sub (og rfl hg) (og rfl hg) (by simp at hg; omega)) (by decide) ?_
  refine WL.gd rfl rfl (Tells.v _ _) (fun hg => leq (og rfl hg) (og rfl hg)) (by decide) ?_
  refine WL.op (and_ (ot rfl) (ot rfl)) (by decide) ?_
  refine WL.op (asg (ot rfl)) (by decide) ?_
  refine WL.nl (.thn ?_)
  exact WP.rt (.r1 rfl rfl (imp_eq (congrArg (fun b => val (.bool b)) (by rw [Bool.eq_iff_iff]; refine Iff.trans ?_ decide_eq_true_iff.symm; simp [Wi, and_assoc]))))
theorem c_extent_proper (x : X) : PureC Tryz.prog 145 [ext x] (val (.bool (decide (Pr x)))) := by
  refine PureC.of_wp Tryz.func145 (by kernel_rfl) rfl Tryz.ntmps145 (le_ rfl) (fun w0 M0 => ?_)
  refine WP.seq ?_
  refine WP.region ?_
  refine WL.box (ot rfl) (.agg _) (by decide) fun b1 => ?_
  refine WL.op (asg (oc _)) (by decide) ?_
  refine WL.nl (.thn ?_)
  refine WP.seq ?_
  refine WP.region ?_
  refine WL.op (fv fo_Extent_1 (ot rfl)) (by decide) ?_
  refine WL.op (lb 0 rfl sc_int (ot rfl) rfl) (by decide) ?_
  refine WL.op (geq (ot rfl) (oc _)) (by decide) ?_
  refine WL.op (mv (ot rfl)) (by decide) ?_
  refine WL.gd rfl rfl (Tells.v _ _) (fun hg => fv fo_Extent_0 (ot rfl)) (by decide) ?_
  refine WL.gd rfl rfl (Tells.v _ _) (fun hg => lb 0 rfl sc_int (og rfl hg) rfl) (by decide) ?_
  refine WL.gd rfl rfl (Tells.v _ _) (fun hg => fv fo_Extent_1 (ot rfl)) (by decide) ?_
  refine WL.gd rfl rfl (Tells.v _ _) (fun hg => lb 0 rfl sc_int (og rfl hg) rfl) (by decide) ?_
  refine WL.gd rfl rfl (Tells.v _ _) (fun hg => call (c_extent_within _ _ _ (by decide)) (.c (og rfl hg) (.c (og rfl hg) (.c (oc _) .n)))) (by decide) ?_
  refine WL.op (and_ (ot rfl) (ot rfl)) (by decide) ?_
  refine WL.op (mv (ot rfl)) (by decide) ?_
  refine WL.gd rfl rfl (Tells.v _ _) (fun hg => fv fo_Extent_2 (ot rfl)) (by decide) ?_
  refine WL.gd rfl rfl (Tells.v _ _) (fun hg => lb 0 rfl sc_int (og rfl hg) rfl) (by decide) ?_
  refine WL.gd rfl rfl (Tells.v _ _) (fun hg => fv fo_Extent_1 (ot rfl)) (by decide) ?_
  refine WL.gd rfl rfl (Tells.v _ _) (fun hg => lb 0 rfl sc_int (og rfl hg) rfl) (by decide) ?_
  refine WL.gd rfl rfl (Tells.v _ _) (fun hg => call (c_extent_within _ _ _ (by decide)) (.c (og rfl hg) (.c (og rfl hg) (.c (oc _) .n)))) (by decide) ?_
  refine WL.op (and_ (ot rfl) (ot rfl)) (by decide) ?_
  refine WL.op (asg (ot rfl)) (by decide) ?_
  refine WL.nl (.thn ?_)
  exact WP.rt (.r1 rfl rfl (imp_eq (congrArg (fun b => val (.bool b)) (by rw [Bool.eq_iff_iff]; refine Iff.trans ?_ decide_eq_true_iff.symm; simp [Pr, and_assoc]))))
theorem c_extent_end (x : X) (h : 0 ≤ x.a + x.n ∧ x.a + x.n ≤ 100000000) : PureC Tryz.prog 156 [ext x] (I (x.a + x.n)) := by
  refine PureC.of_wp Tryz.func156 (by kernel_rfl) rfl Tryz.ntmps156 (le_ rfl) (fun w0 M0 => ?_)
  refine WP.seq ?_
  refine WP.region ?_
  refine WL.box (ot rfl) (.agg _) (by decide) fun b1 => ?_
  refine WL.op (asg (oc _)) (by decide) ?_
  refine WL.nl (.thn ?_)
  refine WP.seq ?_
  refine WP.region ?_
  refine WL.op (fv fo_Extent_0 (ot rfl)) (by decide) ?_
  refine WL.op (lb 0 rfl sc_int (ot rfl) rfl) (by decide) ?_
  refine WL.op (fv fo_Extent_1 (ot rfl)) (by decide) ?_
  refine WL.op (lb 0 rfl sc_int (ot rfl) rfl) (by decide) ?_
  refine WL.op (add (ot rfl) (ot rfl) (by omega)) (by decide) ?_
  refine WL.op (asg (ot rfl)) (by decide) ?_
  refine WL.nl (.thn ?_)
  exact WP.rt (.r1 rfl rfl (imp _))
theorem c_x_follows (x y : X) (h : 0 ≤ x.a + x.n ∧ x.a + x.n ≤ 100000000) (h2 : 0 ≤ x.s + x.n ∧ x.s + x.n ≤ 100000000) : PureC Tryz.prog 128 [ext x, ext y] (val (.bool (decide (Fol x y)))) := by
  refine PureC.of_wp Tryz.func128 (by kernel_rfl) rfl Tryz.ntmps128 (le_ rfl) (fun w0 M0 => ?_)
  refine WP.seq ?_
  refine WP.region ?_
  refine WL.box (ot rfl) (.agg _) (by decide) fun b2 => ?_
  refine WL.box (ot rfl) (.agg _) (by decide) fun b3 => ?_
  refine WL.op (asg (oc _)) (by decide) ?_
  refine WL.nl (.thn ?_)
  refine WP.seq ?_
  refine WP.region ?_
  refine WL.op (fv fo_Extent_0 (ot rfl)) (by decide) ?_
  refine WL.op (lb 1 rfl sc_int (ot rfl) rfl) (by decide) ?_
  refine WL.op (fv fo_Extent_1 (ot rfl)) (by decide) ?_
  refine WL.op (lb 1 rfl sc_int (ot rfl) rfl) (by decide) ?_
  refine WL.op (add (ot rfl) (ot rfl) (by omega)) (by decide) ?_
  refine WL.op (fv fo_Extent_0 (ot rfl)) (by decide) ?_
  refine WL.op (lb 0 rfl sc_int (ot rfl) rfl) (by decide) ?_
  refine WL.op (eql (ot rfl) (ot rfl)) (by decide) ?_
  refine WL.op (mv (ot rfl)) (by decide) ?_
  refine WL.gd rfl rfl (Tells.v _ _) (fun hg => fv fo_Extent_2 (ot rfl)) (by decide) ?_
  refine WL.gd rfl rfl (Tells.v _ _) (fun hg => lb 1 rfl sc_int (og rfl hg) rfl) (by decide) ?_
  refine WL.gd rfl rfl (Tells.v _ _) (fun hg => fv fo_Extent_1 (ot rfl)) (by decide) ?_
  refine WL.gd rfl rfl (Tells.v _ _) (fun hg => lb 1 rfl sc_int (og rfl hg) rfl) (by decide) ?_
  refine WL.gd rfl rfl (Tells.v _ _) (fun hg => add (og rfl hg) (og rfl hg) (by omega)) (by decide) ?_
  refine WL.gd rfl rfl (Tells.v _ _) (fun hg => fv fo_Extent_2 (ot rfl)) (by decide) ?_
  refine WL.gd rfl rfl (Tells.v _ _) (fun hg => lb 0 rfl sc_int (og rfl hg) rfl) (by decide) ?_
  refine WL.gd rfl rfl (Tells.v _ _) (fun hg => eql (og rfl hg) (og rfl hg)) (by decide) ?_
  refine WL.op (and_ (ot rfl) (ot rfl)) (by decide) ?_
  refine WL.op (asg (ot rfl)) (by decide) ?_
  refine WL.nl (.thn ?_)
  exact WP.rt (.r1 rfl rfl (imp_eq (congrArg (fun b => val (.bool b)) (by rw [Bool.eq_iff_iff]; refine Iff.trans ?_ decide_eq_true_iff.symm; simp [Fol, and_assoc]))))
theorem c_x_proper (a n : Int) : PureC Tryz.prog 132 [I a, I n] (val (.bool (decide (Wi a n 65536)))) := by
  refine PureC.of_wp Tryz.func132 (by kernel_rfl) rfl Tryz.ntmps132 (le_ rfl) (fun w0 M0 => ?_)
  refine WP.seq ?_
  refine WP.region ?_
  refine WL.op (asg (oc _)) (by decide) ?_
  refine WL.nl (.thn ?_)
  refine WP.seq ?_
  refine WP.region ?_
  refine WL.op (mv (ot rfl)) (by decide) ?_
  refine WL.op (geq (ot rfl) (oc _)) (by decide) ?_
  refine WL.op (mv (ot rfl)) (by decide) ?_
  refine WL.gd rfl rfl (Tells.v _ _) (fun hg => mv (ot rfl)) (by decide) ?_
  refine WL.gd rfl rfl (Tells.v _ _) (fun hg => geq (og rfl hg) (oc _)) (by decide) ?_
  refine WL.op (and_ (ot rfl) (ot rfl)) (by decide) ?_
  refine WL.op (mv (ot rfl)) (by decide) ?_
  refine WL.gd rfl rfl (Tells.v _ _) (fun hg => mv (ot rfl)) (by decide) ?_
  refine WL.gd rfl rfl (Tells.v _ _) (fun hg => leq (og rfl hg) (oc _)) (by decide) ?_
  refine WL.op (and_ (ot rfl) (ot rfl)) (by decide) ?_
  refine WL.op (mv (ot rfl)) (by decide) ?_
  refine WL.gd rfl rfl (Tells.v _ _) (fun hg => mv (ot rfl)) (by decide) ?_
  refine WL.gd rfl rfl (Tells.v _ _) (fun hg => mv (ot rfl)) (by decide) ?_
  refine WL.gd rfl rfl (Tells.v _ _) (fun hg => sub (oc _) (og rfl hg) (by simp at hg; omega)) (by decide) ?_
  refine WL.gd rfl rfl (Tells.v _ _) (fun hg => leq (og rfl hg) (og rfl hg)) (by decide) ?_
  refine WL.op (and_ (ot rfl) (ot rfl)) (by decide) ?_
  refine WL.op (asg (ot rfl)) (by decide) ?_
  refine WL.nl (.thn ?_)
  exact WP.rt (.r1 rfl rfl (imp_eq (congrArg (fun b => val (.bool b)) (by rw [Bool.eq_iff_iff]; refine Iff.trans ?_ decide_eq_true_iff.symm; simp [Wi, and_assoc]))))
theorem c_extent_Valid (xs : List X) (hl : xs.length ≤ 100000) : PureC Tryz.prog 125 [sl 3 FX xs] (val (.bool (decide (Xt.Ok 0 xs)))) := by
  refine PureC.of_wp Tryz.func125 (by kernel_rfl) rfl Tryz.ntmps125 (le_ rfl) (fun w0 M0 => ?_)
  refine WP.seq ?_
  refine WP.region ?_
  refine WL.op (asg (oc _)) (by decide) ?_
  refine WL.nl (.thn ?_)
  refine WP.seq ?_
  refine WP.seq ?_
  refine WP.region ?_
  refine WL.op (mv (ot rfl)) (by decide) ?_
  refine WL.op (len_ us_s_api_Extent (ot rfl)) (by decide) ?_
  refine WL.op (mv (oc _)) (by decide) ?_
  refine WL.nl (.thn ?_)
  refine WP.block ?_
  refine WP.loop (fun _ : Nat => []) (fun i => [(7, I (i : Int)), (6, I (xs.length : Int)), (5, sl 3 FX xs), (0, sl 3 FX xs)]) (fun i => i ≤ xs.length ∧ Xt.Ok 0 (xs.take i)) (fun i => xs.length - i) 0 ⟨Nat.zero_le _, trivial⟩ (Sub.of (Sub.cons rfl (imp_eq rfl) (Sub.cons rfl (imp _) (Sub.cons rfl (imp _) (Sub.cons rfl (imp _) Sub.nil))))) (fun i hi => ?_)
  refine WP.seq ?_
  refine WP.region ?_
  refine WL.op (lss (ot rfl) (ot rfl)) (by decide) ?_
  refine WL.nl (.thn ?_)
  refine WP.seq ?_
  refine WP.condB (decide (i < xs.length)) rfl (by rw [Bool.eq_iff_iff]; simp) (fun hc => ?_) (fun hc => ?_)
  · skip
    have hc1 : i < xs.length := by simpa using hc
    have hprev : 0 < i → 0 ≤ (xs.getD ((i : Int) - 1).toNat default).a + (xs.getD ((i : Int) - 1).toNat default).n ∧ (xs.getD ((i : Int) - 1).toNat default).a + (xs.getD ((i : Int) - 1).toNat default).n ≤ 100000000 := fun h0 => by
      have e2 : ((i : Int) - 1).toNat = i - 1 := by omega
      rw [e2, List.getD_eq_getElem?_getD, List.getElem?_eq_getElem (by omega)]
      have := hi.2.starts (xs[i - 1]) (List.mem_take_iff_getElem.2 ⟨i - 1, by omega, rfl⟩)
      show 0 ≤ xs[i - 1].a + xs[i - 1].n ∧ xs[i - 1].a + xs[i - 1].n ≤ 100000000
      omega
    refine WP.sk (.thn ?_)
    refine WP.seq ?_
    refine WP.block ?_
    refine WP.seq ?_
    refine WP.region ?_
    refine WL.op (mv (ot rfl)) (by decide) ?_
    refine WL.op (ixd el_s_api_Extent (ot rfl) (ot rfl) (by omega) (by omega)) (by decide) ?_
    refine WL.op (ls ag_Extent (ot rfl) (le_ rfl)) (by decide) ?_
    refine WL.alloc zr_Extent rfl (by decide) fun b4 => ?_
    refine WL.op (asg (ot rfl)) (by decide) ?_
    refine WL.store 0 rfl (ot rfl) (ot rfl) (.agg _) sz_Extent rfl (le_ rfl) ?_
    refine WL.nl (.thn ?_)
    refine WP.seq ?_
    refine WP.draws ?_
    refine RG.op (lbs 0 rfl ag_Extent (ot rfl) (le_ rfl)) ?_
    refine RG.op (call (c_extent_proper (xs.getD (i : Int).toNat default)) (.c (ot rfl) .n)) ?_
    refine RG.op (not_ (ot rfl)) ?_
    refine RG.op (mv (ot rfl)) ?_
    refine RG.gd rfl rfl (Tells.v _ _) (fun hg => mv (ot rfl)) ?_
    refine RG.gd rfl rfl (Tells.v _ _) (fun hg => gtr (og rfl hg) (oc _)) ?_
    refine RG.gd rfl rfl (Tells.v _ _) (fun hg => mv (og rfl hg)) ?_
    refine RG.gd rfl rfl (Tells.g _ _) (fun hg => fv fo_Extent_0 (ot rfl)) ?_
    refine RG.gd rfl rfl (Tells.g _ _) (fun hg => lb 0 rfl sc_int (og rfl hg) rfl) ?_
    refine RG.gd rfl rfl (Tells.g _ _) (fun hg => mv (ot rfl)) ?_
    refine RG.gd rfl rfl (Tells.g _ _) (fun hg => mv (ot rfl)) ?_
    refine RG.gd rfl rfl (Tells.g _ _) (fun hg => sub (og rfl hg) (oc _) (by omega)) ?_
    refine RG.gd rfl rfl (Tells.g _ _) (fun hg => ixd el_s_api_Extent (og rfl hg) (og rfl hg) (by simp at hg; omega) (by omega)) ?_
    refine RG.gd rfl rfl (Tells.g _ _) (fun hg => ls ag_Extent (og rfl hg) (le_ rfl)) ?_
    refine RG.gd rfl rfl (Tells.g _ _) (fun hg => call (c_extent_end (xs.getD ((i : Int) - 1).toNat default) (by simp at hg; exact hprev (by omega))) (.c (og rfl hg) .n)) ?_
    refine RG.gd rfl rfl (Tells.g _ _) (fun hg => lss (og rfl hg) (og rfl hg)) ?_
    refine RG.gd rfl rfl (Tells.v _ _) (fun hg => and_ (og rfl hg) (og2 rfl hg)) ?_
    refine RG.op (or_ (ot rfl) (ot rfl)) ?_
    refine RG.fin HM (by kernel_rfl) ?_
    show WL _ _ _ _ _ _ _ _ _
    refine WL.nl (.thn ?_)
    refine WP.condB (!decide (Xt.Ok 0 (xs.take (i + 1)))) rfl (valid_step hc1 hi.2) (fun hc => ?_) (fun hc => ?_)
    · skip
      refine WP.seq ?_
      refine WP.region ?_
      refine WL.op (asg (oc _)) (by decide) ?_
      refine WL.nl (.thn ?_)
      exact WP.rt (.rblk (.rthn (.rthn (.rblk (.rthn (.r1 rfl rfl (imp_eq (congrArg (fun b => val (.bool b)) (Eq.symm (decide_eq_false fun h => (by simpa using hc : ¬ Xt.Ok 0 (xs.take (i + 1))) (Xt.Ok.append_left (B := xs.drop (i + 1)) (by rw [List.take_append_drop]; exact h))))))))))))
    · skip
      refine WP.sk (.blk (.thn ?_))
      refine WP.region ?_
      refine WL.op (add (ot rfl) (oc _) (by omega)) (by decide) ?_
      refine WL.op (mv (ot rfl)) (by decide) ?_
      exact WL.nl (.again (i + 1) ⟨hc1, by simpa using hc⟩ (by omega) (Sub.ofD 1 rfl (Sub.cons rfl (imp_eq (congrArg I (by omega))) (Sub.cons rfl (imp _) (Sub.cons rfl (imp _) (Sub.cons rfl (imp _) Sub.nil))))))
  · skip
    have hc1 : ¬ i < xs.length := by simpa using hc
    refine WP.xt (.xthn (.xthn (.xin (.thn ?_))))
    refine WP.seq ?_
    refine WP.region ?_
    refine WL.op (asg (oc _)) (by decide) ?_
    refine WL.nl (.thn ?_)
    exact WP.rt (.r1 rfl rfl (imp_eq (congrArg (fun b => val (.bool b)) (Eq.symm (decide_eq_true (by have := hi.2; rwa [List.take_of_length_le (by omega)] at this))))))
end Go.Proofs.YtjglgfnhgehpeaaGreat

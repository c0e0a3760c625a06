/- Parts: FmA, Col. -/
import Derived.Test.YtjglgfnhgehpeaaGreatYn
import Derived.Test.YtjglgfnhgehpeaaGreatYm
import Derived.Test.YtjglgfnhgehpeaaGreatYj
/- Families: names, sizes, places. -/
set_option linter.unusedVariables false
set_option linter.unusedSimpArgs false
set_option maxRecDepth 4000
namespace Go.Proofs.YtjglgfnhgehpeaaGreat
open Go.RowKit Go.Fw Go.Xt
theorem c_family_Name {s : ByteArray} (hs : s.size ≤ 9223372036854775807) : PureC Tryz.prog 63 [val (.string s)] (val (.bool (nameE s))) := by
  have hls : s.data.toList.length = s.size := Array.length_toList
  refine PureC.of_wp Tryz.func63 (by kernel_rfl) rfl Tryz.ntmps63 (le_ rfl) (fun w0 M0 => ?_)
  refine WP.seq ?_
  refine WP.region ?_
  refine WL.op (asg (oc _)) (by decide) ?_
  refine WL.nl (.thn ?_)
  refine WP.seq ?_
  refine WP.seq ?_
  refine WP.region ?_
  refine WL.op (mv (ot rfl)) (by decide) ?_
  refine WL.op (cvsb un_string us_s_uint8 un_uint8 (ot rfl)) (by decide) ?_
  refine WL.op (len_ us_s_uint8 (ot rfl)) (by decide) ?_
  refine WL.op (mv (oc _)) (by decide) ?_
  refine WL.nl (.thn ?_)
  refine WP.block ?_
  refine WP.loop (fun y : Nat => []) (fun y => [(9, I (y : Int)), (8, I (s.size : Int)), (7, sl 1 FU s.data.toList), (0, val (.string s))]) (fun y => y ≤ s.size ∧ nameAll s y = true) (fun y => s.size - y) 0 ⟨Nat.zero_le _, rfl⟩ (Sub.of (Sub.cons rfl (imp_eq rfl) (Sub.cons rfl (imp_eq (congrArg (fun k : Nat => I (k : Int)) hls)) (Sub.cons rfl (imp _) (Sub.cons rfl (imp _) Sub.nil))))) (fun i hi => ?_)
  replace hi : i ≤ s.size ∧ nameAll s i = true := hi
  show WP _ _ _ _ [] [(9, I (i : Int)), (8, I (s.size : Int)), (7, sl 1 FU s.data.toList), (0, val (.string s))] _ _
  refine WP.seq ?_
  refine WP.region ?_
  refine WL.op (lss (ot rfl) (ot rfl)) (by decide) ?_
  refine WL.nl (.thn ?_)
  refine WP.seq ?_
  refine WP.cond rfl (fun hc => ?_) (fun hc => ?_)
  · skip
    have hi1 : i < s.size := by have := of_decide_eq_true hc; omega
    have hi2 := hi.1
    refine WP.sk (.thn ?_)
    refine WP.seq ?_
    refine WP.block ?_
    refine WP.seq ?_
    refine WP.region ?_
    refine WL.op (mv (ot rfl)) (by decide) ?_
    refine WL.op (ixd el_s_uint8 (ot rfl) (ot rfl) (by omega) (by omega)) (by decide) ?_
    refine WL.op (ld sc_uint8 (ot rfl)) (by decide) ?_
    refine WL.op (asg (ot rfl)) (by decide) ?_
    refine WL.op (asg (ot rfl)) (by decide) ?_
    refine WL.nl (.thn ?_)
    refine WP.seq ?_
    refine WP.region ?_
    refine WL.op (mv (ot rfl)) (by decide) ?_
    refine WL.op (geq (ot rfl) (oc _)) (by decide) ?_
    refine WL.op (mv (ot rfl)) (by decide) ?_
    refine WL.gd rfl rfl (Tells.v _ _) (fun hg => mv (ot rfl)) (by decide) ?_
    refine WL.gd rfl rfl (Tells.v _ _) (fun hg => leq (og rfl hg) (oc _)) (by decide) ?_
    refine WL.op (and_ (ot rfl) (ot rfl)) (by decide) ?_
    refine WL.op (asg (ot rfl)) (by decide) ?_
    refine WL.nl (.thn ?_)
    refine WP.seq ?_
    refine WP.region ?_
    refine WL.op (mv (ot rfl)) (by decide) ?_
    refine WL.op (not_ (ot rfl)) (by decide) ?_
    refine WL.op (mv (ot rfl)) (by decide) ?_
    refine WL.gd rfl rfl (Tells.v _ _) (fun hg => mv (ot rfl)) (by decide) ?_
    refine WL.gd rfl rfl (Tells.v _ _) (fun hg => eql (og rfl hg) (oc _)) (by decide) ?_
    refine WL.gd rfl rfl (Tells.v _ _) (fun hg => mv (og rfl hg)) (by decide) ?_
    refine WL.gd rfl rfl (Tells.g _ _) (fun hg => mv (ot rfl)) (by decide) ?_
    refine WL.gd rfl rfl (Tells.g _ _) (fun hg => lss (og rfl hg) (oc _)) (by decide) ?_
    refine WL.gd rfl rfl (Tells.v _ _) (fun hg => or_ (og rfl hg) (og2 rfl hg)) (by decide) ?_
    refine WL.gd rfl rfl (Tells.v _ _) (fun hg => mv (og rfl hg)) (by decide) ?_
    refine WL.gd rfl rfl (Tells.g _ _) (fun hg => mv (ot rfl)) (by decide) ?_
    refine WL.gd rfl rfl (Tells.g _ _) (fun hg => gtr (og rfl hg) (oc _)) (by decide) ?_
    refine WL.gd rfl rfl (Tells.v _ _) (fun hg => or_ (og rfl hg) (og2 rfl hg)) (by decide) ?_
    refine WL.op (and_ (ot rfl) (ot rfl)) (by decide) ?_
    refine WL.nl (.thn ?_)
    refine WP.cond rfl (fun hc => ?_) (fun hc => ?_)
    · skip
      have hno : chOk i (chr s i) = false := by
        generalize hz : chr s ((i : Nat) : Int).toNat = z at hc
        rw [show ((i : Nat) : Int).toNat = i from by omega] at hz
        rw [hz]
        unfold chOk
        have hq : chr s ((i : Nat) : Int).toNat = z := by rw [show ((i : Nat) : Int).toNat = i from by omega]; exact hz
        unfold chr at hq
        simp only [hq, Bool.and_eq_true, Bool.or_eq_true, Bool.not_eq_true', Bool.and_eq_false_iff, Bool.or_eq_false_iff, decide_eq_true_eq, decide_eq_false_iff_not] at hc ⊢
        omega
      refine WP.seq ?_
      refine WP.region ?_
      refine WL.op (asg (oc _)) (by decide) ?_
      refine WL.nl (.thn ?_)
      exact WP.rt (.rblk (.rthn (.rthn (.rblk (.rthn (.r1 rfl rfl (imp_eq (congrArg (fun b => val (.bool b)) (nameE_no hi1 hno).symm))))))))
    · skip
      have hok : chOk i (chr s i) = true := by
        have hq : chr s ((i : Nat) : Int).toNat = chr s i := by rw [show ((i : Nat) : Int).toNat = i from by omega]
        generalize chr s i = z at hq ⊢
        unfold chr at hq
        unfold chOk
        simp only [hq, Bool.and_eq_true, Bool.or_eq_true, Bool.not_eq_false', Bool.and_eq_false_iff, Bool.or_eq_false_iff, decide_eq_true_eq, decide_eq_false_iff_not] at hc ⊢
        omega
      refine WP.sk (.blk (.thn ?_))
      refine WP.region ?_
      refine WL.op (add (ot rfl) (oc _) (by omega)) (by decide) ?_
      refine WL.op (mv (ot rfl)) (by decide) ?_
      exact WL.nl (.again (i + 1) ⟨hi1, by rw [nameAll_succ, hi.2, hok]; rfl⟩ (by omega) (Sub.of (Sub.cons rfl (imp_eq (congrArg I (by omega))) (Sub.cons rfl (imp _) (Sub.cons rfl (imp _) (Sub.cons rfl (imp _) Sub.nil))))))
  · skip
    have hi1 : ¬ i < s.size := by have := of_decide_eq_false hc; omega
    have hend : nameAll s s.size = true := by rw [← show i = s.size from by have := hi.1; omega]; exact hi.2
    refine WP.xt (.xthn (.xthn (.xin (.thn ?_))))
    refine WP.seq ?_
    refine WP.region ?_
    refine WL.op (mv (ot rfl)) (by decide) ?_
    refine WL.op (sne (ot rfl) (oc _)) (by decide) ?_
    refine WL.op (mv (ot rfl)) (by decide) ?_
    refine WL.gd rfl rfl (Tells.v _ _) (fun hg => mv (ot rfl)) (by decide) ?_
    refine WL.gd rfl rfl (Tells.v _ _) (fun hg => lens un_string (og rfl hg)) (by decide) ?_
    refine WL.gd rfl rfl (Tells.v _ _) (fun hg => leq (og rfl hg) (oc _)) (by decide) ?_
    refine WL.op (and_ (ot rfl) (ot rfl)) (by decide) ?_
    refine WL.op (asg (ot rfl)) (by decide) ?_
    refine WL.nl (.thn ?_)
    exact WP.rt (.r1 rfl rfl (imp_eq (congrArg (fun b => val (.bool b)) (nameE_end hend))))
theorem c_r36_Name {s : ByteArray} (hs : s.size ≤ 9223372036854775807) : PureC Tryz.prog 97 [val (.string s)] (val (.bool (nameE s))) := by
  refine PureC.of_wp Tryz.func97 (by kernel_rfl) rfl Tryz.ntmps97 (le_ rfl) (fun w0 M0 => ?_)
  refine WP.seq ?_
  refine WP.region ?_
  refine WL.op (asg (oc _)) (by decide) ?_
  refine WL.nl (.thn ?_)
  refine WP.seq ?_
  refine WP.seq ?_
  refine WP.region ?_
  refine WL.op (asg (oc _)) (by decide) ?_
  refine WL.nl (.thn ?_)
  refine WP.block ?_
  refine WP.loop (fun y : Nat => []) (fun y => [(3, I (y : Int)), (0, val (.string s))]) (fun y => y ≤ s.size ∧ nameAll s y = true) (fun y => s.size - y) 0 ⟨Nat.zero_le _, rfl⟩ (Sub.of (Sub.cons rfl (imp_eq rfl) (Sub.cons rfl (imp _) Sub.nil))) (fun i hi => ?_)
  replace hi : i ≤ s.size ∧ nameAll s i = true := hi
  show WP _ _ _ _ [] [(3, I (i : Int)), (0, val (.string s))] _ _
  refine WP.seq ?_
  refine WP.seq ?_
  refine WP.region ?_
  refine WL.op (mv (ot rfl)) (by decide) ?_
  refine WL.op (mv (ot rfl)) (by decide) ?_
  refine WL.op (lens un_string (ot rfl)) (by decide) ?_
  refine WL.op (lss (ot rfl) (ot rfl)) (by decide) ?_
  refine WL.nl (.thn ?_)
  refine WP.cond rfl (fun hc => ?_) (fun hc => ?_)
  · skip
    have hi1 : i < s.size := by have := of_decide_eq_true hc; omega
    have hi2 := hi.1
    refine WP.sk (.thn ?_)
    refine WP.seq ?_
    refine WP.block ?_
    refine WP.seq ?_
    refine WP.region ?_
    refine WL.op (mv (ot rfl)) (by decide) ?_
    refine WL.op (mv (ot rfl)) (by decide) ?_
    refine WL.op (ixs un_string (ot rfl) (ot rfl) (by omega) (by omega)) (by decide) ?_
    refine WL.op (asg (ot rfl)) (by decide) ?_
    refine WL.nl (.thn ?_)
    refine WP.seq ?_
    refine WP.region ?_
    refine WL.op (mv (ot rfl)) (by decide) ?_
    refine WL.op (geq (ot rfl) (oc _)) (by decide) ?_
    refine WL.op (mv (ot rfl)) (by decide) ?_
    refine WL.gd rfl rfl (Tells.v _ _) (fun hg => mv (ot rfl)) (by decide) ?_
    refine WL.gd rfl rfl (Tells.v _ _) (fun hg => leq (og rfl hg) (oc _)) (by decide) ?_
    refine WL.op (and_ (ot rfl) (ot rfl)) (by decide) ?_
    refine WL.op (mv (ot rfl)) (by decide) ?_
    refine WL.gd rfl rfl (Tells.v _ _) (fun hg => mv (ot rfl)) (by decide) ?_
    refine WL.gd rfl rfl (Tells.v _ _) (fun hg => gtr (og rfl hg) (oc _)) (by decide) ?_
    refine WL.gd rfl rfl (Tells.v _ _) (fun hg => mv (og rfl hg)) (by decide) ?_
    refine WL.gd rfl rfl (Tells.g _ _) (fun hg => mv (ot rfl)) (by decide) ?_
    refine WL.gd rfl rfl (Tells.g _ _) (fun hg => geq (og rfl hg) (oc _)) (by decide) ?_
    refine WL.gd rfl rfl (Tells.v _ _) (fun hg => and_ (og rfl hg) (og2 rfl hg)) (by decide) ?_
    refine WL.gd rfl rfl (Tells.v _ _) (fun hg => mv (og rfl hg)) (by decide) ?_
    refine WL.gd rfl rfl (Tells.g _ _) (fun hg => mv (ot rfl)) (by decide) ?_
    refine WL.gd rfl rfl (Tells.g _ _) (fun hg => leq (og rfl hg) (oc _)) (by decide) ?_
    refine WL.gd rfl rfl (Tells.v _ _) (fun hg => and_ (og rfl hg) (og2 rfl hg)) (by decide) ?_
    refine WL.op (or_ (ot rfl) (ot rfl)) (by decide) ?_
    refine WL.op (not_ (ot rfl)) (by decide) ?_
    refine WL.nl (.thn ?_)
    refine WP.cond rfl (fun hc => ?_) (fun hc => ?_)
    · skip
      have hno : chOk i (chr s i) = false := by
        have hq : chr s ((i : Nat) : Int).toNat = chr s i := by rw [show ((i : Nat) : Int).toNat = i from by omega]
        rw [hq] at hc
        generalize chr s i = z at hc ⊢
        unfold chOk
        simp only [Bool.and_eq_true, Bool.or_eq_true, Bool.not_eq_true', Bool.and_eq_false_iff, Bool.or_eq_false_iff, decide_eq_true_eq, decide_eq_false_iff_not] at hc ⊢
        omega
      refine WP.seq ?_
      refine WP.region ?_
      refine WL.op (asg (oc _)) (by decide) ?_
      refine WL.nl (.thn ?_)
      exact WP.rt (.rblk (.rthn (.rthn (.rblk (.rthn (.r1 rfl rfl (imp_eq (congrArg (fun b => val (.bool b)) (nameE_no hi1 hno).symm))))))))
    · skip
      have hok : chOk i (chr s i) = true := by
        have hq : chr s ((i : Nat) : Int).toNat = chr s i := by rw [show ((i : Nat) : Int).toNat = i from by omega]
        rw [hq] at hc
        generalize chr s i = z at hc ⊢
        unfold chOk
        simp only [Bool.and_eq_true, Bool.or_eq_true, Bool.not_eq_false', Bool.and_eq_false_iff, Bool.or_eq_false_iff, decide_eq_true_eq, decide_eq_false_iff_not] at hc ⊢
        omega
      refine WP.sk (.blk (.thn ?_))
      refine WP.region ?_
      refine WL.op (mv (ot rfl)) (by decide) ?_
      refine WL.op (add (ot rfl) (oc _) (by omega)) (by decide) ?_
      refine WL.op (asg (ot rfl)) (by decide) ?_
      exact WL.nl (.again (i + 1) ⟨hi1, by rw [nameAll_succ, hi.2, hok]; rfl⟩ (by omega) (Sub.of (Sub.cons rfl (imp_eq (congrArg I (by omega))) (Sub.cons rfl (imp _) Sub.nil))))
  · skip
    have hi1 : ¬ i < s.size := by have := of_decide_eq_false hc; omega
    have hend : nameAll s s.size = true := by rw [← show i = s.size from by have := hi.1; omega]; exact hi.2
    refine WP.xt (.xthn (.xthn (.xin (.thn ?_))))
    refine WP.seq ?_
    refine WP.region ?_
    refine WL.op (mv (ot rfl)) (by decide) ?_
    refine WL.op (lens un_string (ot rfl)) (by decide) ?_
    refine WL.op (geq (ot rfl) (oc _)) (by decide) ?_
    refine WL.op (mv (ot rfl)) (by decide) ?_
    refine WL.gd rfl rfl (Tells.v _ _) (fun hg => mv (ot rfl)) (by decide) ?_
    refine WL.gd rfl rfl (Tells.v _ _) (fun hg => lens un_string (og rfl hg)) (by decide) ?_
    refine WL.gd rfl rfl (Tells.v _ _) (fun hg => leq (og rfl hg) (oc _)) (by decide) ?_
    refine WL.op (and_ (ot rfl) (ot rfl)) (by decide) ?_
    refine WL.op (asg (ot rfl)) (by decide) ?_
    refine WL.nl (.thn ?_)
    exact WP.rt (.r1 rfl rfl (imp_eq (congrArg (fun b => val (.bool b)) (nameE_end' hend))))
theorem c_family_volume_has {v : Vol} {a n : Int} (hv : 0 ≤ v.n ∧ v.n ≤ 65536) : PureC Tryz.prog 102 [agg (FV v), I a, I n] (val (.bool (has v a n))) := by
  refine PureC.of_wp Tryz.func102 (by kernel_rfl) rfl Tryz.ntmps102 (le_ rfl) (fun w0 M0 => ?_)
  refine WP.seq ?_
  refine WP.region ?_
  refine WL.box (ot rfl) (.agg _) (by decide) fun b3 => ?_
  refine WL.op (asg (oc _)) (by decide) ?_
  refine WL.nl (.thn ?_)
  refine WP.seq ?_
  refine WP.region ?_
  refine WL.op (mv (ot rfl)) (by decide) ?_
  refine WL.op (geq (ot rfl) (oc _)) (by decide) ?_
  refine WL.op (mv (ot rfl)) (by decide) ?_
  refine WL.gd rfl rfl (Tells.v _ _) (fun hg => mv (ot rfl)) (by decide) ?_
  refine WL.gd rfl rfl (Tells.v _ _) (fun hg => geq (og rfl hg) (oc _)) (by decide) ?_
  refine WL.op (and_ (ot rfl) (ot rfl)) (by decide) ?_
  refine WL.op (mv (ot rfl)) (by decide) ?_
  refine WL.gd rfl rfl (Tells.v _ _) (fun hg => mv (ot rfl)) (by decide) ?_
  refine WL.gd rfl rfl (Tells.v _ _) (fun hg => fv fo_family_volume_0 (ot rfl)) (by decide) ?_
  refine WL.gd rfl rfl (Tells.v _ _) (fun hg => fv fo_family_size_0 (og rfl hg)) (by decide) ?_
  refine WL.gd rfl rfl (Tells.v _ _) (fun hg => lb 0 rfl sc_int (og rfl hg) rfl) (by decide) ?_
  refine WL.gd rfl rfl (Tells.v _ _) (fun hg => leq (og rfl hg) (og rfl hg)) (by decide) ?_
  refine WL.op (and_ (ot rfl) (ot rfl)) (by decide) ?_
  refine WL.op (mv (ot rfl)) (by decide) ?_
  refine WL.gd rfl rfl (Tells.v _ _) (fun hg => mv (ot rfl)) (by decide) ?_
  refine WL.gd rfl rfl (Tells.v _ _) (fun hg => fv fo_family_volume_0 (ot rfl)) (by decide) ?_
  refine WL.gd rfl rfl (Tells.v _ _) (fun hg => fv fo_family_size_0 (og rfl hg)) (by decide) ?_
  refine WL.gd rfl rfl (Tells.v _ _) (fun hg => lb 0 rfl sc_int (og rfl hg) rfl) (by decide) ?_
  refine WL.gd rfl rfl (Tells.v _ _) (fun hg => mv (ot rfl)) (by decide) ?_
  refine WL.gd rfl rfl (Tells.v _ _) (fun hg => sub (og rfl hg) (og rfl hg) (by simp at hg; omega)) (by decide) ?_
  refine WL.gd rfl rfl (Tells.v _ _) (fun hg => leq (og rfl hg) (og rfl hg)) (by decide) ?_
  refine WL.op (and_ (ot rfl) (ot rfl)) (by decide) ?_
  refine WL.op (asg (ot rfl)) (by decide) ?_
  refine WL.nl (.thn ?_)
  exact WP.rt (.r1 rfl rfl (imp _))
theorem c_family_New {k : Nat} (hk : k ≤ 65536) : PureC Tryz.prog 18 [I (k : Int)] (tup [eF ⟨List.replicate k 0, []⟩, I 0]) := by
  refine PureC.of_wp Tryz.func18 (by kernel_rfl) rfl Tryz.ntmps18 (le_ rfl) (fun w0 M0 => ?_)
  refine WP.seq ?_
  refine WP.region ?_
  refine WL.alloc zr_family_Family rfl (by decide) fun b2 => ?_
  refine WL.op (asg (oc _)) (by decide) ?_
  refine WL.nl (.thn ?_)
  refine WP.seq ?_
  refine WP.region ?_
  refine WL.op (mv (ot rfl)) (by decide) ?_
  refine WL.op (call (c_refcount_New hk) (.c (ot rfl) .n)) (by decide) ?_
  refine WL.op (mv (ot rfl)) (by decide) ?_
  refine WL.op (ex (ot rfl) rfl) (by decide) ?_
  refine WL.op (ex (ot rfl) rfl) (by decide) ?_
  refine WL.alloc zr_refcount_Counts rfl (by decide) fun b4 => ?_
  refine WL.store 0 rfl (ot rfl) (ot rfl) (.agg _) sz_refcount_Counts rfl (le_ rfl) ?_
  refine WL.op (asg (ot rfl)) (by decide) ?_
  refine WL.nl (.thn ?_)
  refine WP.seq ?_
  refine WP.region ?_
  refine WL.op (lbs 0 rfl ag_refcount_Counts (ot rfl) (le_ rfl)) (by decide) ?_
  refine WL.op (bld zr_family_Family rfl ps_family_Family (.c (ot rfl) (.agg _) pl_family_Family_0 rfl (le_ rfl) .n)) (by decide) ?_
  refine WL.op (mv (ot rfl)) (by decide) ?_
  refine WL.store 1 rfl (ot rfl) (ot rfl) (.agg _) sz_family_Family rfl (le_ rfl) ?_
  refine WL.op (asg (ot rfl)) (by decide) ?_
  refine WL.nl (.thn ?_)
  exact WP.rt (.rN rfl (.cons (.bx 1 rfl rfl ag_family_Family) (.cons (.tm rfl) .nil)) (le_ rfl) (impT (.c (impA (.c (imp _) (.c mp_nil .n))) (.c (imp _) .n))))
theorem c_vacant_none {f : Fam} {s : ByteArray} (hl : lookK s f.vs = none) : PureC Tryz.prog 64 [eF f, val (.string s)] (I (vac f s)) := by
  refine PureC.of_wp Tryz.func64 (by kernel_rfl) rfl Tryz.ntmps64 (le_ rfl) (fun w0 M0 => ?_)
  refine WP.seq ?_
  refine WP.region ?_
  refine WL.box (ot rfl) (.agg _) (by decide) fun b2 => ?_
  refine WL.op (asg (oc _)) (by decide) ?_
  refine WL.nl (.thn ?_)
  refine WP.seq ?_
  refine WP.region ?_
  refine WL.op (fv fo_family_Family_1 (ot rfl)) (by decide) ?_
  refine WL.op (lb 0 rfl sc_m_string_family_volume (ot rfl) rfl) (by decide) ?_
  refine WL.op (mv (ot rfl)) (by decide) ?_
  refine WL.op (lkN um_m_string_family_volume un_string zg_family_volume rfl (ot rfl) (ot rfl) hl) (by decide) ?_
  refine WL.op (mv (ot rfl)) (by decide) ?_
  refine WL.op (ex (ot rfl) rfl) (by decide) ?_
  refine WL.op (ex (ot rfl) rfl) (by decide) ?_
  refine WL.alloc zr_family_volume rfl (by decide) fun b5 => ?_
  refine WL.store 0 rfl (ot rfl) (ot rfl) (.agg _) sz_family_volume rfl (le_ rfl) ?_
  refine WL.op (asg (ot rfl)) (by decide) ?_
  refine WL.nl (.thn ?_)
  refine WP.seq ?_
  refine WP.block ?_
  refine WP.seq ?_
  refine WP.region ?_
  refine WL.op (mv (ot rfl)) (by decide) ?_
  refine WL.op (asg (ot rfl)) (by decide) ?_
  refine WL.nl (.thn ?_)
  refine WP.condF rfl ?_
  refine WP.seq ?_
  refine WP.region ?_
  refine WL.op (fv fo_family_Family_1 (ot rfl)) (by decide) ?_
  refine WL.op (lb 1 rfl sc_m_string_family_volume (ot rfl) rfl) (by decide) ?_
  refine WL.op (lenm um_m_string_family_volume (ot rfl)) (by decide) ?_
  refine WL.op (geq (ot rfl) (oc _)) (by decide) ?_
  refine WL.op (asg (ot rfl)) (by decide) ?_
  refine WL.nl (.thn ?_)
  refine WP.cond rfl (fun hc => ?_) (fun hc => ?_)
  · skip
    have hc1 := of_decide_eq_true hc
    refine WP.seq ?_
    refine WP.region ?_
    refine WL.op (asg (oc _)) (by decide) ?_
    refine WL.nl (.thn ?_)
    exact WP.rt (.rblk (.rthn (.r1 rfl rfl (imp_eq (congrArg I (by rw [vac, hl]; exact (if_neg Bool.false_ne_true).trans (if_pos (by omega)) |>.symm))))))
  · skip
    have hc1 := of_decide_eq_false hc
    refine WP.sk (.blk (.thn ?_))
    refine WP.seq ?_
    refine WP.region ?_
    refine WL.op (asg (oc _)) (by decide) ?_
    refine WL.nl (.thn ?_)
    exact WP.rt (.r1 rfl rfl (imp_eq (congrArg I (by rw [vac, hl]; exact (if_neg Bool.false_ne_true).trans (if_neg (by omega)) |>.symm))))
theorem c_vacant_some {f : Fam} {s : ByteArray} {v : Vol} (hl : lookK s f.vs = some v) : PureC Tryz.prog 64 [eF f, val (.string s)] (I (vac f s)) := by
  refine PureC.of_wp Tryz.func64 (by kernel_rfl) rfl Tryz.ntmps64 (le_ rfl) (fun w0 M0 => ?_)
  refine WP.seq ?_
  refine WP.region ?_
  refine WL.box (ot rfl) (.agg _) (by decide) fun b2 => ?_
  refine WL.op (asg (oc _)) (by decide) ?_
  refine WL.nl (.thn ?_)
  refine WP.seq ?_
  refine WP.region ?_
  refine WL.op (fv fo_family_Family_1 (ot rfl)) (by decide) ?_
  refine WL.op (lb 0 rfl sc_m_string_family_volume (ot rfl) rfl) (by decide) ?_
  refine WL.op (mv (ot rfl)) (by decide) ?_
  refine WL.op (lkS um_m_string_family_volume un_string zg_family_volume rfl (ot rfl) (ot rfl) hl) (by decide) ?_
  refine WL.op (mv (ot rfl)) (by decide) ?_
  refine WL.op (ex (ot rfl) rfl) (by decide) ?_
  refine WL.op (ex (ot rfl) rfl) (by decide) ?_
  refine WL.alloc zr_family_volume rfl (by decide) fun b5 => ?_
  refine WL.store 0 rfl (ot rfl) (ot rfl) (.agg _) sz_family_volume rfl (le_ rfl) ?_
  refine WL.op (asg (ot rfl)) (by decide) ?_
  refine WL.nl (.thn ?_)
  refine WP.seq ?_
  refine WP.block ?_
  refine WP.seq ?_
  refine WP.region ?_
  refine WL.op (mv (ot rfl)) (by decide) ?_
  refine WL.op (asg (ot rfl)) (by decide) ?_
  refine WL.nl (.thn ?_)
  refine WP.condT rfl ?_
  refine WP.seq ?_
  refine WP.region ?_
  refine WL.op (asg (oc _)) (by decide) ?_
  refine WL.nl (.thn ?_)
  exact WP.rt (.rblk (.rthn (.r1 rfl rfl (imp_eq (congrArg I (by rw [vac, hl]; rfl))))))
theorem c_family_Family_vacant {f : Fam} {s : ByteArray} : PureC Tryz.prog 64 [eF f, val (.string s)] (I (vac f s)) := by
  cases hl : lookK s f.vs with
  | none => exact c_vacant_none hl
  | some v => exact c_vacant_some hl
theorem c_find_none {f : Fam} {s : ByteArray} {a n : Int} (hl : lookK s f.vs = none) : PureC Tryz.prog 66 [eF f, val (.string s), I a, I n] (tup [agg (FV (fFind f s a n).1), I (fFind f s a n).2]) := by
  refine PureC.of_wp Tryz.func66 (by kernel_rfl) rfl Tryz.ntmps66 (le_ rfl) (fun w0 M0 => ?_)
  refine WP.seq ?_
  refine WP.region ?_
  refine WL.box (ot rfl) (.agg _) (by decide) fun b4 => ?_
  refine WL.alloc zr_family_volume rfl (by decide) fun b8 => ?_
  refine WL.op (asg (oc _)) (by decide) ?_
  refine WL.nl (.thn ?_)
  refine WP.seq ?_
  refine WP.region ?_
  refine WL.op (fv fo_family_Family_1 (ot rfl)) (by decide) ?_
  refine WL.op (lb 1 rfl sc_m_string_family_volume (ot rfl) rfl) (by decide) ?_
  refine WL.op (mv (ot rfl)) (by decide) ?_
  refine WL.op (lkN um_m_string_family_volume un_string zg_family_volume rfl (ot rfl) (ot rfl) hl) (by decide) ?_
  refine WL.op (mv (ot rfl)) (by decide) ?_
  refine WL.op (ex (ot rfl) rfl) (by decide) ?_
  refine WL.op (ex (ot rfl) rfl) (by decide) ?_
  refine WL.alloc zr_family_volume rfl (by decide) fun b10 => ?_
  refine WL.store 0 rfl (ot rfl) (ot rfl) (.agg _) sz_family_volume rfl (le_ rfl) ?_
  refine WL.op (asg (ot rfl)) (by decide) ?_
  refine WL.nl (.thn ?_)
  refine WP.seq ?_
  refine WP.block ?_
  refine WP.seq ?_
  refine WP.region ?_
  refine WL.op (mv (ot rfl)) (by decide) ?_
  refine WL.op (not_ (ot rfl)) (by decide) ?_
  refine WL.op (asg (ot rfl)) (by decide) ?_
  refine WL.nl (.thn ?_)
  refine WP.condT rfl ?_
  refine WP.seq ?_
  refine WP.region ?_
  refine WL.op (bld zr_family_volume rfl ps_family_volume .n) (by decide) ?_
  refine WL.store 1 rfl (ot rfl) (ot rfl) (.agg _) sz_family_volume rfl (le_ rfl) ?_
  refine WL.op (asg (oc _)) (by decide) ?_
  refine WL.nl (.thn ?_)
  exact WP.rt (.rblk (.rthn (.rN rfl (.cons (.bx 1 rfl rfl ag_family_volume) (.cons (.tm rfl) .nil)) (le_ rfl) (imp_eq (by rw [fFind, hl]; rfl)))))
theorem c_find_some {f : Fam} {s : ByteArray} {a n : Int} {v : Vol} (hv : 0 ≤ v.n ∧ v.n ≤ 65536) (hl : lookK s f.vs = some v) : PureC Tryz.prog 66 [eF f, val (.string s), I a, I n] (tup [agg (FV (fFind f s a n).1), I (fFind f s a n).2]) := by
  refine PureC.of_wp Tryz.func66 (by kernel_rfl) rfl Tryz.ntmps66 (le_ rfl) (fun w0 M0 => ?_)
  refine WP.seq ?_
  refine WP.region ?_
  refine WL.box (ot rfl) (.agg _) (by decide) fun b4 => ?_
  refine WL.alloc zr_family_volume rfl (by decide) fun b8 => ?_
  refine WL.op (asg (oc _)) (by decide) ?_
  refine WL.nl (.thn ?_)
  refine WP.seq ?_
  refine WP.region ?_
  refine WL.op (fv fo_family_Family_1 (ot rfl)) (by decide) ?_
  refine WL.op (lb 1 rfl sc_m_string_family_volume (ot rfl) rfl) (by decide) ?_
  refine WL.op (mv (ot rfl)) (by decide) ?_
  refine WL.op (lkS um_m_string_family_volume un_string zg_family_volume rfl (ot rfl) (ot rfl) hl) (by decide) ?_
  refine WL.op (mv (ot rfl)) (by decide) ?_
  refine WL.op (ex (ot rfl) rfl) (by decide) ?_
  refine WL.op (ex (ot rfl) rfl) (by decide) ?_
  refine WL.alloc zr_family_volume rfl (by decide) fun b10 => ?_
  refine WL.store 0 rfl (ot rfl) (ot rfl) (.agg _) sz_family_volume rfl (le_ rfl) ?_
  refine WL.op (asg (ot rfl)) (by decide) ?_
  refine WL.nl (.thn ?_)
  refine WP.seq ?_
  refine WP.block ?_
  refine WP.seq ?_
  refine WP.region ?_
  refine WL.op (mv (ot rfl)) (by decide) ?_
  refine WL.op (not_ (ot rfl)) (by decide) ?_
  refine WL.op (asg (ot rfl)) (by decide) ?_
  refine WL.nl (.thn ?_)
  refine WP.condF rfl ?_
  refine WP.seq ?_
  refine WP.region ?_
  refine WL.op (lbs 0 rfl ag_family_volume (ot rfl) (le_ rfl)) (by decide) ?_
  refine WL.op (mv (ot rfl)) (by decide) ?_
  refine WL.op (mv (ot rfl)) (by decide) ?_
  refine WL.op (call (c_family_volume_has hv) (.c (ot rfl) (.c (ot rfl) (.c (ot rfl) .n)))) (by decide) ?_
  refine WL.op (not_ (ot rfl)) (by decide) ?_
  refine WL.op (asg (ot rfl)) (by decide) ?_
  refine WL.nl (.thn ?_)
  refine WP.cond rfl (fun hc => ?_) (fun hc => ?_)
  · skip
    refine WP.seq ?_
    refine WP.region ?_
    refine WL.op (bld zr_family_volume rfl ps_family_volume .n) (by decide) ?_
    refine WL.store 1 rfl (ot rfl) (ot rfl) (.agg _) sz_family_volume rfl (le_ rfl) ?_
    refine WL.op (asg (oc _)) (by decide) ?_
    refine WL.nl (.thn ?_)
    exact WP.rt (.rblk (.rthn (.rN rfl (.cons (.bx 1 rfl rfl ag_family_volume) (.cons (.tm rfl) .nil)) (le_ rfl) (imp_eq (by simp only [fFind, hl, if_neg (show ¬ has v a n = true by simpa using hc)]; rfl)))))
  · skip
    refine WP.sk (.blk (.thn ?_))
    refine WP.seq ?_
    refine WP.region ?_
    refine WL.op (lbs 0 rfl ag_family_volume (ot rfl) (le_ rfl)) (by decide) ?_
    refine WL.store 1 rfl (ot rfl) (ot rfl) (.agg _) sz_family_volume rfl (le_ rfl) ?_
    refine WL.op (asg (oc _)) (by decide) ?_
    refine WL.nl (.thn ?_)
    exact WP.rt (.rN rfl (.cons (.bx 1 rfl rfl ag_family_volume) (.cons (.tm rfl) .nil)) (le_ rfl) (imp_eq (by simp only [fFind, hl, if_pos (show has v a n = true by simpa using hc)]; rfl)))
theorem c_family_Family_find {f : Fam} {s : ByteArray} {a n : Int} (h : Fw0 f) : PureC Tryz.prog 66 [eF f, val (.string s), I a, I n] (tup [agg (FV (fFind f s a n).1), I (fFind f s a n).2]) := by
  cases hl : lookK s f.vs with
  | none => exact c_find_none hl
  | some v => exact c_find_some (by have := h.vol _ (lookK_mem hl); exact ⟨this.2.1, this.2.2.1⟩) hl
theorem c_with_nil {f : Fam} {cs : List Int} {s : ByteArray} {v : Vol} : PureC Tryz.prog 65 [agg [sl 1 FI f.cs, val (.map none)], eC cs, val (.string s), agg (FV v)] (eF ⟨cs, putK s v []⟩) := by
  refine PureC.of_wp Tryz.func65 (by kernel_rfl) rfl Tryz.ntmps65 (le_ rfl) (fun w0 M0 => ?_)
  refine WP.seq ?_
  refine WP.region ?_
  refine WL.box (ot rfl) (.agg _) (by decide) fun b4 => ?_
  refine WL.box (ot rfl) (.agg _) (by decide) fun b5 => ?_
  refine WL.box (ot rfl) (.agg _) (by decide) fun b7 => ?_
  refine WL.alloc zr_family_Family rfl (by decide) fun b8 => ?_
  refine WL.nl (.thn ?_)
  refine WP.seq ?_
  refine WP.region ?_
  refine WL.op (fv fo_family_Family_1 (ot rfl)) (by decide) ?_
  refine WL.op (lb 3 rfl sc_m_string_family_volume (ot rfl) rfl) (by decide) ?_
  refine WL.op (call c_maps_Clone_nil (.c (ot rfl) .n)) (by decide) ?_
  refine WL.op (asg (ot rfl)) (by decide) ?_
  refine WL.nl (.thn ?_)
  refine WP.seq ?_
  refine WP.seq ?_
  refine WP.region ?_
  refine WL.op (mv (ot rfl)) (by decide) ?_
  refine WL.op (mnil um_m_string_family_volume (ot rfl)) (by decide) ?_
  refine WL.nl (.thn ?_)
  refine WP.condT rfl ?_
  refine WP.region ?_
  refine WL.makeMap (by decide) fun g15 => ?_
  refine WL.op (asg (ot rfl)) (by decide) ?_
  refine WL.nl (.thn ?_)
  refine WP.seq ?_
  refine WP.region ?_
  refine WL.op (mv (ot rfl)) (by decide) ?_
  refine WL.op (mv (ot rfl)) (by decide) ?_
  refine WL.op (lbs 2 rfl ag_family_volume (ot rfl) (le_ rfl)) (by decide) ?_
  refine WL.mapUpd 0 rfl um_m_string_family_volume un_string (ot rfl) (ot rfl) (ot rfl) ?_
  refine WL.nl (.thn ?_)
  refine WP.freezeM 0 9 FV (putK s v []) rfl rfl rfl ?_
  refine WP.seq ?_
  refine WP.region ?_
  refine WL.op (lbs 3 rfl ag_refcount_Counts (ot rfl) (le_ rfl)) (by decide) ?_
  refine WL.op (mv (ot rfl)) (by decide) ?_
  refine WL.op (bld zr_family_Family rfl ps_family_Family (.c (ot rfl) (.agg _) pl_family_Family_0 rfl (le_ rfl) (.c (ot rfl) (.leaf leaf_mp) pl_family_Family_1 rfl (le_ rfl) .n))) (by decide) ?_
  refine WL.store 1 rfl (ot rfl) (ot rfl) (.agg _) sz_family_Family rfl (le_ rfl) ?_
  refine WL.nl (.thn ?_)
  exact WP.rt (.rB rfl (.bx 1 rfl rfl ag_family_Family) (imp _))
theorem c_with_some {f : Fam} {cs : List Int} {s : ByteArray} {v : Vol} : PureC Tryz.prog 65 [agg [sl 1 FI f.cs, mps FV f.vs], eC cs, val (.string s), agg (FV v)] (eF ⟨cs, putK s v f.vs⟩) := by
  refine PureC.of_wp Tryz.func65 (by kernel_rfl) rfl Tryz.ntmps65 (le_ rfl) (fun w0 M0 => ?_)
  refine WP.seq ?_
  refine WP.region ?_
  refine WL.box (ot rfl) (.agg _) (by decide) fun b4 => ?_
  refine WL.box (ot rfl) (.agg _) (by decide) fun b5 => ?_
  refine WL.box (ot rfl) (.agg _) (by decide) fun b7 => ?_
  refine WL.alloc zr_family_Family rfl (by decide) fun b8 => ?_
  refine WL.nl (.thn ?_)
  refine WP.seq ?_
  refine WP.region ?_
  refine WL.op (fv fo_family_Family_1 (ot rfl)) (by decide) ?_
  refine WL.op (lb 3 rfl sc_m_string_family_volume (ot rfl) rfl) (by decide) ?_
  refine WL.cloneM c_maps_Clone (ot rfl) (by decide) fun g12 => ?_
  refine WL.op (asg (ot rfl)) (by decide) ?_
  refine WL.nl (.thn ?_)
  refine WP.seq ?_
  refine WP.seq ?_
  refine WP.region ?_
  refine WL.op (mv (ot rfl)) (by decide) ?_
  refine WL.op (mnil um_m_string_family_volume (ot rfl)) (by decide) ?_
  refine WL.nl (.thn ?_)
  refine WP.condF rfl ?_
  refine WP.sk (.thn ?_)
  refine WP.seq ?_
  refine WP.region ?_
  refine WL.op (mv (ot rfl)) (by decide) ?_
  refine WL.op (mv (ot rfl)) (by decide) ?_
  refine WL.op (lbs 2 rfl ag_family_volume (ot rfl) (le_ rfl)) (by decide) ?_
  refine WL.mapUpd 0 rfl um_m_string_family_volume un_string (ot rfl) (ot rfl) (ot rfl) ?_
  refine WL.nl (.thn ?_)
  refine WP.freezeM 0 9 FV (putK s v f.vs) rfl (putK_map FV s v f.vs) rfl ?_
  refine WP.seq ?_
  refine WP.region ?_
  refine WL.op (lbs 3 rfl ag_refcount_Counts (ot rfl) (le_ rfl)) (by decide) ?_
  refine WL.op (mv (ot rfl)) (by decide) ?_
  refine WL.op (bld zr_family_Family rfl ps_family_Family (.c (ot rfl) (.agg _) pl_family_Family_0 rfl (le_ rfl) (.c (ot rfl) (.leaf leaf_mp) pl_family_Family_1 rfl (le_ rfl) .n))) (by decide) ?_
  refine WL.store 1 rfl (ot rfl) (ot rfl) (.agg _) sz_family_Family rfl (le_ rfl) ?_
  refine WL.nl (.thn ?_)
  exact WP.rt (.rB rfl (.bx 1 rfl rfl ag_family_Family) (imp _))
theorem c_family_Family_with {f : Fam} {cs : List Int} {s : ByteArray} {v : Vol} : PureC Tryz.prog 65 [eF f, eC cs, val (.string s), agg (FV v)] (eF ⟨cs, putK s v f.vs⟩) := by
  by_cases h : f.vs = []
  · have h1 := c_with_nil (f := f) (cs := cs) (s := s) (v := v)
    have h2 := c_with_some (f := f) (cs := cs) (s := s) (v := v)
    rw [← h] at h1
    refine PureC.or1 (fun u w M hu => ?_) h1 h2
    obtain ⟨us, rfl, hus⟩ := hu
    match us, hus with
    | [x, y], ⟨k1, ⟨k2, k3⟩, _⟩ =>
      rcases k2 with ⟨rfl, _⟩ | k2
      · exact .inl ⟨_, rfl, k1, ⟨rfl, k3⟩, trivial⟩
      · exact .inr ⟨_, rfl, k1, ⟨k2, k3⟩, trivial⟩
  · refine PureC.imp1 (fun u w M hu => ?_) c_with_some
    obtain ⟨us, rfl, hus⟩ := hu
    match us, hus with
    | [x, y], ⟨k1, ⟨k2, k3⟩, _⟩ =>
      rcases k2 with ⟨_, k2⟩ | k2
      · exact absurd k2 h
      · exact ⟨_, rfl, k1, ⟨k2, k3⟩, trivial⟩
theorem c_family_Family_Count {f : Fam} {s : Int} : PureC Tryz.prog 29 [eF f, I s] (I (fCount f s)) := by
  refine PureC.of_wp Tryz.func29 (by kernel_rfl) rfl Tryz.ntmps29 (le_ rfl) (fun w0 M0 => ?_)
  refine WP.seq ?_
  refine WP.region ?_
  refine WL.box (ot rfl) (.agg _) (by decide) fun b2 => ?_
  refine WL.op (asg (oc _)) (by decide) ?_
  refine WL.nl (.thn ?_)
  refine WP.seq ?_
  refine WP.region ?_
  refine WL.op (fv fo_family_Family_0 (ot rfl)) (by decide) ?_
  refine WL.op (lbs 0 rfl ag_refcount_Counts (ot rfl) (le_ rfl)) (by decide) ?_
  refine WL.op (mv (ot rfl)) (by decide) ?_
  refine WL.op (call c_refcount_Counts_Of (.c (ot rfl) (.c (ot rfl) .n))) (by decide) ?_
  refine WL.op (asg (ot rfl)) (by decide) ?_
  refine WL.nl (.thn ?_)
  exact WP.rt (.r1 rfl rfl (imp _))
end Go.Proofs.YtjglgfnhgehpeaaGreat

/- slices.Collect of a tree's extents. -/
set_option linter.unusedVariables false
set_option linter.unusedSimpArgs false
set_option maxRecDepth 4000
namespace Go.Proofs.YtjglgfnhgehpeaaGreat
open Go.RowKit Go.Fw Go.Xt
abbrev B2s (b2 : Nat) (y : Value × List X) : List Box := [.r y.1 65 3 y.2.length (y.2.flatMap FX), .b b2 51 [val y.1]]
theorem c_slices_AppendSeq {t : Tr} (hl : t.list.length ≤ 70000) : PureC Tryz.prog 134 [val nilS, itR t] (sl 3 FX t.list) := by
  refine PureC.of_wpM Tryz.func134 (by kernel_rfl) rfl Tryz.ntmps134 (le_ rfl) (fun w0 M0 => ?_)
  refine WP.seq ?_
  refine WP.region ?_
  refine WL.box (ot rfl) (.leaf (.val rfl)) (by decide) fun b2 => ?_
  refine WL.op (asg (oc _)) (by decide) ?_
  refine WL.nl (.thn ?_)
  refine WP.seq ?_
  refine WP.seq ?_
  refine WP.region ?_
  refine WL.op (mv (ot rfl)) (by decide) ?_
  refine WL.nl (.thn ?_)
  refine WP.block ?_
  refine WP.nilrow 65 3 ?_
  refine WP.rangeF (α := X) (β := Value × List X) (ε := Nat) (xs := t.list) rfl (by decide) (B2s b2) (fun pre y => y.2 = pre ∧ y.1.oneCell' = true) (fun _ _ _ => False) (nilS, []) ⟨rfl, rfl⟩ rfl ?hpl ?hdet
    [(2, val (.pointer (some ⟨b2, 0, none⟩)))] (Sub.cons rfl (imp _) Sub.nil) ?hpl0 ext (fun x w M => ⟨[.int .i64 x.a, .int .i64 x.n, .int .i64 x.s], rfl, ⟨rfl, rfl⟩, ⟨rfl, rfl⟩, ⟨rfl, rfl⟩, trivial⟩)
    (fun x e => [.b e 65 (FX x)]) (fun x e => [(5, val (.pointer (some ⟨e, 0, none⟩))), (2, val (.pointer (some ⟨b2, 0, none⟩)))]) ?hplx ?hassign ?hbody ?hdone ?hstop
  case hpl =>
    rintro ⟨v, pre⟩ x hx
    simp only [B2s, List.mem_cons, List.not_mem_nil, or_false] at hx
    rcases hx with rfl | rfl
    · exact pl_FXs pre
    · intro R hR; rw [List.mem_singleton.1 hR]; exact Pl.val _
  case hdet =>
    rintro ⟨v, pre⟩ ⟨v', pre'⟩ M W h h'
    obtain ⟨cs, h1, h2⟩ := h (.b b2 51 [val v]) (by simp [B2s])
    obtain ⟨cs', h1', h2'⟩ := h' (.b b2 51 [val v']) (by simp [B2s])
    rw [h1] at h1'
    have e : cs = cs' := by simpa using h1'
    subst e
    have : v = v' := by
      cases cs with
      | nil => exact h2.elim
      | cons c cs => exact h2.1.1.symm.trans h2'.1.1
    subst this
    rfl
  case hpl0 =>
    intro i R hR
    simp only [Fw.look] at hR
    split at hR
    · cases hR; exact Pl.val _
    · cases hR
  case hplx =>
    refine fun x e => ⟨fun b hb => ?_, fun i R hR => ?_⟩
    · rw [List.mem_singleton.1 hb]; exact pl_FX x
    · simp only [Fw.look] at hR
      split at hR
      · cases hR; exact Pl.val _
      · split at hR
        · cases hR; exact Pl.val _
        · cases hR
  case hassign =>
    rintro r m pre x ⟨v, pre'⟩ W Ma h
    refine WPI.region ?_
    refine WLI.alloc zr_Extent rfl (by decide) fun b5 => ?_
    refine WLI.store 0 rfl (ot rfl) (ot rfl) (.agg _) sz_Extent rfl (le_ rfl) ?_
    exact WLI.nl fun a w hok => ⟨rfl, b5, Sub.of (Sub.cons rfl (imp _) (Sub.cons rfl (imp _) Sub.nil)) a w hok, hok.facts sinceAt _ rfl⟩
  case hbody =>
    rintro r m pre x ⟨v, pre'⟩ b5 W Ma h hlen
    have h : pre' = pre := h.1
    subst h
    refine WPI.block ?_
    refine WPI.region ?_
    refine WLI.op (lb 2 rfl sc_s_api_Extent (ot rfl) rfl) (by decide) ?_
    refine WLI.op (lbs 0 rfl ag_Extent (ot rfl) (le_ rfl)) (by decide) ?_
    refine WLI.op (bsl1 (f := FX) (el := x) ei_s_api_Extent (ot rfl) (.agg _) rfl (by decide) (by decide)) (by decide) ?_
    refine WLI.app 1 rfl ei_s_api_Extent (by decide) (ot rfl) (ot rfl) (by simp) (fun _ => rfl) (by simp; omega) (by simp; omega) (by decide) fun v7 h7 => ?_
    refine WLI.store 2 rfl (ot rfl) (ot rfl) (.leaf (.val h7)) sz_s_api_Extent rfl (le_ rfl) ?_
    refine WLI.nl (.blk fun a w hok => ⟨(v7, pre' ++ [x]), [], ⟨rfl, h7⟩, ?_, ?_⟩)
    · have := Sub.of (st' := []) Sub.nil a w (hok.drop 1 rfl)
      simpa [B2s, setAt] using this
    · have : Kp _ _ _ _ := (hok.drop 1 rfl).facts sinceAt _ rfl
      simpa [B2s, setAt] using this
  case hdone =>
    rintro D ⟨v, pre⟩ h
    have hv : v.oneCell' = true := h.2
    have h : pre = t.list := h.1
    subst h
    refine .blk (.thn ?_)
    refine WP.seq ?_
    refine WP.region ?_
    refine WL.op (lb 2 rfl sc_s_api_Extent (ot rfl) rfl) (by decide) ?_
    refine WL.freeze 1 12 FX t.list rfl (fun _ => rfl) rfl rfl rfl ?_
    refine WL.op (asg (ot rfl)) (by decide) ?_
    refine WL.nl (.thn ?_)
    exact WP.rt (.mk (.ofM (.r1 rfl rfl (imp _))))
  case hstop => intro D c pre y _ h; exact h.elim
theorem c_slices_Collect {t : Tr} (hl : t.list.length ≤ 70000) : PureC Tryz.prog 104 [itR t] (sl 3 FX t.list) := by
  refine PureC.of_wp Tryz.func104 (by kernel_rfl) rfl Tryz.ntmps104 (le_ rfl) (fun w0 M0 => ?_)
  refine WP.seq ?_
  refine WP.region ?_
  refine WL.op (asg (oc _)) (by decide) ?_
  refine WL.nl (.thn ?_)
  refine WP.seq ?_
  refine WP.region ?_
  refine WL.op (mv (ot rfl)) (by decide) ?_
  refine WL.op (call (c_slices_AppendSeq hl) (.c (oc _) (.c (ot rfl) .n))) (by decide) ?_
  refine WL.op (asg (ot rfl)) (by decide) ?_
  refine WL.nl (.thn ?_)
  exact WP.rt (.r1 rfl rfl (imp _))
theorem c_family_volume_extents {v : Vol} (hl : v.t.list.length ≤ 70000) : PureC Tryz.prog 69 [agg (FV v)] (sl 3 FX v.t.list) := by
  refine PureC.of_wp Tryz.func69 (by kernel_rfl) rfl Tryz.ntmps69 (le_ rfl) (fun w0 M0 => ?_)
  refine WP.seq ?_
  refine WP.region ?_
  refine WL.box (ot rfl) (.agg _) (by decide) fun b1 => ?_
  refine WL.op (asg (oc _)) (by decide) ?_
  refine WL.nl (.thn ?_)
  refine WP.seq ?_
  refine WP.region ?_
  refine WL.op (fv fo_family_volume_1 (ot rfl)) (by decide) ?_
  refine WL.op (lbs 0 rfl ag_Tree (ot rfl) (le_ rfl)) (by decide) ?_
  refine WL.op (call (c_x_Tree_All v.t) (.c (ot rfl) .n)) (by decide) ?_
  refine WL.op (call (c_slices_Collect hl) (.c (ot rfl) .n)) (by decide) ?_
  refine WL.op (asg (ot rfl)) (by decide) ?_
  refine WL.nl (.thn ?_)
  exact WP.rt (.r1 rfl rfl (imp _))
end Go.Proofs.YtjglgfnhgehpeaaGreat

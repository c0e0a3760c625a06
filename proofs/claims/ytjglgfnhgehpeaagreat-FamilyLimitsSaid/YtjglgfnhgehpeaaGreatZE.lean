/- Parts: L36h. -/
import Derived.Test.YtjglgfnhgehpeaaGreatZD
/- The law of families: the limits. -/
set_option linter.unusedVariables false
set_option linter.unusedSimpArgs false
set_option maxRecDepth 4000
namespace Go.Proofs.YtjglgfnhgehpeaaGreat
open Go.RowKit Go.Fw Go.Xt
theorem c_refcount_New_bad {k : Int} (hk : k < 0 ∨ 65536 < k) : PureC Tryz.prog 62 [I k] (tup [eC [], I 1]) := by
  refine PureC.of_wp Tryz.func62 (by kernel_rfl) rfl Tryz.ntmps62 (le_ rfl) (fun w0 M0 => ?_)
  refine WP.seq ?_
  refine WP.region ?_
  refine WL.alloc zr_refcount_Counts rfl (by decide) fun b2 => ?_
  refine WL.op (asg (oc _)) (by decide) ?_
  refine WL.nl (.thn ?_)
  refine WP.seq ?_
  refine WP.seq ?_
  refine WP.region ?_
  refine WL.op (mv (ot rfl)) (by decide) ?_
  refine WL.op (lss (ot rfl) (oc _)) (by decide) ?_
  refine WL.op (mv (ot rfl)) (by decide) ?_
  refine WL.gd rfl rfl (Tells.v _ _) (fun hg => mv (ot rfl)) (by decide) ?_
  refine WL.gd rfl rfl (Tells.v _ _) (fun hg => gtr (og rfl hg) (oc _)) (by decide) ?_
  refine WL.op (OpG.weak (R' := val (.bool true)) (or_  (ot rfl) (ot rfl)) (imp_eq (congrArg (fun b => val (.bool b)) (by rw [Bool.eq_iff_iff]; simp only [Bool.or_eq_true, decide_eq_true_eq, Bool.false_eq_true, iff_true, iff_false]; exact hk)))) (by decide) ?_
  refine WL.nl (.thn ?_)
  refine WP.condT rfl ?_
  refine WP.seq ?_
  refine WP.region ?_
  refine WL.op (bld zr_refcount_Counts rfl ps_refcount_Counts .n) (by decide) ?_
  refine WL.store 0 rfl (ot rfl) (ot rfl) (.agg _) sz_refcount_Counts rfl (le_ rfl) ?_
  refine WL.op (asg (oc _)) (by decide) ?_
  refine WL.nl (.thn ?_)
  exact WP.rt (.rthn (.rN rfl (.cons (.bx 0 rfl rfl ag_refcount_Counts) (.cons (.tm rfl) .nil)) (le_ rfl) (impT (.c (impA (.c sl_nil .n)) (.c (imp _) .n)))))
theorem c_family_New_bad {k : Int} (hk : k < 0 ∨ 65536 < k) : PureC Tryz.prog 18 [I k] (tup [eF ⟨[], []⟩, I 1]) := by
  refine PureC.of_wp Tryz.func18 (by kernel_rfl) rfl Tryz.ntmps18 (le_ rfl) (fun w0 M0 => ?_)
  refine WP.seq ?_
  refine WP.region ?_
  refine WL.alloc zr_family_Family rfl (by decide) fun b2 => ?_
  refine WL.op (asg (oc _)) (by decide) ?_
  refine WL.nl (.thn ?_)
  refine WP.seq ?_
  refine WP.region ?_
  refine WL.op (mv (ot rfl)) (by decide) ?_
  refine WL.op (call (c_refcount_New_bad hk) (.c (ot rfl) .n)) (by decide) ?_
  refine WL.op (mv (ot rfl)) (by decide) ?_
  refine WL.op (ex (ot rfl) rfl) (by decide) ?_
  refine WL.op (ex (ot rfl) rfl) (by decide) ?_
  refine WL.alloc zr_refcount_Counts rfl (by decide) fun b4 => ?_
  refine WL.store 0 rfl (ot rfl) (ot rfl) (.agg _) sz_refcount_Counts rfl (le_ rfl) ?_
  refine WL.op (asg (ot rfl)) (by decide) ?_
  refine WL.nl (.thn ?_)
  refine WP.seq ?_
  refine WP.region ?_
  refine WL.op (lbs 0 rfl ag_refcount_Counts (ot rfl) (le_ rfl)) (by decide) ?_
  refine WL.op (bld zr_family_Family rfl ps_family_Family (.c (ot rfl) (.agg _) pl_family_Family_0 rfl (le_ rfl) .n)) (by decide) ?_
  refine WL.op (mv (ot rfl)) (by decide) ?_
  refine WL.store 1 rfl (ot rfl) (ot rfl) (.agg _) sz_family_Family rfl (le_ rfl) ?_
  refine WL.op (asg (ot rfl)) (by decide) ?_
  refine WL.nl (.thn ?_)
  exact WP.rt (.rN rfl (.cons (.bx 1 rfl rfl ag_family_Family) (.cons (.tm rfl) .nil)) (le_ rfl) (impT (.c (impA (.c (imp _) (.c mp_nil .n))) (.c (imp _) .n))))
theorem c_family_New_all {k : Int} : PureC Tryz.prog 18 [I k] (tup [eF (fNew k).1, I (fNew k).2]) := by
  by_cases h : 0 ≤ k ∧ k ≤ 65536
  · have := c_family_New (k := k.toNat) (by omega)
    rw [show ((k.toNat : Nat) : Int) = k from by omega] at this
    unfold fNew
    rw [if_pos h]
    exact this
  · unfold fNew
    rw [if_neg h]
    exact c_family_New_bad (by omega)

theorem cn_sz (k : Nat) : (cn k).size ≤ 9223372036854775807 := by
  have : (cn k).size = 3 := rfl
  omega
theorem c_w36_FamilyLimits {m n r : Int} (hm : -9223372036854775808 ≤ m ∧ m ≤ 9223372036854775807) (hn : -9223372036854775808 ≤ n ∧ n ≤ 9223372036854775807) (hr : -9223372036854775808 ≤ r ∧ r ≤ 9223372036854775807) : PureC Tryz.prog 3 [I m, I n, I r] (val (.bool true)) := by
  refine PureC.of_wp Tryz.func3 (by kernel_rfl) rfl Tryz.ntmps3 (le_ rfl) (fun w0 M0 => ?_)
  refine WP.seq ?_
  refine WP.region ?_
  refine WL.op (asg (oc _)) (by decide) ?_
  refine WL.nl (.thn ?_)
  refine WP.seq ?_
  refine WP.seq ?_
  refine WP.region ?_
  refine WL.op (call c_w36_awake .n) (by decide) ?_
  refine WL.op (not_ (ot rfl)) (by decide) ?_
  refine WL.nl (.thn ?_)
  refine WP.condF rfl ?_
  refine WP.sk (.thn ?_)
  refine WP.seq ?_
  refine WP.region ?_
  refine WL.op (mv (ot rfl)) (by decide) ?_
  refine WL.op (call c_family_New_all (.c (ot rfl) .n)) (by decide) ?_
  refine WL.op (mv (ot rfl)) (by decide) ?_
  refine WL.op (ex (ot rfl) rfl) (by decide) ?_
  refine WL.op (ex (ot rfl) rfl) (by decide) ?_
  refine WL.alloc zr_family_Family rfl (by decide) fun b7 => ?_
  refine WL.store 0 rfl (ot rfl) (ot rfl) (.agg _) sz_family_Family rfl (le_ rfl) ?_
  refine WL.op (asg (ot rfl)) (by decide) ?_
  refine WL.nl (.thn ?_)
  refine WP.seq ?_
  refine WP.seq ?_
  refine WP.region ?_
  refine WL.op (mv (ot rfl)) (by decide) ?_
  refine WL.op (lss (ot rfl) (oc _)) (by decide) ?_
  refine WL.op (mv (ot rfl)) (by decide) ?_
  refine WL.gd rfl rfl (Tells.v _ _) (fun hg => mv (ot rfl)) (by decide) ?_
  refine WL.gd rfl rfl (Tells.v _ _) (fun hg => gtr (og rfl hg) (oc _)) (by decide) ?_
  refine WL.op (or_ (ot rfl) (ot rfl)) (by decide) ?_
  refine WL.nl (.thn ?_)
  refine WP.cond rfl (fun hc => ?_) (fun hc => ?_)
  · skip
    have hz0 : m < 0 ∨ 65536 < m := by simp only [Bool.or_eq_true, decide_eq_true_eq] at hc; exact hc
    refine WP.seq ?_
    refine WP.region ?_
    refine WL.op (mv (ot rfl)) (by decide) ?_
    refine WL.op (OpG.weak (R' := val (.bool true)) (eql  (ot rfl) (oc _)) (imp_eq (congrArg (fun b => val (.bool b)) (decide_eq_true (by unfold fNew; rw [if_neg (by omega)]))))) (by decide) ?_
    refine WL.op (asg (ot rfl)) (by decide) ?_
    refine WL.nl (.thn ?_)
    exact WP.rt (.rthn (.r1 rfl rfl (imp _)))
  · skip
    have hz0 : 0 ≤ m ∧ m ≤ 65536 := by simp only [Bool.or_eq_false_iff, decide_eq_false_iff_not] at hc; omega
    have e0 : (fNew m).2 = 0 := by unfold fNew; rw [if_pos hz0]
    refine WP.sk (.thn ?_)
    refine WP.seq ?_
    refine WP.region ?_
    refine WL.op (lbs 0 rfl ag_family_Family (ot rfl) (le_ rfl)) (by decide) ?_
    refine WL.op (mv (ot rfl)) (by decide) ?_
    refine WL.op (mv (ot rfl)) (by decide) ?_
    refine WL.op (call (c_family_Family_Create (s := vN) (by decide)) (.c (ot rfl) (.c (oc _) (.c (ot rfl) (.c (ot rfl) .n))))) (by decide) ?_
    refine WL.op (mv (ot rfl)) (by decide) ?_
    refine WL.op (ex (ot rfl) rfl) (by decide) ?_
    refine WL.op (ex (ot rfl) rfl) (by decide) ?_
    refine WL.alloc zr_family_Family rfl (by decide) fun b9 => ?_
    refine WL.store 0 rfl (ot rfl) (ot rfl) (.agg _) sz_family_Family rfl (le_ rfl) ?_
    refine WL.op (asg (ot rfl)) (by decide) ?_
    refine WL.nl (.thn ?_)
    refine WP.seq ?_
    refine WP.seq ?_
    refine WP.region ?_
    refine WL.op (mv (ot rfl)) (by decide) ?_
    refine WL.op (lss (ot rfl) (oc _)) (by decide) ?_
    refine WL.op (mv (ot rfl)) (by decide) ?_
    refine WL.gd rfl rfl (Tells.v _ _) (fun hg => mv (ot rfl)) (by decide) ?_
    refine WL.gd rfl rfl (Tells.v _ _) (fun hg => gtr (og rfl hg) (oc _)) (by decide) ?_
    refine WL.op (or_ (ot rfl) (ot rfl)) (by decide) ?_
    refine WL.op (mv (ot rfl)) (by decide) ?_
    refine WL.gd rfl rfl (Tells.v _ _) (fun hg => mv (ot rfl)) (by decide) ?_
    refine WL.gd rfl rfl (Tells.v _ _) (fun hg => lss (og rfl hg) (oc _)) (by decide) ?_
    refine WL.op (or_ (ot rfl) (ot rfl)) (by decide) ?_
    refine WL.op (mv (ot rfl)) (by decide) ?_
    refine WL.gd rfl rfl (Tells.v _ _) (fun hg => mv (ot rfl)) (by decide) ?_
    refine WL.gd rfl rfl (Tells.v _ _) (fun hg => mv (ot rfl)) (by decide) ?_
    refine WL.gd rfl rfl (Tells.v _ _) (fun hg => gtr (og rfl hg) (og rfl hg)) (by decide) ?_
    refine WL.op (or_ (ot rfl) (ot rfl)) (by decide) ?_
    refine WL.nl (.thn ?_)
    refine WP.cond rfl (fun hc => ?_) (fun hc => ?_)
    · skip
      have hz : n < 1 ∨ 65536 < n ∨ r < 0 ∨ n < r := by simp only [Bool.or_eq_true, decide_eq_true_eq] at hc; omega
      refine WP.seq ?_
      refine WP.region ?_
      refine WL.op (mv (ot rfl)) (by decide) ?_
      refine WL.op (OpG.weak (R' := val (.bool true)) (eql  (ot rfl) (oc _)) (imp_eq (congrArg (fun b => val (.bool b)) (decide_eq_true (by unfold fNew; rw [if_pos (by omega)]))))) (by decide) ?_
      refine WL.op (mv (ot rfl)) (by decide) ?_
      refine WL.gT rfl rfl ?_ -- g2
      refine WL.op (mv (ot rfl)) (by decide) ?_
      refine WL.gT rfl rfl ?_ -- g2
      refine WL.op (OpG.weak (R' := val (.bool true)) (eql  (ot rfl) (oc _)) (imp_eq (congrArg (fun b => val (.bool b)) (decide_eq_true (li_bad hz))))) (by decide) ?_
      refine WL.op (pickT (ot rfl) (ot rfl)) (by decide) ?_
      refine WL.op (asg (ot rfl)) (by decide) ?_
      refine WL.nl (.thn ?_)
      exact WP.rt (.rthn (.r1 rfl rfl (imp _)))
    · skip
      have hz : ¬ (n < 1 ∨ 65536 < n ∨ r < 0 ∨ n < r) := by simp only [Bool.or_eq_false_iff, decide_eq_false_iff_not] at hc; omega
      have hs := li_start hz0 hz
      refine WP.sk (.thn ?_)
      refine WP.seq ?_
      refine WP.region ?_
      refine WL.op (lbs 0 rfl ag_family_Family (ot rfl) (le_ rfl)) (by decide) ?_
      refine WL.op (OpG.weak (R' := tup [agg [val (.string vN), I n, I r, I 0, I 0], I 0]) (call (cr_Info hs.2.rel) (.c (ot rfl) (.c (oc _) .n))) (imp_eq (li_info hs.2))) (by decide) ?_
      refine WL.op (mv (ot rfl)) (by decide) ?_
      refine WL.op (ex (ot rfl) rfl) (by decide) ?_
      refine WL.op (ex (ot rfl) rfl) (by decide) ?_
      refine WL.alloc zr_VolumeInfo rfl (by decide) fun b11 => ?_
      refine WL.store 0 rfl (ot rfl) (ot rfl) (.agg _) sz_VolumeInfo rfl (le_ rfl) ?_
      refine WL.op (asg (ot rfl)) (by decide) ?_
      refine WL.nl (.thn ?_)
      refine WP.seq ?_
      refine WP.seq ?_
      refine WP.region ?_
      refine WL.op (asg (oc _)) (by decide) ?_
      refine WL.nl (.thn ?_)
      refine WP.block ?_
      refine WP.loop (fun y : Nat => [.b b11 34 [val (.string vN), I n, I r, I 0, I 0], .b b9 28 [sl 1 FI (lm ((fCreate (fNew m).1 vN n r).1, (rCreate (rNew m).1 vN n r).1) y).1.cs, mp FV (lm ((fCreate (fNew m).1 vN n r).1, (rCreate (rNew m).1 vN n r).1) y).1.vs], .b b7 28 [sl 1 FI (fNew m).1.cs, mp FV (fNew m).1.vs]]) (fun y => [(13, I ((y : Int) + 1)), (12, I 0), (11, val (.pointer (some ⟨b11, 0, none⟩))), (10, I 0), (9, val (.pointer (some ⟨b9, 0, none⟩))), (8, I 0), (7, val (.pointer (some ⟨b7, 0, none⟩))), (2, I r), (1, I n)]) (fun y => y ≤ 31) (fun y => 31 - y) 0 (by omega) (Sub.ofD 0 rfl (Sub.cons rfl (imp_eq rfl) (Sub.cons rfl (imp  _) (Sub.cons rfl (imp  _) (Sub.cons rfl (imp_eq (congrArg I hs.1)) (Sub.cons rfl (imp  _) (Sub.cons rfl (imp_eq (congrArg I e0)) (Sub.cons rfl (imp  _) (Sub.cons rfl (imp  _) (Sub.cons rfl (imp  _) Sub.nil)))))))))) (fun j hj => ?_)
      replace hj : j ≤ 31 := hj
      show WP _ _ _ _ [.b b11 34 [val (.string vN), I n, I r, I 0, I 0], .b b9 28 [sl 1 FI (lm ((fCreate (fNew m).1 vN n r).1, (rCreate (rNew m).1 vN n r).1) j).1.cs, mp FV (lm ((fCreate (fNew m).1 vN n r).1, (rCreate (rNew m).1 vN n r).1) j).1.vs], .b b7 28 [sl 1 FI (fNew m).1.cs, mp FV (fNew m).1.vs]] [(13, I ((j : Int) + 1)), (12, I 0), (11, val (.pointer (some ⟨b11, 0, none⟩))), (10, I 0), (9, val (.pointer (some ⟨b9, 0, none⟩))), (8, I 0), (7, val (.pointer (some ⟨b7, 0, none⟩))), (2, I r), (1, I n)] _ _
      refine WP.seq ?_
      refine WP.seq ?_
      refine WP.region ?_
      refine WL.op (mv (ot rfl)) (by decide) ?_
      refine WL.op (lss (ot rfl) (oc _)) (by decide) ?_
      refine WL.nl (.thn ?_)
      refine WP.cond rfl (fun hc => ?_) (fun hc => ?_)
      · skip
        have hc1 : j < 31 := by have := of_decide_eq_true hc; omega
        have hli := li_run hs.2 j (by omega)
        have hst := li_step hli (by omega)
        refine WP.sk (.thn ?_)
        refine WP.seq ?_
        refine WP.block ?_
        refine WP.seq ?_
        refine WP.region ?_
        refine WL.op (asg (oc _)) (by decide) ?_
        refine WL.nl (.thn ?_)
        refine WP.seq ?_
        refine WP.region ?_
        refine WL.op (lbs 1 rfl ag_family_Family (ot rfl) (le_ rfl)) (by decide) ?_
        refine WL.op (mv (ot rfl)) (by decide) ?_
        refine WL.op (rem_ (ot rfl) (oc _) (by omega) (by omega)) (by decide) ?_
        refine WL.op (cv un_int un_uint8 (ot rfl) (IntWalk.u8_in _ (by omega))) (by decide) ?_
        refine WL.op (OpG.weak (R' := val (.int .u8 (((UInt8.ofNat (97 + (j + 1) % 26)).toNat : Nat) : Int))) (addw (oc _) (ot rfl)) (imp_eq (congrArg (fun b => val (.int .u8 b)) (cn_a (j + 1) (by omega))))) (by decide) ?_
        refine WL.op (mv (ot rfl)) (by decide) ?_
        refine WL.op (quo (ot rfl) (oc _) (by omega) (by omega)) (by decide) ?_
        refine WL.op (cv un_int un_uint8 (ot rfl) (IntWalk.u8_in _ (by omega))) (by decide) ?_
        refine WL.op (OpG.weak (R' := val (.int .u8 (((UInt8.ofNat (48 + (j + 1) / 26)).toNat : Nat) : Int))) (addw (oc _) (ot rfl)) (imp_eq (congrArg (fun b => val (.int .u8 b)) (cn_b (j + 1) (by omega))))) (by decide) ?_
        refine WL.op (bsl2 ei_s_uint8 (ot rfl) (ot rfl)) (by decide) ?_
        refine WL.op (cvbs us_s_uint8 un_uint8 un_string (by simp) (ot rfl)) (by decide) ?_
        refine WL.op (sadd (a := ⟨#[118]⟩) (b := ⟨[UInt8.ofNat (97 + (j + 1) % 26), UInt8.ofNat (48 + (j + 1) / 26)].toArray⟩) (oc _) (ot rfl) (by show (1 : Nat) + 2 ≤ 9223372036854775807; omega)) (by decide) ?_
        refine WL.op (call (c_family_Family_Clone (s := vN) (o := cn (j + 1)) (cn_sz _) hli.rel.fw) (.c (ot rfl) (.c (oc _) (.c (ot rfl) .n)))) (by decide) ?_
        refine WL.op (mv (ot rfl)) (by decide) ?_
        refine WL.op (ex (ot rfl) rfl) (by decide) ?_
        refine WL.op (ex (ot rfl) rfl) (by decide) ?_
        refine WL.store 1 rfl (ot rfl) (ot rfl) (.agg _) sz_family_Family rfl (le_ rfl) ?_
        refine WL.op (asg (ot rfl)) (by decide) ?_
        refine WL.nl (.thn ?_)
        refine WP.seq ?_
        refine WP.region ?_
        refine WL.op (mv (ot rfl)) (by decide) ?_
        refine WL.op (OpG.weak (R' := val (.bool false)) (neq  (ot rfl) (oc _)) (imp_eq (congrArg (fun b => val (.bool b)) (by rw [decide_eq_true (hst.1)]; rfl)))) (by decide) ?_
        refine WL.nl (.thn ?_)
        refine WP.condF rfl ?_
        refine WP.sk (.blk (.thn ?_))
        refine WP.region ?_
        refine WL.op (mv (ot rfl)) (by decide) ?_
        refine WL.op (add (ot rfl) (oc _) (by omega)) (by decide) ?_
        refine WL.op (asg (ot rfl)) (by decide) ?_
        exact WL.nl (.again (j + 1) (by omega) (by omega) (Sub.ofD 0 rfl (Sub.cons rfl (imp_eq (congrArg I (by omega))) (Sub.cons rfl (imp  _) (Sub.cons rfl (imp  _) (Sub.cons rfl (imp  _) (Sub.cons rfl (imp  _) (Sub.cons rfl (imp  _) (Sub.cons rfl (imp  _) (Sub.cons rfl (imp  _) (Sub.cons rfl (imp  _) Sub.nil)))))))))))
      · skip
        obtain rfl : j = 31 := by have := of_decide_eq_false hc; omega
        have hli := li_run hs.2 31 (by omega)
        generalize lm ((fCreate (fNew m).1 vN n r).1, (rCreate (rNew m).1 vN n r).1) 31 = q at hli ⊢
        have hll : (nms q.2).length = 32 := by have := hli.len; rw [List.length_map]; exact this
        refine WP.xt (.xthn (.xthn (.xin (.thn ?_))))
        refine WP.seq ?_
        refine WP.region ?_
        refine WL.op (lbs 1 rfl ag_family_Family (ot rfl) (le_ rfl)) (by decide) ?_
        refine WL.op (call (c_family_Family_Clone (s := vN) (o := wN) (by decide) hli.rel.fw) (.c (ot rfl) (.c (oc _) (.c (oc _) .n)))) (by decide) ?_
        refine WL.op (mv (ot rfl)) (by decide) ?_
        refine WL.op (ex (ot rfl) rfl) (by decide) ?_
        refine WL.op (ex (ot rfl) rfl) (by decide) ?_
        refine WL.alloc zr_family_Family rfl (by decide) fun b15 => ?_
        refine WL.store 0 rfl (ot rfl) (ot rfl) (.agg _) sz_family_Family rfl (le_ rfl) ?_
        refine WL.op (asg (ot rfl)) (by decide) ?_
        refine WL.nl (.thn ?_)
        refine WP.seq ?_
        refine WP.region ?_
        refine WL.op (lbs 2 rfl ag_family_Family (ot rfl) (le_ rfl)) (by decide) ?_
        refine WL.op (call (c_family_Family_Create (s := wN) (by decide)) (.c (ot rfl) (.c (oc _) (.c (oc _) (.c (oc _) .n))))) (by decide) ?_
        refine WL.op (mv (ot rfl)) (by decide) ?_
        refine WL.op (ex (ot rfl) rfl) (by decide) ?_
        refine WL.op (ex (ot rfl) rfl) (by decide) ?_
        refine WL.alloc zr_family_Family rfl (by decide) fun b17 => ?_
        refine WL.store 0 rfl (ot rfl) (ot rfl) (.agg _) sz_family_Family rfl (le_ rfl) ?_
        refine WL.op (asg (ot rfl)) (by decide) ?_
        refine WL.nl (.thn ?_)
        refine WP.seq ?_
        refine WP.region ?_
        refine WL.op (lbs 3 rfl ag_family_Family (ot rfl) (le_ rfl)) (by decide) ?_
        refine WL.op (call (cr_Names hli.rel) (.c (ot rfl) .n)) (by decide) ?_
        refine WL.op (asg (ot rfl)) (by decide) ?_
        refine WL.nl (.thn ?_)
        refine WP.seq ?_
        refine WP.seq ?_
        refine WP.region ?_
        refine WL.op (mv (ot rfl)) (by decide) ?_
        refine WL.op (OpG.weak (R' := val (.bool false)) (neq  (ot rfl) (oc _)) (imp_eq (congrArg (fun b => val (.bool b)) (by rw [decide_eq_true (Eq.refl (0 : Int))]; rfl)))) (by decide) ?_
        refine WL.op (mv (ot rfl)) (by decide) ?_
        refine WL.gT rfl rfl ?_ -- g2
        refine WL.op (mv (ot rfl)) (by decide) ?_
        refine WL.gT rfl rfl ?_ -- g2
        refine WL.op (OpG.weak (R' := val (.bool false)) (neq  (ot rfl) (oc _)) (imp_eq (congrArg (fun b => val (.bool b)) (by rw [decide_eq_true (Eq.refl (0 : Int))]; rfl)))) (by decide) ?_
        refine WL.op (pickF (ot rfl) (ot rfl)) (by decide) ?_
        refine WL.op (mv (ot rfl)) (by decide) ?_
        refine WL.gT rfl rfl ?_ -- g6
        refine WL.op (mv (ot rfl)) (by decide) ?_
        refine WL.gT rfl rfl ?_ -- g6
        refine WL.op (OpG.weak (R' := val (.bool false)) (neq  (ot rfl) (oc _)) (imp_eq (congrArg (fun b => val (.bool b)) (by rw [decide_eq_true (Eq.refl (0 : Int))]; rfl)))) (by decide) ?_
        refine WL.op (pickF (ot rfl) (ot rfl)) (by decide) ?_
        refine WL.op (mv (ot rfl)) (by decide) ?_
        refine WL.gT rfl rfl ?_ -- g10
        refine WL.op (mv (ot rfl)) (by decide) ?_
        refine WL.gT rfl rfl ?_ -- g10
        refine WL.op (OpG.weak (R' := val (.bool false)) (neq  (ot rfl) (oc _)) (imp_eq (congrArg (fun b => val (.bool b)) (by rw [decide_eq_true (li_clone hli)]; rfl)))) (by decide) ?_
        refine WL.op (pickF (ot rfl) (ot rfl)) (by decide) ?_
        refine WL.op (mv (ot rfl)) (by decide) ?_
        refine WL.gT rfl rfl ?_ -- g14
        refine WL.op (mv (ot rfl)) (by decide) ?_
        refine WL.gT rfl rfl ?_ -- g14
        refine WL.op (OpG.weak (R' := val (.bool false)) (neq  (ot rfl) (oc _)) (imp_eq (congrArg (fun b => val (.bool b)) (by rw [decide_eq_true (li_create hli)]; rfl)))) (by decide) ?_
        refine WL.op (pickF (ot rfl) (ot rfl)) (by decide) ?_
        refine WL.op (mv (ot rfl)) (by decide) ?_
        refine WL.gT rfl rfl ?_ -- g18
        refine WL.op (mv (ot rfl)) (by decide) ?_
        refine WL.gT rfl rfl ?_ -- g18
        refine WL.op (len_ us_s_string (ot rfl)) (by decide) ?_
        refine WL.gT rfl rfl ?_ -- g18
        refine WL.op (OpG.weak (R' := val (.bool false)) (neq  (ot rfl) (oc _)) (imp_eq (congrArg (fun b => val (.bool b)) (by rw [decide_eq_true (by omega)]; rfl)))) (by decide) ?_
        refine WL.op (pickF (ot rfl) (ot rfl)) (by decide) ?_
        refine WL.op (mv (ot rfl)) (by decide) ?_
        refine WL.gT rfl rfl ?_ -- g23
        refine WL.op (lbs 2 rfl ag_VolumeInfo (ot rfl) (le_ rfl)) (by decide) ?_
        refine WL.gT rfl rfl ?_ -- g23
        refine WL.op (mv (ot rfl)) (by decide) ?_
        refine WL.gT rfl rfl ?_ -- g23
        refine WL.op (mv (ot rfl)) (by decide) ?_
        refine WL.gT rfl rfl ?_ -- g23
        refine WL.op (bld zr_VolumeInfo rfl ps_VolumeInfo (.c (oc _) (.leaf (.val rfl)) pl_VolumeInfo_0 rfl (le_ rfl) (.c (ot rfl) (.leaf (.val rfl)) pl_VolumeInfo_1 rfl (le_ rfl) (.c (ot rfl) (.leaf (.val rfl)) pl_VolumeInfo_2 rfl (le_ rfl) .n)))) (by decide) ?_
        refine WL.gT rfl rfl ?_ -- g23
        refine WL.op (OpG.weak (R' := val (.bool false)) (nep (us := [.s vN, .i n, .i r, .i 0, .i 0]) (cs := [.s vN, .i n, .i r, .i 0, .i 0]) pF_VolumeInfo rfl rfl (ot  rfl) (ot rfl)) (imp_eq (congrArg (fun b => val (.bool b)) (by rw [decide_eq_true rfl]; rfl)))) (by decide) ?_
        refine WL.op (pickF (ot rfl) (ot rfl)) (by decide) ?_
        refine WL.nl (.thn ?_)
        refine WP.condF rfl ?_
        refine WP.sk (.thn ?_)
        refine WP.seq ?_
        refine WP.seq ?_
        refine WP.region ?_
        refine WL.op (asg (oc _)) (by decide) ?_
        refine WL.nl (.thn ?_)
        refine WP.block ?_
        refine WP.loop (fun y : Nat => []) (fun y => [(20, I ((y : Int) + 1)), (19, sl 1 FNm (nms q.2))]) (fun y => y ≤ 31) (fun y => 31 - y) 0 (by omega) (Sub.ofD 5 rfl (Sub.cons rfl (imp_eq rfl) (Sub.cons rfl (imp  _) Sub.nil))) (fun i hi => ?_)
        replace hi : i ≤ 31 := hi
        show WP _ _ _ _ [] [(20, I ((i : Int) + 1)), (19, sl 1 FNm (nms q.2))] _ _
        refine WP.seq ?_
        refine WP.seq ?_
        refine WP.region ?_
        refine WL.op (mv (ot rfl)) (by decide) ?_
        refine WL.op (mv (ot rfl)) (by decide) ?_
        refine WL.op (len_ us_s_string (ot rfl)) (by decide) ?_
        refine WL.op (lss (ot rfl) (ot rfl)) (by decide) ?_
        refine WL.nl (.thn ?_)
        refine WP.cond rfl (fun hc => ?_) (fun hc => ?_)
        · skip
          have hc1 : i + 1 < (nms q.2).length := by have := of_decide_eq_true hc; omega
          refine WP.sk (.thn ?_)
          refine WP.seq ?_
          refine WP.block ?_
          refine WP.seq ?_
          refine WP.draws ?_
          refine RG.op (mv (ot rfl)) ?_
          refine RG.op (mv (ot rfl)) ?_
          refine RG.op (sub (ot rfl) (oc _) (by omega)) ?_
          refine RG.op (OpG.weak (R' := at_ (FNm ((nms q.2).getD (i : Int).toNat default))) (ixd el_s_string (ot rfl) (ot  rfl) (by omega) (by omega)) (imp_eq (by rw [show (((i : Nat) : Int) + 1 - 1) = (i : Int) from by omega]))) ?_
          refine RG.op (ld sc_string (ot rfl)) ?_
          refine RG.op (mv (ot rfl)) ?_
          refine RG.op (mv (ot rfl)) ?_
          refine RG.op (ixd el_s_string (ot rfl) (ot rfl) (by omega) (by omega)) ?_
          refine RG.op (ld sc_string (ot rfl)) ?_
          refine RG.op (OpG.weak (R' := val (.bool false)) (sgeq (ot rfl) (ot rfl)) (imp_eq (congrArg (fun b => val (.bool b)) (nms_ge (i := i) hli.rel.ok (by omega))))) ?_
          refine RG.fin HM (by kernel_rfl) ?_
          show WL _ _ _ _ _ _ _ _ _
          refine WL.nl (.thn ?_)
          refine WP.condF rfl ?_
          refine WP.sk (.blk (.thn ?_))
          refine WP.region ?_
          refine WL.op (mv (ot rfl)) (by decide) ?_
          refine WL.op (add (ot rfl) (oc _) (by omega)) (by decide) ?_
          refine WL.op (asg (ot rfl)) (by decide) ?_
          exact WL.nl (.again (i + 1) (by omega) (by omega) (Sub.ofD 0 rfl (Sub.cons rfl (imp_eq (congrArg I (by omega))) (Sub.cons rfl (imp  _) Sub.nil))))
        · skip
          refine WP.xt (.xthn (.xthn (.xin (.thn ?_))))
          refine WP.seq ?_
          refine WP.region ?_
          refine WL.op (asg (oc _)) (by decide) ?_
          refine WL.nl (.thn ?_)
          exact WP.rt (.r1 rfl rfl (imp _))
end Go.Proofs.YtjglgfnhgehpeaaGreat

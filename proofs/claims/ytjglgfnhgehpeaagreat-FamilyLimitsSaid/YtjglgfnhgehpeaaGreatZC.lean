/- Parts: R36e, Lay9, L36. -/
import Derived.Test.YtjglgfnhgehpeaaGreatZB
import Derived.Test.YtjglgfnhgehpeaaGreatZw
import Derived.Test.YtjglgfnhgehpeaaGreatZt
import Derived.Test.YtjglgfnhgehpeaaGreatZh
import Derived.Test.YtjglgfnhgehpeaaGreatZg
import Derived.Test.YtjglgfnhgehpeaaGreatZs
/- Steps, by the reference and by the code; scripts. -/
set_option linter.unusedVariables false
set_option linter.unusedSimpArgs false
set_option maxRecDepth 4000
namespace Go.Proofs.YtjglgfnhgehpeaaGreat
open Go.RowKit Go.Fw Go.Xt
theorem nm_size (n : Int) : (nm n).size ≤ 9223372036854775807 := by
  unfold nm
  split
  · decide
  · show (1 : Nat) ≤ _; omega
theorem getS_mem {sc : List St6} {i : Nat} (hi : i < sc.length) : sc.getD (i : Int).toNat default ∈ sc := by
  rw [show ((i : Nat) : Int).toNat = i from by omega, List.getD_eq_getElem?_getD, List.getElem?_eq_getElem hi]; exact List.getElem_mem hi
theorem run_all {k : Nat} {sc : List St6} {i : Nat} (hi : sc.length ≤ i) : runP k (sc.take i) = runP k sc := by rw [List.take_of_length_le hi]
theorem rA0 {g : RF} {t : St6} (h : t.k % 8 = 0) : rApply g t = ((rCreate g (nm t.v) t.n t.a).1, [], (rCreate g (nm t.v) t.n t.a).2) := if_pos h
theorem rA1 {g : RF} {t : St6} (h0 : ¬ t.k % 8 = 0) (h : t.k % 8 = 1) : rApply g t = ((rClone g (nm t.v) (nm t.o)).1, [], (rClone g (nm t.v) (nm t.o)).2) := by unfold rApply; rw [if_neg h0, if_pos h]
theorem rA2 {g : RF} {t : St6} (h0 : ¬ t.k % 8 = 0) (h1 : ¬ t.k % 8 = 1) (h : t.k % 8 = 2) : rApply g t = rDelete g (nm t.v) := by unfold rApply; rw [if_neg h0, if_neg h1, if_pos h]
theorem rA3 {g : RF} {t : St6} (h0 : ¬ t.k % 8 = 0) (h1 : ¬ t.k % 8 = 1) (h2 : ¬ t.k % 8 = 2) (h : t.k % 8 = 3) : rApply g t = rUnmap g (nm t.v) t.a t.n := by unfold rApply; rw [if_neg h0, if_neg h1, if_neg h2, if_pos h]
theorem rA4 {g : RF} {t : St6} (h0 : ¬ t.k % 8 = 0) (h1 : ¬ t.k % 8 = 1) (h2 : ¬ t.k % 8 = 2) (h : ¬ t.k % 8 = 3) : rApply g t = rAssign g (nm t.v) t.x := by unfold rApply; rw [if_neg h0, if_neg h1, if_neg h2, if_neg h]
theorem fA0 {g : Fam} {t : St6} (h : t.k % 8 = 0) : fApply g t = ((fCreate g (nm t.v) t.n t.a).1, [], (fCreate g (nm t.v) t.n t.a).2) := if_pos h
theorem fA1 {g : Fam} {t : St6} (h0 : ¬ t.k % 8 = 0) (h : t.k % 8 = 1) : fApply g t = ((fClone g (nm t.v) (nm t.o)).1, [], (fClone g (nm t.v) (nm t.o)).2) := by unfold fApply; rw [if_neg h0, if_pos h]
theorem fA2 {g : Fam} {t : St6} (h0 : ¬ t.k % 8 = 0) (h1 : ¬ t.k % 8 = 1) (h : t.k % 8 = 2) : fApply g t = fDelete g (nm t.v) := by unfold fApply; rw [if_neg h0, if_neg h1, if_pos h]
theorem fA3 {g : Fam} {t : St6} (h0 : ¬ t.k % 8 = 0) (h1 : ¬ t.k % 8 = 1) (h2 : ¬ t.k % 8 = 2) (h : t.k % 8 = 3) : fApply g t = fUnmap g (nm t.v) t.a t.n := by unfold fApply; rw [if_neg h0, if_neg h1, if_neg h2, if_pos h]
theorem fA4 {g : Fam} {t : St6} (h0 : ¬ t.k % 8 = 0) (h1 : ¬ t.k % 8 = 1) (h2 : ¬ t.k % 8 = 2) (h : ¬ t.k % 8 = 3) : fApply g t = fAssign g (nm t.v) t.x := by unfold fApply; rw [if_neg h0, if_neg h1, if_neg h2, if_neg h]

theorem c_r36_Family_Apply {g : RF} {t : St6} (h : GOk g) (hsm : Sm g) (ht : t.U8) : PureC Tryz.prog 35 [eG g, agg (FS6 t)] (tup [eG (rApply g t).1, sl 3 FX (rApply g t).2.1, I (rApply g t).2.2]) := by
  have hl0 : g.vs.length ≤ 1000 := by have := h.num; omega
  have hk := ht.k; have hv := ht.v; have ho := ht.o; have ha := ht.a; have hn := ht.n; have hs := ht.s
  refine PureC.of_wp Tryz.func35 (by kernel_rfl) rfl Tryz.ntmps35 (le_ rfl) (fun w0 M0 => ?_)
  refine WP.seq ?_
  refine WP.region ?_
  refine WL.box (ot rfl) (.agg _) (by decide) fun b2 => ?_
  refine WL.box (ot rfl) (.agg _) (by decide) fun b3 => ?_
  refine WL.alloc zr_ef36_Family rfl (by decide) fun b4 => ?_
  refine WL.op (asg (oc _)) (by decide) ?_
  refine WL.op (asg (oc _)) (by decide) ?_
  refine WL.nl (.thn ?_)
  refine WP.seq ?_
  refine WP.region ?_
  refine WL.op (fv fo_ef36_Step_1 (ot rfl)) (by decide) ?_
  refine WL.op (lb 1 rfl sc_uint8 (ot rfl) rfl) (by decide) ?_
  refine WL.op (call (c_r36_Names ht.v) (.c (ot rfl) .n)) (by decide) ?_
  refine WL.op (asg (ot rfl)) (by decide) ?_
  refine WL.nl (.thn ?_)
  refine WP.seq ?_
  refine WP.seq ?_
  refine WP.region ?_
  refine WL.op (fv fo_ef36_Step_0 (ot rfl)) (by decide) ?_
  refine WL.op (lb 1 rfl sc_uint8 (ot rfl) rfl) (by decide) ?_
  refine WL.op (rem_ (ot rfl) (oc _) (by omega) (by omega)) (by decide) ?_
  refine WL.nl (.thn ?_)
  refine WP.block ?_
  refine WP.seq ?_
  refine WP.region ?_
  refine WL.op (eql (ot rfl) (oc _)) (by decide) ?_
  refine WL.op (asg (ot rfl)) (by decide) ?_
  refine WL.nl (.thn ?_)
  refine WP.cond rfl (fun hc => ?_) (fun hc => ?_)
  · skip
    have h0 : t.k % 8 = 0 := of_decide_eq_true hc
    refine WP.seq ?_
    refine WP.region ?_
    refine WL.op (lbs 2 rfl ag_ef36_Family (ot rfl) (le_ rfl)) (by decide) ?_
    refine WL.op (mv (ot rfl)) (by decide) ?_
    refine WL.op (fv fo_ef36_Step_4 (ot rfl)) (by decide) ?_
    refine WL.op (lb 1 rfl sc_uint8 (ot rfl) rfl) (by decide) ?_
    refine WL.op (cv un_uint8 un_int (ot rfl) (IntWalk.i64_in _ (by omega))) (by decide) ?_
    refine WL.op (fv fo_ef36_Step_3 (ot rfl)) (by decide) ?_
    refine WL.op (lb 1 rfl sc_uint8 (ot rfl) rfl) (by decide) ?_
    refine WL.op (cv un_uint8 un_int (ot rfl) (IntWalk.i64_in _ (by omega))) (by decide) ?_
    refine WL.op (call (c_r36_Family_Create (nm_size _) hl0) (.c (ot rfl) (.c (ot rfl) (.c (ot rfl) (.c (ot rfl) .n))))) (by decide) ?_
    refine WL.op (mv (ot rfl)) (by decide) ?_
    refine WL.op (ex (ot rfl) rfl) (by decide) ?_
    refine WL.op (ex (ot rfl) rfl) (by decide) ?_
    refine WL.alloc zr_ef36_Family rfl (by decide) fun b8 => ?_
    refine WL.store 0 rfl (ot rfl) (ot rfl) (.agg _) sz_ef36_Family rfl (le_ rfl) ?_
    refine WL.op (asg (ot rfl)) (by decide) ?_
    refine WL.nl (.thn ?_)
    refine WP.seq ?_
    refine WP.region ?_
    refine WL.op (lbs 0 rfl ag_ef36_Family (ot rfl) (le_ rfl)) (by decide) ?_
    refine WL.op (mv (ot rfl)) (by decide) ?_
    refine WL.store 1 rfl (ot rfl) (ot rfl) (.agg _) sz_ef36_Family rfl (le_ rfl) ?_
    refine WL.op (asg (oc _)) (by decide) ?_
    refine WL.op (asg (ot rfl)) (by decide) ?_
    refine WL.nl (.thn ?_)
    exact WP.rt (.rblk (.rthn (.rN rfl (.cons (.bx 1 rfl rfl ag_ef36_Family) (.cons (.tm rfl) (.cons (.tm rfl) .nil))) (le_ rfl) (by rw [rA0 h0]; exact impT (.c (imp  _) (.c sl_nil (.c (imp  _) .n)))))))
  · skip
    have h0 : ¬ t.k % 8 = 0 := of_decide_eq_false hc
    refine WP.seq ?_
    refine WP.region ?_
    refine WL.op (eql (ot rfl) (oc _)) (by decide) ?_
    refine WL.op (asg (ot rfl)) (by decide) ?_
    refine WL.nl (.thn ?_)
    refine WP.cond rfl (fun hc => ?_) (fun hc => ?_)
    · skip
      have h1 : t.k % 8 = 1 := of_decide_eq_true hc
      refine WP.seq ?_
      refine WP.draws ?_
      refine RG.op (lbs 2 rfl ag_ef36_Family (ot rfl) (le_ rfl)) ?_
      refine RG.op (mv (ot rfl)) ?_
      refine RG.op (fv fo_ef36_Step_2 (ot rfl)) ?_
      refine RG.op (lb 1 rfl sc_uint8 (ot rfl) rfl) ?_
      refine RG.op (call (c_r36_Names ht.o) (.c (ot rfl) .n)) ?_
      refine RG.op (call (c_r36_Family_Clone (nm_size _) hl0) (.c (ot rfl) (.c (ot rfl) (.c (ot rfl) .n)))) ?_
      refine RG.op (mv (ot rfl)) ?_
      refine RG.op (ex (ot rfl) rfl) ?_
      refine RG.op (ex (ot rfl) rfl) ?_
      refine RG.bx (.alloc zr_ef36_Family rfl) ?_
      refine RG.ox 9 rfl rfl (OpO.store (ot rfl) (.agg _) sz_ef36_Family rfl rfl) ?_
      refine RG.op (asg (ot rfl)) ?_
      refine RG.fin HM (by kernel_rfl) ?_
      intro b10
      show WL _ _ _ _ _ _ _ _ _
      refine WL.nl (.thn ?_)
      refine WP.seq ?_
      refine WP.region ?_
      refine WL.op (lbs 0 rfl ag_ef36_Family (ot rfl) (le_ rfl)) (by decide) ?_
      refine WL.op (mv (ot rfl)) (by decide) ?_
      refine WL.store 1 rfl (ot rfl) (ot rfl) (.agg _) sz_ef36_Family rfl (le_ rfl) ?_
      refine WL.op (asg (oc _)) (by decide) ?_
      refine WL.op (asg (ot rfl)) (by decide) ?_
      refine WL.nl (.thn ?_)
      exact WP.rt (.rblk (.rthn (.rN rfl (.cons (.bx 1 rfl rfl ag_ef36_Family) (.cons (.tm rfl) (.cons (.tm rfl) .nil))) (le_ rfl) (by rw [rA1 h0 h1]; exact impT (.c (imp  _) (.c sl_nil (.c (imp  _) .n)))))))
    · skip
      have h1 : ¬ t.k % 8 = 1 := of_decide_eq_false hc
      refine WP.seq ?_
      refine WP.region ?_
      refine WL.op (eql (ot rfl) (oc _)) (by decide) ?_
      refine WL.op (asg (ot rfl)) (by decide) ?_
      refine WL.nl (.thn ?_)
      refine WP.cond rfl (fun hc => ?_) (fun hc => ?_)
      · skip
        have h2 : t.k % 8 = 2 := of_decide_eq_true hc
        refine WP.seq ?_
        refine WP.region ?_
        refine WL.op (lbs 2 rfl ag_ef36_Family (ot rfl) (le_ rfl)) (by decide) ?_
        refine WL.op (mv (ot rfl)) (by decide) ?_
        refine WL.op (call (c_r36_Family_Delete h) (.c (ot rfl) (.c (ot rfl) .n))) (by decide) ?_
        refine WL.op (ex (ot rfl) rfl) (by decide) ?_
        refine WL.op (ex (ot rfl) rfl) (by decide) ?_
        refine WL.op (ex (ot rfl) rfl) (by decide) ?_
        refine WL.store 0 rfl (ot rfl) (ot rfl) (.agg _) sz_ef36_Family rfl (le_ rfl) ?_
        refine WL.op (asg (ot rfl)) (by decide) ?_
        refine WL.op (asg (ot rfl)) (by decide) ?_
        refine WL.nl (.thn ?_)
        exact WP.rt (.rblk (.rthn (.rN rfl (.cons (.bx 0 rfl rfl ag_ef36_Family) (.cons (.tm rfl) (.cons (.tm rfl) .nil))) (le_ rfl) (by rw [rA2 h0 h1 h2]; exact imp  _))))
      · skip
        have h2 : ¬ t.k % 8 = 2 := of_decide_eq_false hc
        refine WP.seq ?_
        refine WP.region ?_
        refine WL.op (eql (ot rfl) (oc _)) (by decide) ?_
        refine WL.op (asg (ot rfl)) (by decide) ?_
        refine WL.nl (.thn ?_)
        refine WP.cond rfl (fun hc => ?_) (fun hc => ?_)
        · skip
          have h3 : t.k % 8 = 3 := of_decide_eq_true hc
          refine WP.seq ?_
          refine WP.region ?_
          refine WL.op (lbs 2 rfl ag_ef36_Family (ot rfl) (le_ rfl)) (by decide) ?_
          refine WL.op (mv (ot rfl)) (by decide) ?_
          refine WL.op (fv fo_ef36_Step_3 (ot rfl)) (by decide) ?_
          refine WL.op (lb 1 rfl sc_uint8 (ot rfl) rfl) (by decide) ?_
          refine WL.op (cv un_uint8 un_int (ot rfl) (IntWalk.i64_in _ (by omega))) (by decide) ?_
          refine WL.op (fv fo_ef36_Step_4 (ot rfl)) (by decide) ?_
          refine WL.op (lb 1 rfl sc_uint8 (ot rfl) rfl) (by decide) ?_
          refine WL.op (cv un_uint8 un_int (ot rfl) (IntWalk.i64_in _ (by omega))) (by decide) ?_
          refine WL.op (call (c_r36_Family_Unmap h hsm) (.c (ot rfl) (.c (ot rfl) (.c (ot rfl) (.c (ot rfl) .n))))) (by decide) ?_
          refine WL.op (ex (ot rfl) rfl) (by decide) ?_
          refine WL.op (ex (ot rfl) rfl) (by decide) ?_
          refine WL.op (ex (ot rfl) rfl) (by decide) ?_
          refine WL.store 0 rfl (ot rfl) (ot rfl) (.agg _) sz_ef36_Family rfl (le_ rfl) ?_
          refine WL.op (asg (ot rfl)) (by decide) ?_
          refine WL.op (asg (ot rfl)) (by decide) ?_
          refine WL.nl (.thn ?_)
          exact WP.rt (.rblk (.rthn (.rN rfl (.cons (.bx 0 rfl rfl ag_ef36_Family) (.cons (.tm rfl) (.cons (.tm rfl) .nil))) (le_ rfl) (by rw [rA3 h0 h1 h2 h3]; exact imp  _))))
        · skip
          have h3 : ¬ t.k % 8 = 3 := of_decide_eq_false hc
          refine WP.sk (.blk (.thn ?_))
          refine WP.seq ?_
          refine WP.region ?_
          refine WL.op (lbs 2 rfl ag_ef36_Family (ot rfl) (le_ rfl)) (by decide) ?_
          refine WL.op (mv (ot rfl)) (by decide) ?_
          refine WL.op (fv fo_ef36_Step_3 (ot rfl)) (by decide) ?_
          refine WL.op (lb 1 rfl sc_uint8 (ot rfl) rfl) (by decide) ?_
          refine WL.op (cv un_uint8 un_int (ot rfl) (IntWalk.i64_in _ (by omega))) (by decide) ?_
          refine WL.op (fv fo_ef36_Step_4 (ot rfl)) (by decide) ?_
          refine WL.op (lb 1 rfl sc_uint8 (ot rfl) rfl) (by decide) ?_
          refine WL.op (cv un_uint8 un_int (ot rfl) (IntWalk.i64_in _ (by omega))) (by decide) ?_
          refine WL.op (fv fo_ef36_Step_5 (ot rfl)) (by decide) ?_
          refine WL.op (lb 1 rfl sc_uint8 (ot rfl) rfl) (by decide) ?_
          refine WL.op (cv un_uint8 un_int (ot rfl) (IntWalk.i64_in _ (by omega))) (by decide) ?_
          refine WL.op (bld zr_Extent rfl ps_Extent (.c (ot rfl) (.leaf (.val rfl)) pl_Extent_0 rfl (le_ rfl) (.c (ot rfl) (.leaf (.val rfl)) pl_Extent_1 rfl (le_ rfl) (.c (ot rfl) (.leaf (.val rfl)) pl_Extent_2 rfl (le_ rfl) .n)))) (by decide) ?_
          refine WL.op (call (c_r36_Family_Assign (x := t.x) h hsm) (.c (ot rfl) (.c (ot rfl) (.c (ot rfl) .n)))) (by decide) ?_
          refine WL.op (ex (ot rfl) rfl) (by decide) ?_
          refine WL.op (ex (ot rfl) rfl) (by decide) ?_
          refine WL.op (ex (ot rfl) rfl) (by decide) ?_
          refine WL.store 0 rfl (ot rfl) (ot rfl) (.agg _) sz_ef36_Family rfl (le_ rfl) ?_
          refine WL.op (asg (ot rfl)) (by decide) ?_
          refine WL.op (asg (ot rfl)) (by decide) ?_
          refine WL.nl (.thn ?_)
          exact WP.rt (.rN rfl (.cons (.bx 0 rfl rfl ag_ef36_Family) (.cons (.tm rfl) (.cons (.tm rfl) .nil))) (le_ rfl) (by rw [rA4 h0 h1 h2 h3]; exact imp  _))
theorem c_w36_apply {f : Fam} {t : St6} (h : Fw0 f) (ht : t.U8) : PureC Tryz.prog 24 [eF f, agg (FS6 t)] (tup [eF (fApply f t).1, sl 3 FX (fApply f t).2.1, I (fApply f t).2.2]) := by
  have hk := ht.k; have hv := ht.v; have ho := ht.o; have ha := ht.a; have hn := ht.n; have hs := ht.s
  refine PureC.of_wp Tryz.func24 (by kernel_rfl) rfl Tryz.ntmps24 (le_ rfl) (fun w0 M0 => ?_)
  refine WP.seq ?_
  refine WP.region ?_
  refine WL.box (ot rfl) (.agg _) (by decide) fun b2 => ?_
  refine WL.box (ot rfl) (.agg _) (by decide) fun b3 => ?_
  refine WL.alloc zr_family_Family rfl (by decide) fun b4 => ?_
  refine WL.op (asg (oc _)) (by decide) ?_
  refine WL.op (asg (oc _)) (by decide) ?_
  refine WL.nl (.thn ?_)
  refine WP.seq ?_
  refine WP.region ?_
  refine WL.op (fv fo_ef36_Step_1 (ot rfl)) (by decide) ?_
  refine WL.op (lb 1 rfl sc_uint8 (ot rfl) rfl) (by decide) ?_
  refine WL.op (call (c_r36_Names ht.v) (.c (ot rfl) .n)) (by decide) ?_
  refine WL.op (asg (ot rfl)) (by decide) ?_
  refine WL.nl (.thn ?_)
  refine WP.seq ?_
  refine WP.seq ?_
  refine WP.region ?_
  refine WL.op (fv fo_ef36_Step_0 (ot rfl)) (by decide) ?_
  refine WL.op (lb 1 rfl sc_uint8 (ot rfl) rfl) (by decide) ?_
  refine WL.op (rem_ (ot rfl) (oc _) (by omega) (by omega)) (by decide) ?_
  refine WL.nl (.thn ?_)
  refine WP.block ?_
  refine WP.seq ?_
  refine WP.region ?_
  refine WL.op (eql (ot rfl) (oc _)) (by decide) ?_
  refine WL.op (asg (ot rfl)) (by decide) ?_
  refine WL.nl (.thn ?_)
  refine WP.cond rfl (fun hc => ?_) (fun hc => ?_)
  · skip
    have h0 : t.k % 8 = 0 := of_decide_eq_true hc
    refine WP.seq ?_
    refine WP.region ?_
    refine WL.op (lbs 2 rfl ag_family_Family (ot rfl) (le_ rfl)) (by decide) ?_
    refine WL.op (mv (ot rfl)) (by decide) ?_
    refine WL.op (fv fo_ef36_Step_4 (ot rfl)) (by decide) ?_
    refine WL.op (lb 1 rfl sc_uint8 (ot rfl) rfl) (by decide) ?_
    refine WL.op (cv un_uint8 un_int (ot rfl) (IntWalk.i64_in _ (by omega))) (by decide) ?_
    refine WL.op (fv fo_ef36_Step_3 (ot rfl)) (by decide) ?_
    refine WL.op (lb 1 rfl sc_uint8 (ot rfl) rfl) (by decide) ?_
    refine WL.op (cv un_uint8 un_int (ot rfl) (IntWalk.i64_in _ (by omega))) (by decide) ?_
    refine WL.op (call (c_family_Family_Create (nm_size _)) (.c (ot rfl) (.c (ot rfl) (.c (ot rfl) (.c (ot rfl) .n))))) (by decide) ?_
    refine WL.op (mv (ot rfl)) (by decide) ?_
    refine WL.op (ex (ot rfl) rfl) (by decide) ?_
    refine WL.op (ex (ot rfl) rfl) (by decide) ?_
    refine WL.alloc zr_family_Family rfl (by decide) fun b8 => ?_
    refine WL.store 0 rfl (ot rfl) (ot rfl) (.agg _) sz_family_Family rfl (le_ rfl) ?_
    refine WL.op (asg (ot rfl)) (by decide) ?_
    refine WL.nl (.thn ?_)
    refine WP.seq ?_
    refine WP.region ?_
    refine WL.op (lbs 0 rfl ag_family_Family (ot rfl) (le_ rfl)) (by decide) ?_
    refine WL.op (mv (ot rfl)) (by decide) ?_
    refine WL.store 1 rfl (ot rfl) (ot rfl) (.agg _) sz_family_Family rfl (le_ rfl) ?_
    refine WL.op (asg (oc _)) (by decide) ?_
    refine WL.op (asg (ot rfl)) (by decide) ?_
    refine WL.nl (.thn ?_)
    exact WP.rt (.rblk (.rthn (.rN rfl (.cons (.bx 1 rfl rfl ag_family_Family) (.cons (.tm rfl) (.cons (.tm rfl) .nil))) (le_ rfl) (by rw [fA0 h0]; exact impT (.c (imp  _) (.c sl_nil (.c (imp  _) .n)))))))
  · skip
    have h0 : ¬ t.k % 8 = 0 := of_decide_eq_false hc
    refine WP.seq ?_
    refine WP.region ?_
    refine WL.op (eql (ot rfl) (oc _)) (by decide) ?_
    refine WL.op (asg (ot rfl)) (by decide) ?_
    refine WL.nl (.thn ?_)
    refine WP.cond rfl (fun hc => ?_) (fun hc => ?_)
    · skip
      have h1 : t.k % 8 = 1 := of_decide_eq_true hc
      refine WP.seq ?_
      refine WP.draws ?_
      refine RG.op (lbs 2 rfl ag_family_Family (ot rfl) (le_ rfl)) ?_
      refine RG.op (mv (ot rfl)) ?_
      refine RG.op (fv fo_ef36_Step_2 (ot rfl)) ?_
      refine RG.op (lb 1 rfl sc_uint8 (ot rfl) rfl) ?_
      refine RG.op (call (c_r36_Names ht.o) (.c (ot rfl) .n)) ?_
      refine RG.op (call (c_family_Family_Clone (nm_size _) h) (.c (ot rfl) (.c (ot rfl) (.c (ot rfl) .n)))) ?_
      refine RG.op (mv (ot rfl)) ?_
      refine RG.op (ex (ot rfl) rfl) ?_
      refine RG.op (ex (ot rfl) rfl) ?_
      refine RG.bx (.alloc zr_family_Family rfl) ?_
      refine RG.ox 9 rfl rfl (OpO.store (ot rfl) (.agg _) sz_family_Family rfl rfl) ?_
      refine RG.op (asg (ot rfl)) ?_
      refine RG.fin HM (by kernel_rfl) ?_
      intro b10
      show WL _ _ _ _ _ _ _ _ _
      refine WL.nl (.thn ?_)
      refine WP.seq ?_
      refine WP.region ?_
      refine WL.op (lbs 0 rfl ag_family_Family (ot rfl) (le_ rfl)) (by decide) ?_
      refine WL.op (mv (ot rfl)) (by decide) ?_
      refine WL.store 1 rfl (ot rfl) (ot rfl) (.agg _) sz_family_Family rfl (le_ rfl) ?_
      refine WL.op (asg (oc _)) (by decide) ?_
      refine WL.op (asg (ot rfl)) (by decide) ?_
      refine WL.nl (.thn ?_)
      exact WP.rt (.rblk (.rthn (.rN rfl (.cons (.bx 1 rfl rfl ag_family_Family) (.cons (.tm rfl) (.cons (.tm rfl) .nil))) (le_ rfl) (by rw [fA1 h0 h1]; exact impT (.c (imp  _) (.c sl_nil (.c (imp  _) .n)))))))
    · skip
      have h1 : ¬ t.k % 8 = 1 := of_decide_eq_false hc
      refine WP.seq ?_
      refine WP.region ?_
      refine WL.op (eql (ot rfl) (oc _)) (by decide) ?_
      refine WL.op (asg (ot rfl)) (by decide) ?_
      refine WL.nl (.thn ?_)
      refine WP.cond rfl (fun hc => ?_) (fun hc => ?_)
      · skip
        have h2 : t.k % 8 = 2 := of_decide_eq_true hc
        refine WP.seq ?_
        refine WP.region ?_
        refine WL.op (lbs 2 rfl ag_family_Family (ot rfl) (le_ rfl)) (by decide) ?_
        refine WL.op (mv (ot rfl)) (by decide) ?_
        refine WL.op (call (c_family_Family_Delete h) (.c (ot rfl) (.c (ot rfl) .n))) (by decide) ?_
        refine WL.op (ex (ot rfl) rfl) (by decide) ?_
        refine WL.op (ex (ot rfl) rfl) (by decide) ?_
        refine WL.op (ex (ot rfl) rfl) (by decide) ?_
        refine WL.store 0 rfl (ot rfl) (ot rfl) (.agg _) sz_family_Family rfl (le_ rfl) ?_
        refine WL.op (asg (ot rfl)) (by decide) ?_
        refine WL.op (asg (ot rfl)) (by decide) ?_
        refine WL.nl (.thn ?_)
        exact WP.rt (.rblk (.rthn (.rN rfl (.cons (.bx 0 rfl rfl ag_family_Family) (.cons (.tm rfl) (.cons (.tm rfl) .nil))) (le_ rfl) (by rw [fA2 h0 h1 h2]; exact imp  _))))
      · skip
        have h2 : ¬ t.k % 8 = 2 := of_decide_eq_false hc
        refine WP.seq ?_
        refine WP.region ?_
        refine WL.op (eql (ot rfl) (oc _)) (by decide) ?_
        refine WL.op (asg (ot rfl)) (by decide) ?_
        refine WL.nl (.thn ?_)
        refine WP.cond rfl (fun hc => ?_) (fun hc => ?_)
        · skip
          have h3 : t.k % 8 = 3 := of_decide_eq_true hc
          refine WP.seq ?_
          refine WP.region ?_
          refine WL.op (lbs 2 rfl ag_family_Family (ot rfl) (le_ rfl)) (by decide) ?_
          refine WL.op (mv (ot rfl)) (by decide) ?_
          refine WL.op (fv fo_ef36_Step_3 (ot rfl)) (by decide) ?_
          refine WL.op (lb 1 rfl sc_uint8 (ot rfl) rfl) (by decide) ?_
          refine WL.op (cv un_uint8 un_int (ot rfl) (IntWalk.i64_in _ (by omega))) (by decide) ?_
          refine WL.op (fv fo_ef36_Step_4 (ot rfl)) (by decide) ?_
          refine WL.op (lb 1 rfl sc_uint8 (ot rfl) rfl) (by decide) ?_
          refine WL.op (cv un_uint8 un_int (ot rfl) (IntWalk.i64_in _ (by omega))) (by decide) ?_
          refine WL.op (call (c_family_Family_Unmap h) (.c (ot rfl) (.c (ot rfl) (.c (ot rfl) (.c (ot rfl) .n))))) (by decide) ?_
          refine WL.op (ex (ot rfl) rfl) (by decide) ?_
          refine WL.op (ex (ot rfl) rfl) (by decide) ?_
          refine WL.op (ex (ot rfl) rfl) (by decide) ?_
          refine WL.store 0 rfl (ot rfl) (ot rfl) (.agg _) sz_family_Family rfl (le_ rfl) ?_
          refine WL.op (asg (ot rfl)) (by decide) ?_
          refine WL.op (asg (ot rfl)) (by decide) ?_
          refine WL.nl (.thn ?_)
          exact WP.rt (.rblk (.rthn (.rN rfl (.cons (.bx 0 rfl rfl ag_family_Family) (.cons (.tm rfl) (.cons (.tm rfl) .nil))) (le_ rfl) (by rw [fA3 h0 h1 h2 h3]; exact imp  _))))
        · skip
          have h3 : ¬ t.k % 8 = 3 := of_decide_eq_false hc
          refine WP.sk (.blk (.thn ?_))
          refine WP.seq ?_
          refine WP.region ?_
          refine WL.op (lbs 2 rfl ag_family_Family (ot rfl) (le_ rfl)) (by decide) ?_
          refine WL.op (mv (ot rfl)) (by decide) ?_
          refine WL.op (fv fo_ef36_Step_3 (ot rfl)) (by decide) ?_
          refine WL.op (lb 1 rfl sc_uint8 (ot rfl) rfl) (by decide) ?_
          refine WL.op (cv un_uint8 un_int (ot rfl) (IntWalk.i64_in _ (by omega))) (by decide) ?_
          refine WL.op (fv fo_ef36_Step_4 (ot rfl)) (by decide) ?_
          refine WL.op (lb 1 rfl sc_uint8 (ot rfl) rfl) (by decide) ?_
          refine WL.op (cv un_uint8 un_int (ot rfl) (IntWalk.i64_in _ (by omega))) (by decide) ?_
          refine WL.op (fv fo_ef36_Step_5 (ot rfl)) (by decide) ?_
          refine WL.op (lb 1 rfl sc_uint8 (ot rfl) rfl) (by decide) ?_
          refine WL.op (cv un_uint8 un_int (ot rfl) (IntWalk.i64_in _ (by omega))) (by decide) ?_
          refine WL.op (bld zr_Extent rfl ps_Extent (.c (ot rfl) (.leaf (.val rfl)) pl_Extent_0 rfl (le_ rfl) (.c (ot rfl) (.leaf (.val rfl)) pl_Extent_1 rfl (le_ rfl) (.c (ot rfl) (.leaf (.val rfl)) pl_Extent_2 rfl (le_ rfl) .n)))) (by decide) ?_
          refine WL.op (call (c_family_Family_Assign (x := t.x) h) (.c (ot rfl) (.c (ot rfl) (.c (ot rfl) .n)))) (by decide) ?_
          refine WL.op (ex (ot rfl) rfl) (by decide) ?_
          refine WL.op (ex (ot rfl) rfl) (by decide) ?_
          refine WL.op (ex (ot rfl) rfl) (by decide) ?_
          refine WL.store 0 rfl (ot rfl) (ot rfl) (.agg _) sz_family_Family rfl (le_ rfl) ?_
          refine WL.op (asg (ot rfl)) (by decide) ?_
          refine WL.op (asg (ot rfl)) (by decide) ?_
          refine WL.nl (.thn ?_)
          exact WP.rt (.rN rfl (.cons (.bx 0 rfl rfl ag_family_Family) (.cons (.tm rfl) (.cons (.tm rfl) .nil))) (le_ rfl) (by rw [fA4 h0 h1 h2 h3]; exact imp  _))
theorem c_r36_Run {k : Nat} {sc : List St6} (hk : k ≤ 65536) (hl : sc.length ≤ 100000) (ht : ∀ t ∈ sc, t.U8) : PureC Tryz.prog 91 [I (k : Int), sl 6 FS6 sc] (eG (runP k sc).2) := by
  refine PureC.of_wp Tryz.func91 (by kernel_rfl) rfl Tryz.ntmps91 (le_ rfl) (fun w0 M0 => ?_)
  refine WP.seq ?_
  refine WP.region ?_
  refine WL.alloc zr_ef36_Family rfl (by decide) fun b4 => ?_
  refine WL.nl (.thn ?_)
  refine WP.seq ?_
  refine WP.region ?_
  refine WL.op (mv (ot rfl)) (by decide) ?_
  refine WL.op (call (c_r36_New hk) (.c (ot rfl) .n)) (by decide) ?_
  refine WL.op (mv (ot rfl)) (by decide) ?_
  refine WL.op (ex (ot rfl) rfl) (by decide) ?_
  refine WL.op (ex (ot rfl) rfl) (by decide) ?_
  refine WL.alloc zr_ef36_Family rfl (by decide) fun b5 => ?_
  refine WL.store 0 rfl (ot rfl) (ot rfl) (.agg _) sz_ef36_Family rfl (le_ rfl) ?_
  refine WL.op (asg (ot rfl)) (by decide) ?_
  refine WL.nl (.thn ?_)
  refine WP.seq ?_
  refine WP.seq ?_
  refine WP.region ?_
  refine WL.op (asg (oc _)) (by decide) ?_
  refine WL.nl (.thn ?_)
  refine WP.block ?_
  refine WP.loop (fun y : Nat => [.b b5 45 [I ((runP k (sc.take y)).2.k : Int), sl 4 FRV (runP k (sc.take y)).2.vs], .b b4 45 [I 0, val nilS]]) (fun y => [(7, I (y : Int)), (5, val (.pointer (some ⟨b5, 0, none⟩))), (4, val (.pointer (some ⟨b4, 0, none⟩))), (1, sl 6 FS6 sc)]) (fun y => y ≤ sc.length) (fun y => sc.length - y) 0 (Nat.zero_le _) (Sub.ofD 0 rfl (Sub.cons rfl (imp_eq rfl) (Sub.cons rfl (imp  _) (Sub.cons rfl (imp  _) (Sub.cons rfl (imp  _) Sub.nil))))) (fun i hi => ?_)
  replace hi : i ≤ sc.length := hi
  show WP _ _ _ _ [.b b5 45 [I ((runP k (sc.take i)).2.k : Int), sl 4 FRV (runP k (sc.take i)).2.vs], .b b4 45 [I 0, val nilS]] [(7, I (i : Int)), (5, val (.pointer (some ⟨b5, 0, none⟩))), (4, val (.pointer (some ⟨b4, 0, none⟩))), (1, sl 6 FS6 sc)] _ _
  refine WP.seq ?_
  refine WP.seq ?_
  refine WP.region ?_
  refine WL.op (mv (ot rfl)) (by decide) ?_
  refine WL.op (mv (ot rfl)) (by decide) ?_
  refine WL.op (len_ us_s_tegularef36_Step (ot rfl)) (by decide) ?_
  refine WL.op (lss (ot rfl) (ot rfl)) (by decide) ?_
  refine WL.nl (.thn ?_)
  refine WP.cond rfl (fun hc => ?_) (fun hc => ?_)
  · skip
    have hc1 : i < sc.length := by have := of_decide_eq_true hc; omega
    have hrs := run_rs (sc := sc.take i) hk fun t h => ht t (List.mem_of_mem_take h)
    refine WP.sk (.thn ?_)
    refine WP.seq ?_
    refine WP.block ?_
    refine WP.seq ?_
    refine WP.draws ?_
    refine RG.op (lbs 0 rfl ag_ef36_Family (ot rfl) (le_ rfl)) ?_
    refine RG.op (mv (ot rfl)) ?_
    refine RG.op (mv (ot rfl)) ?_
    refine RG.op (ixd el_s_tegularef36_Step (ot rfl) (ot rfl) (by omega) (by omega)) ?_
    refine RG.op (ls ag_ef36_Step (ot rfl) (le_ rfl)) ?_
    refine RG.op (call (c_r36_Family_Apply hrs.rel.ok hrs.sm (ht _ (getS_mem hc1))) (.c (ot rfl) (.c (ot rfl) .n))) ?_
    refine RG.op (mv (ot rfl)) ?_
    refine RG.op (ex (ot rfl) rfl) ?_
    refine RG.op (ex (ot rfl) rfl) ?_
    refine RG.op (ex (ot rfl) rfl) ?_
    refine RG.bx (.alloc zr_ef36_Family rfl) ?_
    refine RG.ox 10 rfl rfl (OpO.store (ot rfl) (.agg _) sz_ef36_Family rfl rfl) ?_
    refine RG.op (asg (ot rfl)) ?_
    refine RG.op (asg (ot rfl)) ?_
    refine RG.fin HM (by kernel_rfl) ?_
    intro b8
    show WL _ _ _ _ _ _ _ _ _
    refine WL.nl (.thn ?_)
    refine WP.seq ?_
    refine WP.region ?_
    refine WL.op (mv (ot rfl)) (by decide) ?_
    refine WL.op (eql (ot rfl) (oc _)) (by decide) ?_
    refine WL.nl (.thn ?_)
    refine WP.cond rfl (fun hc => ?_) (fun hc => ?_)
    · skip
      have hz : (rApply (runP k (sc.take i)).2 (sc.getD (i : Int).toNat default)).2.2 = 0 := by simpa using hc
      refine WP.region ?_
      refine WL.op (lbs 0 rfl ag_ef36_Family (ot rfl) (le_ rfl)) (by decide) ?_
      refine WL.store 1 rfl (ot rfl) (ot rfl) (.agg _) sz_ef36_Family rfl (le_ rfl) ?_
      refine WL.nl (.blk (.thn ?_))
      refine WP.region ?_
      refine WL.op (mv (ot rfl)) (by decide) ?_
      refine WL.op (add (ot rfl) (oc _) (by omega)) (by decide) ?_
      refine WL.op (asg (ot rfl)) (by decide) ?_
      exact WL.nl (.again (i + 1) hc1 (by omega) (Sub.ofD 1 (by rw [run_step hc1]; unfold ap; rw [if_pos hz]; rfl) (Sub.cons rfl (imp_eq (congrArg I (by omega))) (Sub.cons rfl (imp  _) (Sub.cons rfl (imp  _) (Sub.cons rfl (imp  _) Sub.nil))))))
    · skip
      have hz : ¬ (rApply (runP k (sc.take i)).2 (sc.getD (i : Int).toNat default)).2.2 = 0 := by simpa using hc
      refine WP.sk (.blk (.thn ?_))
      refine WP.region ?_
      refine WL.op (mv (ot rfl)) (by decide) ?_
      refine WL.op (add (ot rfl) (oc _) (by omega)) (by decide) ?_
      refine WL.op (asg (ot rfl)) (by decide) ?_
      exact WL.nl (.again (i + 1) hc1 (by omega) (Sub.ofD 1 (by rw [run_step hc1]; unfold ap; rw [if_neg hz]; rfl) (Sub.cons rfl (imp_eq (congrArg I (by omega))) (Sub.cons rfl (imp  _) (Sub.cons rfl (imp  _) (Sub.cons rfl (imp  _) Sub.nil))))))
  · skip
    have hc1 : ¬ i < sc.length := by have := of_decide_eq_false hc; omega
    refine WP.xt (.xthn (.xthn (.xin (.thn ?_))))
    refine WP.seq ?_
    refine WP.region ?_
    refine WL.op (lbs 0 rfl ag_ef36_Family (ot rfl) (le_ rfl)) (by decide) ?_
    refine WL.store 1 rfl (ot rfl) (ot rfl) (.agg _) sz_ef36_Family rfl (le_ rfl) ?_
    refine WL.nl (.thn ?_)
    exact WP.rt (.rB rfl (.bx 1 rfl rfl ag_ef36_Family) (imp_eq (by rw [← run_all (k := k) (sc := sc) (i := i) (by omega)]; rfl)))
end Go.Proofs.YtjglgfnhgehpeaaGreat

/- Sizes and places of this program's types, each asked of the kernel. -/
namespace Go.Proofs.YtjglgfnhgehpeaaGreat
open Go.Fw
theorem el_s_string : elemSz Tryz.prog 39 = some 1 := by kernel_rfl
theorem us_s_string : Tryz.prog.underlying 39 = some (.slice 9) := by kernel_rfl
end Go.Proofs.YtjglgfnhgehpeaaGreat

/- The law of families: building both, and comparing them. -/
set_option linter.unusedVariables false
set_option linter.unusedSimpArgs false
set_option maxRecDepth 4000
namespace Go.Proofs.YtjglgfnhgehpeaaGreat
open Go.RowKit Go.Fw Go.Xt Go.Sort Go.Maps
theorem pure_weak {P : Program} {f : FuncId} {args : List Rp} {R R' : Rp} (h : PureC P f args R) (k : ∀ v w M, R.h v w M → R'.h v w M) : PureC P f args R' := ⟨h.1, fun w M vs hm hvs => (h.2 w M vs hm hvs).mono fun e w' ⟨v, h1, h2, h3⟩ => ⟨v, h1, k _ _ _ h2, h3⟩⟩
theorem pF_VolumeInfo : pkFields Tryz.prog 34 [true, false, false, false, false] = true := by kernel_rfl
def infP (i : Inf) : List Pk := [.s i.s, .i i.n, .i i.r, .i i.m, .i i.e]
def FNm (s : ByteArray) : List Rp := [val (.string s)]
abbrev nms (g : RF) : List ByteArray := g.vs.map (·.s)
theorem names_imp {L : List ByteArray} : ∀ v w M, (sl 1 FSt (L.map key)).h v w M → (sl 1 FNm L).h v w M := fun v w M h => by
  obtain ⟨A, c, h1, h2, h3⟩ := h
  rw [List.length_map] at h1 h2
  refine ⟨A, c, h1, h2, h3.imp (fun h => by simpa using h) fun ⟨b, o, g1, g2, g3, g4⟩ => ⟨b, o, g1, g2, g3, fun i x hx => ?_⟩⟩
  have := g4 i (key x) (by rw [List.getElem?_map, hx]; rfl)
  exact this
theorem names_at {g : RF} {i : Nat} (hi : i < g.vs.length) : (nms g).getD (i : Int).toNat default = (g.vs.getD (i : Int).toNat default).s := by
  rw [show ((i : Nat) : Int).toNat = i from by omega, List.getD_eq_getElem?_getD, List.getD_eq_getElem?_getD, List.getElem?_map, List.getElem?_eq_getElem hi]; rfl
/-! ### the code's answers are the reference's -/
section
variable {f : Fam} {g : RF}
theorem cr_Names (h : Rel f g) : PureC Tryz.prog 22 [eF f] (sl 1 FNm (nms g)) := by
  have h1 := c_family_Family_Names (f := f) (by have := h.num; have := h.ok.num; omega) (fun x hx => by
    have h2 := (h.ok.vol _ (h.vs.subset (List.mem_map_of_mem hx))).nm
    unfold nameE at h2
    simp only [Bool.and_eq_true, decide_eq_true_eq] at h2
    have : x.1.size ≤ 16 := h2.2
    omega)
  rw [rel_names h, show (g.vs.map fun v => key v.s) = (nms g).map key from by rw [List.map_map]; rfl] at h1
  exact pure_weak h1 names_imp
theorem cr_Info (h : Rel f g) {s : ByteArray} : PureC Tryz.prog 20 [eF f, val (.string s)] (tup [agg (FInf (rInfo g s).1), I (rInfo g s).2]) := by
  rw [← rel_info h s]; exact c_family_Family_Info h.fw
theorem cr_Range (h : Rel f g) {s : ByteArray} {a n : Int} : PureC Tryz.prog 26 [eF f, val (.string s), I a, I n] (tup [sl 3 FX (rRange g s a n).1, I (rRange g s a n).2]) := by
  rw [← rel_range h s a n]; exact c_family_Family_Range h.fw
theorem cr_Lookup (h : Rel f g) {s : ByteArray} {a : Int} : PureC Tryz.prog 36 [eF f, val (.string s), I a] (tup [I (rLookup g s a).1, val (.bool (rLookup g s a).2.1), I (rLookup g s a).2.2]) := by
  rw [← rel_lookup h s a]; exact c_family_Family_Lookup h.fw
theorem cr_Slots (h : Rel f g) : PureC Tryz.prog 28 [eF f] (I (g.k : Int)) := by
  have := c_family_Family_Slots (f := f)
  rwa [h.cs, (counts_spec h.ok).1] at this
def rCnt (g : RF) (s : Int) : Int := if s < 0 ∨ (g.k : Int) ≤ s then 0 else (rCounts g).getD s.toNat 0
theorem cr_Count (h : Rel f g) {s : Int} : PureC Tryz.prog 29 [eF f, I s] (I (rCnt g s)) := by
  have := c_family_Family_Count (f := f) (s := s)
  rwa [rel_count h s] at this
theorem cr_Free (h : Rel f g) : PureC Tryz.prog 30 [eF f] (sl 3 FX (rFree g)) := by
  rw [← rel_free h]; exact c_family_Family_Free h.fw
end
theorem free_len {g : RF} (h : GOk g) : (rFree g).length ≤ 65536 := by
  have h1 := mruns_len ((za (rCounts g)).map un)
  rw [List.length_map] at h1
  have h2 := asc_le (rCounts g).length fun s => decide ((rCounts g).getD s 0 = 0)
  have h3 := (counts_spec h).1
  have h4 := h.k
  unfold za at h1
  unfold rFree za
  omega
theorem whole_range {g : RF} (h : GOk g) {v : RV} (hv : v ∈ g.vs) : rRange g v.s 0 v.n = (v.l, 0) := by
  have hk := h.vol v hv
  have hn := hk.n
  unfold rRange
  rw [gl_of_mem h.srt hv]
  dsimp only
  rw [if_pos (inB_iff.2 ⟨by omega, by omega, by omega⟩)]
  unfold rCut
  rw [if_pos ⟨by omega, by omega, by omega, by omega⟩]
  show (Jn (Xt.parts v.l 0 (0 + v.n)), (0 : Int)) = _
  rw [Int.zero_add, parts_full hk.ok fun x hx => (hk.inn x hx).1, jn_nf hk.ok hk.nf]
theorem info_e {g : RF} (h : GOk g) {v : RV} (hv : v ∈ g.vs) : (rInfo g v.s).2 = 0 := by rw [info_at h hv]

theorem cnt_at {g : RF} (h : GOk g) {s : Nat} (hs : s < (rCounts g).length) : rCnt g (s : Int) = (rCounts g).getD (s : Int).toNat default := by
  have := (counts_spec h).1
  unfold rCnt
  rw [if_neg (by omega), show ((s : Nat) : Int).toNat = s from by omega, getI hs]
theorem cnt_lo {g : RF} : rCnt g (-1) = 0 := if_pos (.inl (by decide))
theorem cnt_hi {g : RF} (h : GOk g) : rCnt g ((rCounts g).length : Int) = 0 := if_pos (.inr (by rw [(counts_spec h).1]; exact Int.le_refl _))
theorem c_w36_same {f : Fam} {g : RF} (h : Rel f g) : PureC Tryz.prog 34 [eF f, eG g] (val (.bool true)) := by
  have hnum := h.ok.num
  have hgk := h.ok.k
  have hgc := (counts_spec h.ok).1
  have hfl := free_len h.ok
  refine PureC.of_wp Tryz.func34 (by kernel_rfl) rfl Tryz.ntmps34 (le_ rfl) (fun w0 M0 => ?_)
  refine WP.seq ?_
  refine WP.region ?_
  refine WL.box (ot rfl) (.agg _) (by decide) fun b2 => ?_
  refine WL.box (ot rfl) (.agg _) (by decide) fun b3 => ?_
  refine WL.op (asg (oc _)) (by decide) ?_
  refine WL.nl (.thn ?_)
  refine WP.seq ?_
  refine WP.region ?_
  refine WL.op (lbs 1 rfl ag_family_Family (ot rfl) (le_ rfl)) (by decide) ?_
  refine WL.op (call (cr_Names h) (.c (ot rfl) .n)) (by decide) ?_
  refine WL.op (asg (ot rfl)) (by decide) ?_
  refine WL.nl (.thn ?_)
  refine WP.seq ?_
  refine WP.seq ?_
  refine WP.draws ?_
  refine RG.op (lbs 1 rfl ag_family_Family (ot rfl) (le_ rfl)) ?_
  refine RG.op (call (cr_Slots h) (.c (ot rfl) .n)) ?_
  refine RG.op (fv fo_ef36_Family_0 (ot rfl)) ?_
  refine RG.op (lb 0 rfl sc_int (ot rfl) rfl) ?_
  refine RG.op (OpG.weak (R' := val (.bool false)) (neq  (ot rfl) (ot rfl)) (imp_eq (congrArg (fun b => val (.bool b)) (by rw [decide_eq_true rfl]; rfl)))) ?_
  refine RG.op (mv (ot rfl)) ?_
  refine RG.gd rfl rfl (Tells.v _ _) (fun hg => mv (ot rfl)) ?_
  refine RG.gd rfl rfl (Tells.v _ _) (fun hg => len_ us_s_string (og rfl hg)) ?_
  refine RG.gd rfl rfl (Tells.v _ _) (fun hg => fv fo_ef36_Family_1 (ot rfl)) ?_
  refine RG.gd rfl rfl (Tells.v _ _) (fun hg => lb 0 rfl sc_s_tegularef36_Volume (og rfl hg) rfl) ?_
  refine RG.gd rfl rfl (Tells.v _ _) (fun hg => len_ us_s_tegularef36_Volume (og rfl hg)) ?_
  refine RG.gd rfl rfl (Tells.v _ _) (fun hg => OpG.weak (R' := val (.bool false)) (neq  (og rfl hg) (og rfl hg)) (imp_eq (congrArg (fun b => val (.bool b)) (by rw [decide_eq_true (by rw [List.length_map])]; rfl)))) ?_
  refine RG.op (or_ (ot rfl) (ot rfl)) ?_
  refine RG.op (mv (ot rfl)) ?_
  refine RG.gd rfl rfl (Tells.v _ _) (fun hg => lbs 1 rfl ag_family_Family (ot rfl) (le_ rfl)) ?_
  refine RG.gd rfl rfl (Tells.v _ _) (fun hg => call (cr_Free h) (.c (og rfl hg) .n)) ?_
  refine RG.gd rfl rfl (Tells.v _ _) (fun hg => lbs 0 rfl ag_ef36_Family (ot rfl) (le_ rfl)) ?_
  refine RG.gd rfl rfl (Tells.v _ _) (fun hg => call (c_r36_Family_Free h.ok) (.c (og rfl hg) .n)) ?_
  refine RG.gd rfl rfl (Tells.v _ _) (fun hg => call (c_r32_Same (rFree g) (rFree g) (by omega) (by omega)) (.c (og rfl hg) (.c (og rfl hg) .n))) ?_
  refine RG.gd rfl rfl (Tells.v _ _) (fun hg => OpG.weak (R' := val (.bool false)) (not_  (og rfl hg)) (imp_eq (congrArg (fun b => val (.bool b)) (by rw [decide_eq_true rfl]; rfl)))) ?_
  refine RG.op (or_ (ot rfl) (ot rfl)) ?_
  refine RG.fin HM (by kernel_rfl) ?_
  show WL _ _ _ _ _ _ _ _ _
  refine WL.nl (.thn ?_)
  refine WP.condF rfl ?_
  refine WP.sk (.thn ?_)
  refine WP.seq ?_
  refine WP.seq ?_
  refine WP.region ?_
  refine WL.op (asg (oc _)) (by decide) ?_
  refine WL.nl (.thn ?_)
  refine WP.block ?_
  refine WP.loop (fun y : Nat => [.b b3 45 [I (g.k : Int), sl 4 FRV g.vs], .b b2 28 [sl 1 FI f.cs, mp FV f.vs]]) (fun y => [(6, I (y : Int)), (5, sl 1 FNm (nms g)), (3, val (.pointer (some ⟨b3, 0, none⟩))), (2, val (.pointer (some ⟨b2, 0, none⟩)))]) (fun y => y ≤ g.vs.length) (fun y => g.vs.length - y) 0 (Nat.zero_le _) (Sub.ofD 0 rfl (Sub.cons rfl (imp_eq rfl) (Sub.cons rfl (imp  _) (Sub.cons rfl (imp  _) (Sub.cons rfl (imp  _) Sub.nil))))) (fun i hi => ?_)
  replace hi : i ≤ g.vs.length := hi
  show WP _ _ _ _ [.b b3 45 [I (g.k : Int), sl 4 FRV g.vs], .b b2 28 [sl 1 FI f.cs, mp FV f.vs]] [(6, I (i : Int)), (5, sl 1 FNm (nms g)), (3, val (.pointer (some ⟨b3, 0, none⟩))), (2, val (.pointer (some ⟨b2, 0, none⟩)))] _ _
  refine WP.seq ?_
  refine WP.seq ?_
  refine WP.region ?_
  refine WL.op (mv (ot rfl)) (by decide) ?_
  refine WL.op (mv (ot rfl)) (by decide) ?_
  refine WL.op (len_ us_s_string (ot rfl)) (by decide) ?_
  refine WL.op (lss (ot rfl) (ot rfl)) (by decide) ?_
  refine WL.nl (.thn ?_)
  refine WP.cond rfl (fun hc => ?_) (fun hc => ?_)
  · skip
    have hc1 : i < g.vs.length := by have := of_decide_eq_true hc; rw [List.length_map] at this; omega
    have hVm := getV_mem hc1
    have hVl := ok_len (h.ok.vol _ hVm).ok
    have hnl : (nms g).length = g.vs.length := List.length_map ..
    refine WP.sk (.thn ?_)
    refine WP.seq ?_
    refine WP.block ?_
    refine WP.seq ?_
    refine WP.region ?_
    refine WL.op (fv fo_ef36_Family_1 (ot rfl)) (by decide) ?_
    refine WL.op (lb 0 rfl sc_s_tegularef36_Volume (ot rfl) rfl) (by decide) ?_
    refine WL.op (mv (ot rfl)) (by decide) ?_
    refine WL.op (ixd el_s_tegularef36_Volume (ot rfl) (ot rfl) (by omega) (by omega)) (by decide) ?_
    refine WL.op (ls ag_ef36_Volume (ot rfl) (le_ rfl)) (by decide) ?_
    refine WL.alloc zr_ef36_Volume rfl (by decide) fun b7 => ?_
    refine WL.store 0 rfl (ot rfl) (ot rfl) (.agg _) sz_ef36_Volume rfl (le_ rfl) ?_
    refine WL.nl (.thn ?_)
    refine WP.seq ?_
    refine WP.draws ?_
    refine RG.op (lbs 2 rfl ag_family_Family (ot rfl) (le_ rfl)) ?_
    refine RG.op (mv (ot rfl)) ?_
    refine RG.op (mv (ot rfl)) ?_
    refine RG.op (OpG.weak (R' := at_ (FNm (g.vs.getD (i : Int).toNat default).s)) (ixd el_s_string (ot rfl) (ot  rfl) (by omega) (by omega)) (imp_eq (congrArg (fun v => at_ (FNm v)) (names_at hc1)))) ?_
    refine RG.op (ld sc_string (ot rfl)) ?_
    refine RG.op (call (cr_Info h) (.c (ot rfl) (.c (ot rfl) .n))) ?_
    refine RG.op (mv (ot rfl)) ?_
    refine RG.op (ex (ot rfl) rfl) ?_
    refine RG.op (ex (ot rfl) rfl) ?_
    refine RG.bx (.alloc zr_VolumeInfo rfl) ?_
    refine RG.ox 9 rfl rfl (OpO.store (ot rfl) (.agg _) sz_VolumeInfo rfl rfl) ?_
    refine RG.op (asg (ot rfl)) ?_
    refine RG.fin HM (by kernel_rfl) ?_
    intro b8
    show WL _ _ _ _ _ _ _ _ _
    refine WL.nl (.thn ?_)
    refine WP.seq ?_
    refine WP.region ?_
    refine WL.op (lbs 2 rfl ag_ef36_Family (ot rfl) (le_ rfl)) (by decide) ?_
    refine WL.op (fv fo_ef36_Volume_0 (ot rfl)) (by decide) ?_
    refine WL.op (lb 1 rfl sc_string (ot rfl) rfl) (by decide) ?_
    refine WL.op (call (c_r36_Family_Info h.ok) (.c (ot rfl) (.c (ot rfl) .n))) (by decide) ?_
    refine WL.op (mv (ot rfl)) (by decide) ?_
    refine WL.op (ex (ot rfl) rfl) (by decide) ?_
    refine WL.op (ex (ot rfl) rfl) (by decide) ?_
    refine WL.alloc zr_VolumeInfo rfl (by decide) fun b10 => ?_
    refine WL.store 0 rfl (ot rfl) (ot rfl) (.agg _) sz_VolumeInfo rfl (le_ rfl) ?_
    refine WL.op (asg (ot rfl)) (by decide) ?_
    refine WL.nl (.thn ?_)
    refine WP.seq ?_
    refine WP.draws ?_
    refine RG.op (lbs 4 rfl ag_family_Family (ot rfl) (le_ rfl)) ?_
    refine RG.op (mv (ot rfl)) ?_
    refine RG.op (mv (ot rfl)) ?_
    refine RG.op (OpG.weak (R' := at_ (FNm (g.vs.getD (i : Int).toNat default).s)) (ixd el_s_string (ot rfl) (ot  rfl) (by omega) (by omega)) (imp_eq (congrArg (fun v => at_ (FNm v)) (names_at hc1)))) ?_
    refine RG.op (ld sc_string (ot rfl)) ?_
    refine RG.op (fv fo_ef36_Volume_1 (ot rfl)) ?_
    refine RG.op (lb 2 rfl sc_int (ot rfl) rfl) ?_
    refine RG.op (OpG.weak (R' := tup [sl 3 FX (g.vs.getD (i : Int).toNat default).l, I 0]) (call (cr_Range h) (.c (ot rfl) (.c (ot rfl) (.c (oc _) (.c (ot rfl) .n))))) (imp_eq (by rw [whole_range h.ok hVm]))) ?_
    refine RG.op (mv (ot rfl)) ?_
    refine RG.op (ex (ot rfl) rfl) ?_
    refine RG.op (ex (ot rfl) rfl) ?_
    refine RG.op (asg (ot rfl)) ?_
    refine RG.op (asg (ot rfl)) ?_
    refine RG.fin HM (by kernel_rfl) ?_
    show WL _ _ _ _ _ _ _ _ _
    refine WL.nl (.thn ?_)
    refine WP.seq ?_
    refine WP.region ?_
    refine WL.op (mv (ot rfl)) (by decide) ?_
    refine WL.op (OpG.weak (R' := val (.bool false)) (neq  (ot rfl) (oc _)) (imp_eq (congrArg (fun b => val (.bool b)) (by rw [decide_eq_true (info_e h.ok hVm)]; rfl)))) (by decide) ?_
    refine WL.op (mv (ot rfl)) (by decide) ?_
    refine WL.gT rfl rfl ?_ -- g2
    refine WL.op (mv (ot rfl)) (by decide) ?_
    refine WL.gT rfl rfl ?_ -- g2
    refine WL.op (OpG.weak (R' := val (.bool false)) (neq  (ot rfl) (oc _)) (imp_eq (congrArg (fun b => val (.bool b)) (by rw [decide_eq_true (Eq.refl (0 : Int))]; rfl)))) (by decide) ?_
    refine WL.op (pickF (ot rfl) (ot rfl)) (by decide) ?_
    refine WL.op (mv (ot rfl)) (by decide) ?_
    refine WL.gT rfl rfl ?_ -- g6
    refine WL.op (lbs 1 rfl ag_VolumeInfo (ot rfl) (le_ rfl)) (by decide) ?_
    refine WL.gT rfl rfl ?_ -- g6
    refine WL.op (lbs 0 rfl ag_VolumeInfo (ot rfl) (le_ rfl)) (by decide) ?_
    refine WL.gT rfl rfl ?_ -- g6
    refine WL.op (OpG.weak (R' := val (.bool false)) (nep (us := infP (rInfo g (g.vs.getD (i : Int).toNat default).s).1) (cs := infP (rInfo g (g.vs.getD (i : Int).toNat default).s).1) pF_VolumeInfo rfl rfl (ot  rfl) (ot rfl)) (imp_eq (congrArg (fun b => val (.bool b)) (by rw [decide_eq_true rfl]; rfl)))) (by decide) ?_
    refine WL.op (pickF (ot rfl) (ot rfl)) (by decide) ?_
    refine WL.op (mv (ot rfl)) (by decide) ?_
    refine WL.gT rfl rfl ?_ -- g11
    refine WL.op (mv (ot rfl)) (by decide) ?_
    refine WL.gT rfl rfl ?_ -- g11
    refine WL.op (fv fo_ef36_Volume_3 (ot rfl)) (by decide) ?_
    refine WL.gT rfl rfl ?_ -- g11
    refine WL.op (lb 2 rfl sc_s_api_Extent (ot rfl) rfl) (by decide) ?_
    refine WL.gT rfl rfl ?_ -- g11
    refine WL.op (call (c_r32_Same (g.vs.getD (i : Int).toNat default).l (g.vs.getD (i : Int).toNat default).l (by omega) (by omega)) (.c (ot rfl) (.c (ot rfl) .n))) (by decide) ?_
    refine WL.gT rfl rfl ?_ -- g11
    refine WL.op (OpG.weak (R' := val (.bool false)) (not_  (ot rfl)) (imp_eq (congrArg (fun b => val (.bool b)) (by rw [decide_eq_true rfl]; rfl)))) (by decide) ?_
    refine WL.op (pickF (ot rfl) (ot rfl)) (by decide) ?_
    refine WL.nl (.thn ?_)
    refine WP.condF rfl ?_
    refine WP.sk (.blk (.thn ?_))
    refine WP.region ?_
    refine WL.op (mv (ot rfl)) (by decide) ?_
    refine WL.op (add (ot rfl) (oc _) (by omega)) (by decide) ?_
    refine WL.op (asg (ot rfl)) (by decide) ?_
    exact WL.nl (.again (i + 1) hc1 (by omega) (Sub.ofD 3 rfl (Sub.cons rfl (imp_eq (congrArg I (by omega))) (Sub.cons rfl (imp  _) (Sub.cons rfl (imp  _) (Sub.cons rfl (imp  _) Sub.nil))))))
  · skip
    have hc1 : ¬ i < g.vs.length := by have := of_decide_eq_false hc; rw [List.length_map] at this; omega
    refine WP.xt (.xthn (.xthn (.xin (.thn ?_))))
    refine WP.seq ?_
    refine WP.region ?_
    refine WL.op (lbs 0 rfl ag_ef36_Family (ot rfl) (le_ rfl)) (by decide) ?_
    refine WL.op (call (c_r36_Family_Counts h.ok) (.c (ot rfl) .n)) (by decide) ?_
    refine WL.op (asg (ot rfl)) (by decide) ?_
    refine WL.nl (.thn ?_)
    refine WP.seq ?_
    refine WP.seq ?_
    refine WP.region ?_
    refine WL.op (asg (oc _)) (by decide) ?_
    refine WL.nl (.thn ?_)
    refine WP.block ?_
    refine WP.loop (fun y : Nat => [.b b3 45 [I (g.k : Int), sl 4 FRV g.vs], .b b2 28 [sl 1 FI f.cs, mp FV f.vs]]) (fun y => [(15, I (y : Int)), (14, sl 1 FI (rCounts g)), (3, val (.pointer (some ⟨b3, 0, none⟩))), (2, val (.pointer (some ⟨b2, 0, none⟩)))]) (fun y => y ≤ (rCounts g).length) (fun y => (rCounts g).length - y) 0 (Nat.zero_le _) (Sub.ofD 0 rfl (Sub.cons rfl (imp_eq rfl) (Sub.cons rfl (imp  _) (Sub.cons rfl (imp  _) (Sub.cons rfl (imp  _) Sub.nil))))) (fun s hs => ?_)
    replace hs : s ≤ (rCounts g).length := hs
    show WP _ _ _ _ [.b b3 45 [I (g.k : Int), sl 4 FRV g.vs], .b b2 28 [sl 1 FI f.cs, mp FV f.vs]] [(15, I (s : Int)), (14, sl 1 FI (rCounts g)), (3, val (.pointer (some ⟨b3, 0, none⟩))), (2, val (.pointer (some ⟨b2, 0, none⟩)))] _ _
    refine WP.seq ?_
    refine WP.seq ?_
    refine WP.region ?_
    refine WL.op (mv (ot rfl)) (by decide) ?_
    refine WL.op (mv (ot rfl)) (by decide) ?_
    refine WL.op (len_ us_ef34_Counts (ot rfl)) (by decide) ?_
    refine WL.op (lss (ot rfl) (ot rfl)) (by decide) ?_
    refine WL.nl (.thn ?_)
    refine WP.cond rfl (fun hc => ?_) (fun hc => ?_)
    · skip
      have hc1 : s < (rCounts g).length := by have := of_decide_eq_true hc; omega
      refine WP.sk (.thn ?_)
      refine WP.seq ?_
      refine WP.block ?_
      refine WP.seq ?_
      refine WP.draws ?_
      refine RG.op (lbs 1 rfl ag_family_Family (ot rfl) (le_ rfl)) ?_
      refine RG.op (mv (ot rfl)) ?_
      refine RG.op (call (cr_Count h) (.c (ot rfl) (.c (ot rfl) .n))) ?_
      refine RG.op (mv (ot rfl)) ?_
      refine RG.op (mv (ot rfl)) ?_
      refine RG.op (ixd el_ef34_Counts (ot rfl) (ot rfl) (by omega) (by omega)) ?_
      refine RG.op (ld sc_int (ot rfl)) ?_
      refine RG.op (OpG.weak (R' := val (.bool false)) (neq  (ot rfl) (ot rfl)) (imp_eq (congrArg (fun b => val (.bool b)) (by rw [decide_eq_true (cnt_at h.ok hc1)]; rfl)))) ?_
      refine RG.fin HM (by kernel_rfl) ?_
      show WL _ _ _ _ _ _ _ _ _
      refine WL.nl (.thn ?_)
      refine WP.condF rfl ?_
      refine WP.sk (.blk (.thn ?_))
      refine WP.region ?_
      refine WL.op (mv (ot rfl)) (by decide) ?_
      refine WL.op (add (ot rfl) (oc _) (by omega)) (by decide) ?_
      refine WL.op (asg (ot rfl)) (by decide) ?_
      exact WL.nl (.again (s + 1) hc1 (by omega) (Sub.ofD 0 rfl (Sub.cons rfl (imp_eq (congrArg I (by omega))) (Sub.cons rfl (imp  _) (Sub.cons rfl (imp  _) (Sub.cons rfl (imp  _) Sub.nil))))))
    · skip
      have hc1 : ¬ s < (rCounts g).length := by have := of_decide_eq_false hc; omega
      refine WP.xt (.xthn (.xthn (.xin (.thn ?_))))
      refine WP.seq ?_
      refine WP.region ?_
      refine WL.op (lbs 1 rfl ag_family_Family (ot rfl) (le_ rfl)) (by decide) ?_
      refine WL.op (call (cr_Count h) (.c (ot rfl) (.c (oc _) .n))) (by decide) ?_
      refine WL.op (OpG.weak (R' := val (.bool true)) (eql  (ot rfl) (oc _)) (imp_eq (congrArg (fun b => val (.bool b)) (decide_eq_true cnt_lo)))) (by decide) ?_
      refine WL.op (mv (ot rfl)) (by decide) ?_
      refine WL.gT rfl rfl ?_ -- g3
      refine WL.op (lbs 1 rfl ag_family_Family (ot rfl) (le_ rfl)) (by decide) ?_
      refine WL.gT rfl rfl ?_ -- g3
      refine WL.op (mv (ot rfl)) (by decide) ?_
      refine WL.gT rfl rfl ?_ -- g3
      refine WL.op (len_ us_ef34_Counts (ot rfl)) (by decide) ?_
      refine WL.gT rfl rfl ?_ -- g3
      refine WL.op (call (cr_Count h) (.c (ot rfl) (.c (ot rfl) .n))) (by decide) ?_
      refine WL.gT rfl rfl ?_ -- g3
      refine WL.op (OpG.weak (R' := val (.bool true)) (eql  (ot rfl) (oc _)) (imp_eq (congrArg (fun b => val (.bool b)) (decide_eq_true (cnt_hi h.ok))))) (by decide) ?_
      refine WL.op (pickT (ot rfl) (ot rfl)) (by decide) ?_
      refine WL.op (asg (ot rfl)) (by decide) ?_
      refine WL.nl (.thn ?_)
      exact WP.rt (.r1 rfl rfl (imp _))
end Go.Proofs.YtjglgfnhgehpeaaGreat

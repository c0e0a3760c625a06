/- Parts: L37a, Lay12, L37b, L37c, L37d. -/
import Derived.Test.YtjglgfnhgehpeaaGreatZy
import Derived.Test.YtjglgfnhgehpeaaGreatZx
import Derived.Test.YtjglgfnhgehpeaaGreatZg
import Derived.Test.YtjglgfnhgehpeaaGreatZz
/- The law of space accounting: the example, a step, a script. -/
set_option linter.unusedVariables false
set_option linter.unusedSimpArgs false
set_option maxRecDepth 4000
namespace Go.Proofs.YtjglgfnhgehpeaaGreat
open Go.RowKit Go.Fw Go.Xt
def aN : ByteArray := ⟨#[97]⟩
def bN : ByteArray := ⟨#[98]⟩
def exF : Fam := (fAssign (fCreate (run0 10).1 aN 8 6).1 aN ⟨0, 2, 3⟩).1
def exG : RF := (rAssign (rCreate (run0 10).2 aN 8 6).1 aN ⟨0, 2, 3⟩).1
theorem ex_rel1 : Rel (fCreate (run0 10).1 aN 8 6).1 (rCreate (run0 10).2 aN 8 6).1 := (rel_create (run0_rs (k := 10) (by decide)).rel aN 8 6).2 (by decide +kernel)
theorem ex_rel : Rel exF exG := (rel_assign ex_rel1 aN ⟨0, 2, 3⟩).2.2 (by decide +kernel)
theorem ex_claim : rClaim exG aN = (4, 0) := by decide +kernel
theorem ex_need : rNeed exG aN 1 3 = (2, 0) := by decide +kernel
theorem ex_claims : rClaims exG = 4 := by decide +kernel
theorem ex_room : rRoom exG = 4 := by decide +kernel
theorem ex_cc1 : rCanCreate exG 4 4 = 0 := by decide +kernel
theorem ex_cc2 : rCanCreate exG 9 5 = 11 := by decide +kernel
theorem ex_cl : rCanClone exG aN = 0 := by decide +kernel
theorem ex_cw : rCanWrite exG bN 0 1 = 9 := by decide +kernel

theorem c_w37_example : PureC Tryz.prog 89 [] (eF exF) := by
  refine PureC.of_wp Tryz.func89 (by kernel_rfl) rfl Tryz.ntmps89 (le_ rfl) (fun w0 M0 => ?_)
  refine WP.seq ?_
  refine WP.region ?_
  refine WL.alloc zr_family_Family rfl (by decide) fun b0 => ?_
  refine WL.nl (.thn ?_)
  refine WP.seq ?_
  refine WP.region ?_
  refine WL.op (call (c_family_New (k := 10) (by decide)) (.c (oc _) .n)) (by decide) ?_
  refine WL.op (mv (ot rfl)) (by decide) ?_
  refine WL.op (ex (ot rfl) rfl) (by decide) ?_
  refine WL.op (ex (ot rfl) rfl) (by decide) ?_
  refine WL.alloc zr_family_Family rfl (by decide) fun b1 => ?_
  refine WL.store 0 rfl (ot rfl) (ot rfl) (.agg _) sz_family_Family rfl (le_ rfl) ?_
  refine WL.op (asg (ot rfl)) (by decide) ?_
  refine WL.nl (.thn ?_)
  refine WP.seq ?_
  refine WP.region ?_
  refine WL.op (lbs 0 rfl ag_family_Family (ot rfl) (le_ rfl)) (by decide) ?_
  refine WL.op (call (c_family_Family_Create (f := (run0 10).1) (s := aN) (by decide)) (.c (ot rfl) (.c (oc _) (.c (oc _) (.c (oc _) .n))))) (by decide) ?_
  refine WL.op (mv (ot rfl)) (by decide) ?_
  refine WL.op (ex (ot rfl) rfl) (by decide) ?_
  refine WL.op (ex (ot rfl) rfl) (by decide) ?_
  refine WL.store 0 rfl (ot rfl) (ot rfl) (.agg _) sz_family_Family rfl (le_ rfl) ?_
  refine WL.nl (.thn ?_)
  refine WP.seq ?_
  refine WP.region ?_
  refine WL.op (lbs 0 rfl ag_family_Family (ot rfl) (le_ rfl)) (by decide) ?_
  refine WL.op (bld zr_Extent rfl ps_Extent (.c (oc _) (.leaf (.val rfl)) pl_Extent_1 rfl (le_ rfl) (.c (oc _) (.leaf (.val rfl)) pl_Extent_2 rfl (le_ rfl) .n))) (by decide) ?_
  refine WL.op (call (c_family_Family_Assign (f := (fCreate (run0 10).1 aN 8 6).1) (s := aN) (x := ⟨0, 2, 3⟩) ex_rel1.fw) (.c (ot rfl) (.c (oc _) (.c (ot rfl) .n)))) (by decide) ?_
  refine WL.op (mv (ot rfl)) (by decide) ?_
  refine WL.op (ex (ot rfl) rfl) (by decide) ?_
  refine WL.op (ex (ot rfl) rfl) (by decide) ?_
  refine WL.op (ex (ot rfl) rfl) (by decide) ?_
  refine WL.store 0 rfl (ot rfl) (ot rfl) (.agg _) sz_family_Family rfl (le_ rfl) ?_
  refine WL.nl (.thn ?_)
  refine WP.seq ?_
  refine WP.region ?_
  refine WL.op (lbs 0 rfl ag_family_Family (ot rfl) (le_ rfl)) (by decide) ?_
  refine WL.store 1 rfl (ot rfl) (ot rfl) (.agg _) sz_family_Family rfl (le_ rfl) ?_
  refine WL.nl (.thn ?_)
  exact WP.rt (.rB rfl (.bx 1 rfl rfl ag_family_Family) (imp _))
theorem c_w37_awake : PureC Tryz.prog 39 [] (val (.bool true)) := by
  refine PureC.of_wp Tryz.func39 (by kernel_rfl) rfl Tryz.ntmps39 (le_ rfl) (fun w0 M0 => ?_)
  refine WP.seq ?_
  refine WP.region ?_
  refine WL.op (asg (oc _)) (by decide) ?_
  refine WL.nl (.thn ?_)
  refine WP.seq ?_
  refine WP.region ?_
  refine WL.op (call c_w37_example .n) (by decide) ?_
  refine WL.alloc zr_family_Family rfl (by decide) fun b1 => ?_
  refine WL.store 0 rfl (ot rfl) (ot rfl) (.agg _) sz_family_Family rfl (le_ rfl) ?_
  refine WL.nl (.thn ?_)
  refine WP.seq ?_
  refine WP.region ?_
  refine WL.op (lbs 0 rfl ag_family_Family (ot rfl) (le_ rfl)) (by decide) ?_
  refine WL.op (OpG.weak (R' := tup [I 4, I 0]) (call (c_thin_Claim (s := aN) ex_rel) (.c (ot rfl) (.c (oc _) .n))) (imp_eq (by rw [ex_claim]))) (by decide) ?_
  refine WL.op (mv (ot rfl)) (by decide) ?_
  refine WL.op (ex (ot rfl) rfl) (by decide) ?_
  refine WL.op (ex (ot rfl) rfl) (by decide) ?_
  refine WL.op (asg (ot rfl)) (by decide) ?_
  refine WL.op (asg (ot rfl)) (by decide) ?_
  refine WL.nl (.thn ?_)
  refine WP.seq ?_
  refine WP.region ?_
  refine WL.op (lbs 0 rfl ag_family_Family (ot rfl) (le_ rfl)) (by decide) ?_
  refine WL.op (OpG.weak (R' := tup [I 2, I 0]) (call (c_thin_Need (s := aN) (a := 1) (n := 3) ex_rel) (.c (ot rfl) (.c (oc _) (.c (oc _) (.c (oc _) .n))))) (imp_eq (by rw [ex_need]))) (by decide) ?_
  refine WL.op (mv (ot rfl)) (by decide) ?_
  refine WL.op (ex (ot rfl) rfl) (by decide) ?_
  refine WL.op (ex (ot rfl) rfl) (by decide) ?_
  refine WL.op (asg (ot rfl)) (by decide) ?_
  refine WL.op (asg (ot rfl)) (by decide) ?_
  refine WL.nl (.thn ?_)
  refine WP.seq ?_
  refine WP.region ?_
  refine WL.op (mv (ot rfl)) (by decide) ?_
  refine WL.op (OpG.weak (R' := val (.bool true)) (eql  (ot rfl) (oc _)) (imp_eq (congrArg (fun b => val (.bool b)) (decide_eq_true (rfl))))) (by decide) ?_
  refine WL.op (mv (ot rfl)) (by decide) ?_
  refine WL.gT rfl rfl ?_ -- g2
  refine WL.op (mv (ot rfl)) (by decide) ?_
  refine WL.gT rfl rfl ?_ -- g2
  refine WL.op (OpG.weak (R' := val (.bool true)) (eql  (ot rfl) (oc _)) (imp_eq (congrArg (fun b => val (.bool b)) (decide_eq_true (rfl))))) (by decide) ?_
  refine WL.op (pickT (ot rfl) (ot rfl)) (by decide) ?_
  refine WL.op (mv (ot rfl)) (by decide) ?_
  refine WL.gT rfl rfl ?_ -- g6
  refine WL.op (mv (ot rfl)) (by decide) ?_
  refine WL.gT rfl rfl ?_ -- g6
  refine WL.op (OpG.weak (R' := val (.bool true)) (eql  (ot rfl) (oc _)) (imp_eq (congrArg (fun b => val (.bool b)) (decide_eq_true (rfl))))) (by decide) ?_
  refine WL.op (pickT (ot rfl) (ot rfl)) (by decide) ?_
  refine WL.op (mv (ot rfl)) (by decide) ?_
  refine WL.gT rfl rfl ?_ -- g10
  refine WL.op (mv (ot rfl)) (by decide) ?_
  refine WL.gT rfl rfl ?_ -- g10
  refine WL.op (OpG.weak (R' := val (.bool true)) (eql  (ot rfl) (oc _)) (imp_eq (congrArg (fun b => val (.bool b)) (decide_eq_true (rfl))))) (by decide) ?_
  refine WL.op (pickT (ot rfl) (ot rfl)) (by decide) ?_
  refine WL.op (mv (ot rfl)) (by decide) ?_
  refine WL.gT rfl rfl ?_ -- g14
  refine WL.op (lbs 0 rfl ag_family_Family (ot rfl) (le_ rfl)) (by decide) ?_
  refine WL.gT rfl rfl ?_ -- g14
  refine WL.op (call (c_thin_Claims ex_rel) (.c (ot rfl) .n)) (by decide) ?_
  refine WL.gT rfl rfl ?_ -- g14
  refine WL.op (OpG.weak (R' := val (.bool true)) (eql  (ot rfl) (oc _)) (imp_eq (congrArg (fun b => val (.bool b)) (decide_eq_true (ex_claims))))) (by decide) ?_
  refine WL.op (pickT (ot rfl) (ot rfl)) (by decide) ?_
  refine WL.op (mv (ot rfl)) (by decide) ?_
  refine WL.gT rfl rfl ?_ -- g19
  refine WL.op (lbs 0 rfl ag_family_Family (ot rfl) (le_ rfl)) (by decide) ?_
  refine WL.gT rfl rfl ?_ -- g19
  refine WL.op (call (c_thin_Room ex_rel) (.c (ot rfl) .n)) (by decide) ?_
  refine WL.gT rfl rfl ?_ -- g19
  refine WL.op (OpG.weak (R' := val (.bool true)) (eql  (ot rfl) (oc _)) (imp_eq (congrArg (fun b => val (.bool b)) (decide_eq_true (ex_room))))) (by decide) ?_
  refine WL.op (pickT (ot rfl) (ot rfl)) (by decide) ?_
  refine WL.op (mv (ot rfl)) (by decide) ?_
  refine WL.gT rfl rfl ?_ -- g24
  refine WL.op (lbs 0 rfl ag_family_Family (ot rfl) (le_ rfl)) (by decide) ?_
  refine WL.gT rfl rfl ?_ -- g24
  refine WL.op (call (c_thin_CanCreate (n := 4) (r := 4) ex_rel) (.c (ot rfl) (.c (oc _) (.c (oc _) .n)))) (by decide) ?_
  refine WL.gT rfl rfl ?_ -- g24
  refine WL.op (OpG.weak (R' := val (.bool true)) (eql  (ot rfl) (oc _)) (imp_eq (congrArg (fun b => val (.bool b)) (decide_eq_true (ex_cc1))))) (by decide) ?_
  refine WL.op (pickT (ot rfl) (ot rfl)) (by decide) ?_
  refine WL.op (mv (ot rfl)) (by decide) ?_
  refine WL.gT rfl rfl ?_ -- g29
  refine WL.op (lbs 0 rfl ag_family_Family (ot rfl) (le_ rfl)) (by decide) ?_
  refine WL.gT rfl rfl ?_ -- g29
  refine WL.op (call (c_thin_CanCreate (n := 9) (r := 5) ex_rel) (.c (ot rfl) (.c (oc _) (.c (oc _) .n)))) (by decide) ?_
  refine WL.gT rfl rfl ?_ -- g29
  refine WL.op (OpG.weak (R' := val (.bool true)) (eql  (ot rfl) (oc _)) (imp_eq (congrArg (fun b => val (.bool b)) (decide_eq_true (ex_cc2))))) (by decide) ?_
  refine WL.op (pickT (ot rfl) (ot rfl)) (by decide) ?_
  refine WL.op (mv (ot rfl)) (by decide) ?_
  refine WL.gT rfl rfl ?_ -- g34
  refine WL.op (lbs 0 rfl ag_family_Family (ot rfl) (le_ rfl)) (by decide) ?_
  refine WL.gT rfl rfl ?_ -- g34
  refine WL.op (call (c_thin_CanClone (s := aN) ex_rel) (.c (ot rfl) (.c (oc _) .n))) (by decide) ?_
  refine WL.gT rfl rfl ?_ -- g34
  refine WL.op (OpG.weak (R' := val (.bool true)) (eql  (ot rfl) (oc _)) (imp_eq (congrArg (fun b => val (.bool b)) (decide_eq_true (ex_cl))))) (by decide) ?_
  refine WL.op (pickT (ot rfl) (ot rfl)) (by decide) ?_
  refine WL.op (mv (ot rfl)) (by decide) ?_
  refine WL.gT rfl rfl ?_ -- g39
  refine WL.op (lbs 0 rfl ag_family_Family (ot rfl) (le_ rfl)) (by decide) ?_
  refine WL.gT rfl rfl ?_ -- g39
  refine WL.op (call (c_thin_CanWrite (s := bN) (a := 0) (n := 1) ex_rel) (.c (ot rfl) (.c (oc _) (.c (oc _) (.c (oc _) .n))))) (by decide) ?_
  refine WL.gT rfl rfl ?_ -- g39
  refine WL.op (OpG.weak (R' := val (.bool true)) (eql  (ot rfl) (oc _)) (imp_eq (congrArg (fun b => val (.bool b)) (decide_eq_true (ex_cw))))) (by decide) ?_
  refine WL.op (pickT (ot rfl) (ot rfl)) (by decide) ?_
  refine WL.op (asg (ot rfl)) (by decide) ?_
  refine WL.nl (.thn ?_)
  exact WP.rt (.r1 rfl rfl (imp _))
def fA (f : Fam) (t : St6) : Fam := if (fApply f t).2.2 = 0 then (fApply f t).1 else f
theorem fA_ap {p : Fam × RF} (h : Rel p.1 p.2) (t : St6) : (ap p t).1 = fA p.1 t := by
  unfold ap fA
  rw [(rel_apply h t).1]
  split <;> rfl
theorem c_w37_apply {f : Fam} {t : St6} (h : Fw0 f) (ht : t.U8) : PureC Tryz.prog 90 [eF f, agg (FS6 t)] (eF (fA f t)) := by
  have hk := ht.k; have hv := ht.v; have ho := ht.o; have ha := ht.a; have hn := ht.n; have hs := ht.s
  refine PureC.of_wp Tryz.func90 (by kernel_rfl) rfl Tryz.ntmps90 (le_ rfl) (fun w0 M0 => ?_)
  refine WP.seq ?_
  refine WP.region ?_
  refine WL.box (ot rfl) (.agg _) (by decide) fun b2 => ?_
  refine WL.box (ot rfl) (.agg _) (by decide) fun b3 => ?_
  refine WL.alloc zr_family_Family rfl (by decide) fun b4 => ?_
  refine WL.nl (.thn ?_)
  refine WP.seq ?_
  refine WP.region ?_
  refine WL.op (fv fo_ef36_Step_1 (ot rfl)) (by decide) ?_
  refine WL.op (lb 1 rfl sc_uint8 (ot rfl) rfl) (by decide) ?_
  refine WL.op (call (c_r36_Names ht.v) (.c (ot rfl) .n)) (by decide) ?_
  refine WL.op (asg (ot rfl)) (by decide) ?_
  refine WL.nl (.thn ?_)
  refine WP.seq ?_
  refine WP.region ?_
  refine WL.alloc zr_family_Family rfl (by decide) fun b6 => ?_
  refine WL.nl (.thn ?_)
  refine WP.seq ?_
  refine WP.region ?_
  refine WL.op (asg (oc _)) (by decide) ?_
  refine WL.nl (.thn ?_)
  refine WP.seq ?_
  refine WP.seq ?_
  refine WP.region ?_
  refine WL.op (fv fo_ef36_Step_0 (ot rfl)) (by decide) ?_
  refine WL.op (lb 2 rfl sc_uint8 (ot rfl) rfl) (by decide) ?_
  refine WL.op (rem_ (ot rfl) (oc _) (by omega) (by omega)) (by decide) ?_
  refine WL.nl (.thn ?_)
  refine WP.block ?_
  refine WP.seq ?_
  refine WP.region ?_
  refine WL.op (eql (ot rfl) (oc _)) (by decide) ?_
  refine WL.op (asg (ot rfl)) (by decide) ?_
  refine WL.nl (.thn ?_)
  refine WP.cond rfl (fun hc => ?_) (fun hc => ?_)
  · skip
    have h0 : t.k % 8 = 0 := of_decide_eq_true hc
    refine WP.region ?_
    refine WL.op (lbs 3 rfl ag_family_Family (ot rfl) (le_ rfl)) (by decide) ?_
    refine WL.op (mv (ot rfl)) (by decide) ?_
    refine WL.op (fv fo_ef36_Step_4 (ot rfl)) (by decide) ?_
    refine WL.op (lb 2 rfl sc_uint8 (ot rfl) rfl) (by decide) ?_
    refine WL.op (cv un_uint8 un_int (ot rfl) (IntWalk.i64_in _ (by omega))) (by decide) ?_
    refine WL.op (fv fo_ef36_Step_3 (ot rfl)) (by decide) ?_
    refine WL.op (lb 2 rfl sc_uint8 (ot rfl) rfl) (by decide) ?_
    refine WL.op (cv un_uint8 un_int (ot rfl) (IntWalk.i64_in _ (by omega))) (by decide) ?_
    refine WL.op (call (c_family_Family_Create (nm_size _)) (.c (ot rfl) (.c (ot rfl) (.c (ot rfl) (.c (ot rfl) .n))))) (by decide) ?_
    refine WL.op (mv (ot rfl)) (by decide) ?_
    refine WL.op (ex (ot rfl) rfl) (by decide) ?_
    refine WL.op (ex (ot rfl) rfl) (by decide) ?_
    refine WL.store 0 rfl (ot rfl) (ot rfl) (.agg _) sz_family_Family rfl (le_ rfl) ?_
    refine WL.op (asg (ot rfl)) (by decide) ?_
    refine WL.nl (.blk (.thn ?_))
    refine WP.seq ?_
    refine WP.seq ?_
    refine WP.region ?_
    refine WL.op (mv (ot rfl)) (by decide) ?_
    refine WL.op (neq (ot rfl) (oc _)) (by decide) ?_
    refine WL.nl (.thn ?_)
    refine WP.cond rfl (fun hc => ?_) (fun hc => ?_)
    · skip
      have hz : ¬ (fCreate f (nm t.v) t.n t.a).2 = 0 := by simpa using hc
      refine WP.seq ?_
      refine WP.region ?_
      refine WL.op (lbs 3 rfl ag_family_Family (ot rfl) (le_ rfl)) (by decide) ?_
      refine WL.store 1 rfl (ot rfl) (ot rfl) (.agg _) sz_family_Family rfl (le_ rfl) ?_
      refine WL.nl (.thn ?_)
      exact WP.rt (.rthn (.rB rfl (.bx 1 rfl rfl ag_family_Family) (by rw [show fA f t = f from by unfold fA; rw [fA0 h0]; exact if_neg hz]; exact imp  _)))
    · skip
      have hz : (fCreate f (nm t.v) t.n t.a).2 = 0 := by simpa using hc
      refine WP.sk (.thn ?_)
      refine WP.seq ?_
      refine WP.region ?_
      refine WL.op (lbs 0 rfl ag_family_Family (ot rfl) (le_ rfl)) (by decide) ?_
      refine WL.store 1 rfl (ot rfl) (ot rfl) (.agg _) sz_family_Family rfl (le_ rfl) ?_
      refine WL.nl (.thn ?_)
      exact WP.rt (.rB rfl (.bx 1 rfl rfl ag_family_Family) (by rw [show fA f t = (fCreate f (nm t.v) t.n t.a).1 from by unfold fA; rw [fA0 h0]; exact if_pos hz]; exact imp  _))
  · skip
    have h0 : ¬ t.k % 8 = 0 := of_decide_eq_false hc
    refine WP.seq ?_
    refine WP.region ?_
    refine WL.op (eql (ot rfl) (oc _)) (by decide) ?_
    refine WL.op (asg (ot rfl)) (by decide) ?_
    refine WL.nl (.thn ?_)
    refine WP.cond rfl (fun hc => ?_) (fun hc => ?_)
    · skip
      have h1 : t.k % 8 = 1 := of_decide_eq_true hc
      refine WP.drawsH [0] ?_
      refine RG.opE (lbs 3 rfl ag_family_Family (ot rfl) (le_ rfl)) ?_
      refine RG.opE (mv (ot rfl)) ?_
      refine RG.opE (fv fo_ef36_Step_2 (ot rfl)) ?_
      refine RG.opE (lb 2 rfl sc_uint8 (ot rfl) rfl) ?_
      refine RG.opE (call (c_r36_Names ht.o) (.c (ot rfl) .n)) ?_
      refine RG.opE (call (c_family_Family_Clone (nm_size _) h) (.c (ot rfl) (.c (ot rfl) (.c (ot rfl) .n)))) ?_
      refine RG.opE (mv (ot rfl)) ?_
      refine RG.opE (ex (ot rfl) rfl) ?_
      refine RG.op (ex (ot rfl) rfl) ?_
      refine RG.sx (OpE.store 0 rfl (ot rfl) (ot rfl) (.agg _) sz_family_Family rfl (le_ rfl)) rfl ?_
      refine RG.op (asg (ot rfl)) ?_
      refine RG.fin HM (by kernel_rfl) ?_
      show WL _ _ _ _ _ _ _ _ _
      refine WL.nl (.blk (.thn ?_))
      refine WP.seq ?_
      refine WP.seq ?_
      refine WP.region ?_
      refine WL.op (mv (ot rfl)) (by decide) ?_
      refine WL.op (neq (ot rfl) (oc _)) (by decide) ?_
      refine WL.nl (.thn ?_)
      refine WP.cond rfl (fun hc => ?_) (fun hc => ?_)
      · skip
        have hz : ¬ (fClone f (nm t.v) (nm t.o)).2 = 0 := by simpa using hc
        refine WP.seq ?_
        refine WP.region ?_
        refine WL.op (lbs 3 rfl ag_family_Family (ot rfl) (le_ rfl)) (by decide) ?_
        refine WL.store 1 rfl (ot rfl) (ot rfl) (.agg _) sz_family_Family rfl (le_ rfl) ?_
        refine WL.nl (.thn ?_)
        exact WP.rt (.rthn (.rB rfl (.bx 1 rfl rfl ag_family_Family) (by rw [show fA f t = f from by unfold fA; rw [fA1 h0 h1]; exact if_neg hz]; exact imp  _)))
      · skip
        have hz : (fClone f (nm t.v) (nm t.o)).2 = 0 := by simpa using hc
        refine WP.sk (.thn ?_)
        refine WP.seq ?_
        refine WP.region ?_
        refine WL.op (lbs 0 rfl ag_family_Family (ot rfl) (le_ rfl)) (by decide) ?_
        refine WL.store 1 rfl (ot rfl) (ot rfl) (.agg _) sz_family_Family rfl (le_ rfl) ?_
        refine WL.nl (.thn ?_)
        exact WP.rt (.rB rfl (.bx 1 rfl rfl ag_family_Family) (by rw [show fA f t = (fClone f (nm t.v) (nm t.o)).1 from by unfold fA; rw [fA1 h0 h1]; exact if_pos hz]; exact imp  _))
    · skip
      have h1 : ¬ t.k % 8 = 1 := of_decide_eq_false hc
      refine WP.seq ?_
      refine WP.region ?_
      refine WL.op (eql (ot rfl) (oc _)) (by decide) ?_
      refine WL.op (asg (ot rfl)) (by decide) ?_
      refine WL.nl (.thn ?_)
      refine WP.cond rfl (fun hc => ?_) (fun hc => ?_)
      · skip
        have h2 : t.k % 8 = 2 := of_decide_eq_true hc
        refine WP.region ?_
        refine WL.op (lbs 3 rfl ag_family_Family (ot rfl) (le_ rfl)) (by decide) ?_
        refine WL.op (mv (ot rfl)) (by decide) ?_
        refine WL.op (call (c_family_Family_Delete h) (.c (ot rfl) (.c (ot rfl) .n))) (by decide) ?_
        refine WL.op (mv (ot rfl)) (by decide) ?_
        refine WL.op (ex (ot rfl) rfl) (by decide) ?_
        refine WL.op (ex (ot rfl) rfl) (by decide) ?_
        refine WL.op (ex (ot rfl) rfl) (by decide) ?_
        refine WL.store 0 rfl (ot rfl) (ot rfl) (.agg _) sz_family_Family rfl (le_ rfl) ?_
        refine WL.op (asg (ot rfl)) (by decide) ?_
        refine WL.nl (.blk (.thn ?_))
        refine WP.seq ?_
        refine WP.seq ?_
        refine WP.region ?_
        refine WL.op (mv (ot rfl)) (by decide) ?_
        refine WL.op (neq (ot rfl) (oc _)) (by decide) ?_
        refine WL.nl (.thn ?_)
        refine WP.cond rfl (fun hc => ?_) (fun hc => ?_)
        · skip
          have hz : ¬ (fDelete f (nm t.v)).2.2 = 0 := by simpa using hc
          refine WP.seq ?_
          refine WP.region ?_
          refine WL.op (lbs 3 rfl ag_family_Family (ot rfl) (le_ rfl)) (by decide) ?_
          refine WL.store 1 rfl (ot rfl) (ot rfl) (.agg _) sz_family_Family rfl (le_ rfl) ?_
          refine WL.nl (.thn ?_)
          exact WP.rt (.rthn (.rB rfl (.bx 1 rfl rfl ag_family_Family) (by rw [show fA f t = f from by unfold fA; rw [fA2 h0 h1 h2]; exact if_neg hz]; exact imp  _)))
        · skip
          have hz : (fDelete f (nm t.v)).2.2 = 0 := by simpa using hc
          refine WP.sk (.thn ?_)
          refine WP.seq ?_
          refine WP.region ?_
          refine WL.op (lbs 0 rfl ag_family_Family (ot rfl) (le_ rfl)) (by decide) ?_
          refine WL.store 1 rfl (ot rfl) (ot rfl) (.agg _) sz_family_Family rfl (le_ rfl) ?_
          refine WL.nl (.thn ?_)
          exact WP.rt (.rB rfl (.bx 1 rfl rfl ag_family_Family) (by rw [show fA f t = (fDelete f (nm t.v)).1 from by unfold fA; rw [fA2 h0 h1 h2]; exact if_pos hz]; exact imp  _))
      · skip
        have h2 : ¬ t.k % 8 = 2 := of_decide_eq_false hc
        refine WP.seq ?_
        refine WP.region ?_
        refine WL.op (eql (ot rfl) (oc _)) (by decide) ?_
        refine WL.op (asg (ot rfl)) (by decide) ?_
        refine WL.nl (.thn ?_)
        refine WP.cond rfl (fun hc => ?_) (fun hc => ?_)
        · skip
          have h3 : t.k % 8 = 3 := of_decide_eq_true hc
          refine WP.region ?_
          refine WL.op (lbs 3 rfl ag_family_Family (ot rfl) (le_ rfl)) (by decide) ?_
          refine WL.op (mv (ot rfl)) (by decide) ?_
          refine WL.op (fv fo_ef36_Step_3 (ot rfl)) (by decide) ?_
          refine WL.op (lb 2 rfl sc_uint8 (ot rfl) rfl) (by decide) ?_
          refine WL.op (cv un_uint8 un_int (ot rfl) (IntWalk.i64_in _ (by omega))) (by decide) ?_
          refine WL.op (fv fo_ef36_Step_4 (ot rfl)) (by decide) ?_
          refine WL.op (lb 2 rfl sc_uint8 (ot rfl) rfl) (by decide) ?_
          refine WL.op (cv un_uint8 un_int (ot rfl) (IntWalk.i64_in _ (by omega))) (by decide) ?_
          refine WL.op (call (c_family_Family_Unmap h) (.c (ot rfl) (.c (ot rfl) (.c (ot rfl) (.c (ot rfl) .n))))) (by decide) ?_
          refine WL.op (mv (ot rfl)) (by decide) ?_
          refine WL.op (ex (ot rfl) rfl) (by decide) ?_
          refine WL.op (ex (ot rfl) rfl) (by decide) ?_
          refine WL.op (ex (ot rfl) rfl) (by decide) ?_
          refine WL.store 0 rfl (ot rfl) (ot rfl) (.agg _) sz_family_Family rfl (le_ rfl) ?_
          refine WL.op (asg (ot rfl)) (by decide) ?_
          refine WL.nl (.blk (.thn ?_))
          refine WP.seq ?_
          refine WP.seq ?_
          refine WP.region ?_
          refine WL.op (mv (ot rfl)) (by decide) ?_
          refine WL.op (neq (ot rfl) (oc _)) (by decide) ?_
          refine WL.nl (.thn ?_)
          refine WP.cond rfl (fun hc => ?_) (fun hc => ?_)
          · skip
            have hz : ¬ (fUnmap f (nm t.v) t.a t.n).2.2 = 0 := by simpa using hc
            refine WP.seq ?_
            refine WP.region ?_
            refine WL.op (lbs 3 rfl ag_family_Family (ot rfl) (le_ rfl)) (by decide) ?_
            refine WL.store 1 rfl (ot rfl) (ot rfl) (.agg _) sz_family_Family rfl (le_ rfl) ?_
            refine WL.nl (.thn ?_)
            exact WP.rt (.rthn (.rB rfl (.bx 1 rfl rfl ag_family_Family) (by rw [show fA f t = f from by unfold fA; rw [fA3 h0 h1 h2 h3]; exact if_neg hz]; exact imp  _)))
          · skip
            have hz : (fUnmap f (nm t.v) t.a t.n).2.2 = 0 := by simpa using hc
            refine WP.sk (.thn ?_)
            refine WP.seq ?_
            refine WP.region ?_
            refine WL.op (lbs 0 rfl ag_family_Family (ot rfl) (le_ rfl)) (by decide) ?_
            refine WL.store 1 rfl (ot rfl) (ot rfl) (.agg _) sz_family_Family rfl (le_ rfl) ?_
            refine WL.nl (.thn ?_)
            exact WP.rt (.rB rfl (.bx 1 rfl rfl ag_family_Family) (by rw [show fA f t = (fUnmap f (nm t.v) t.a t.n).1 from by unfold fA; rw [fA3 h0 h1 h2 h3]; exact if_pos hz]; exact imp  _))
        · skip
          have h3 : ¬ t.k % 8 = 3 := of_decide_eq_false hc
          refine WP.region ?_
          refine WL.op (lbs 3 rfl ag_family_Family (ot rfl) (le_ rfl)) (by decide) ?_
          refine WL.op (mv (ot rfl)) (by decide) ?_
          refine WL.op (fv fo_ef36_Step_3 (ot rfl)) (by decide) ?_
          refine WL.op (lb 2 rfl sc_uint8 (ot rfl) rfl) (by decide) ?_
          refine WL.op (cv un_uint8 un_int (ot rfl) (IntWalk.i64_in _ (by omega))) (by decide) ?_
          refine WL.op (fv fo_ef36_Step_4 (ot rfl)) (by decide) ?_
          refine WL.op (lb 2 rfl sc_uint8 (ot rfl) rfl) (by decide) ?_
          refine WL.op (cv un_uint8 un_int (ot rfl) (IntWalk.i64_in _ (by omega))) (by decide) ?_
          refine WL.op (fv fo_ef36_Step_5 (ot rfl)) (by decide) ?_
          refine WL.op (lb 2 rfl sc_uint8 (ot rfl) rfl) (by decide) ?_
          refine WL.op (cv un_uint8 un_int (ot rfl) (IntWalk.i64_in _ (by omega))) (by decide) ?_
          refine WL.op (bld zr_Extent rfl ps_Extent (.c (ot rfl) (.leaf (.val rfl)) pl_Extent_0 rfl (le_ rfl) (.c (ot rfl) (.leaf (.val rfl)) pl_Extent_1 rfl (le_ rfl) (.c (ot rfl) (.leaf (.val rfl)) pl_Extent_2 rfl (le_ rfl) .n)))) (by decide) ?_
          refine WL.op (call (c_family_Family_Assign (x := t.x) h) (.c (ot rfl) (.c (ot rfl) (.c (ot rfl) .n)))) (by decide) ?_
          refine WL.op (mv (ot rfl)) (by decide) ?_
          refine WL.op (ex (ot rfl) rfl) (by decide) ?_
          refine WL.op (ex (ot rfl) rfl) (by decide) ?_
          refine WL.op (ex (ot rfl) rfl) (by decide) ?_
          refine WL.store 0 rfl (ot rfl) (ot rfl) (.agg _) sz_family_Family rfl (le_ rfl) ?_
          refine WL.op (asg (ot rfl)) (by decide) ?_
          refine WL.nl (.blk (.thn ?_))
          refine WP.seq ?_
          refine WP.seq ?_
          refine WP.region ?_
          refine WL.op (mv (ot rfl)) (by decide) ?_
          refine WL.op (neq (ot rfl) (oc _)) (by decide) ?_
          refine WL.nl (.thn ?_)
          refine WP.cond rfl (fun hc => ?_) (fun hc => ?_)
          · skip
            have hz : ¬ (fAssign f (nm t.v) t.x).2.2 = 0 := by simpa using hc
            refine WP.seq ?_
            refine WP.region ?_
            refine WL.op (lbs 3 rfl ag_family_Family (ot rfl) (le_ rfl)) (by decide) ?_
            refine WL.store 1 rfl (ot rfl) (ot rfl) (.agg _) sz_family_Family rfl (le_ rfl) ?_
            refine WL.nl (.thn ?_)
            exact WP.rt (.rthn (.rB rfl (.bx 1 rfl rfl ag_family_Family) (by rw [show fA f t = f from by unfold fA; rw [fA4 h0 h1 h2 h3]; exact if_neg hz]; exact imp  _)))
          · skip
            have hz : (fAssign f (nm t.v) t.x).2.2 = 0 := by simpa using hc
            refine WP.sk (.thn ?_)
            refine WP.seq ?_
            refine WP.region ?_
            refine WL.op (lbs 0 rfl ag_family_Family (ot rfl) (le_ rfl)) (by decide) ?_
            refine WL.store 1 rfl (ot rfl) (ot rfl) (.agg _) sz_family_Family rfl (le_ rfl) ?_
            refine WL.nl (.thn ?_)
            exact WP.rt (.rB rfl (.bx 1 rfl rfl ag_family_Family) (by rw [show fA f t = (fAssign f (nm t.v) t.x).1 from by unfold fA; rw [fA4 h0 h1 h2 h3]; exact if_pos hz]; exact imp  _))
theorem c_w37_build {m : Int} {sc : List St6} (hm : 0 ≤ m ∧ m ≤ 255) (hl : sc.length ≤ 100000) (ht : ∀ t ∈ sc, t.U8) : PureC Tryz.prog 40 [val (.int .u8 m), sl 6 FS6 sc] (tup [eF (runP (m % 50).toNat sc).1, eG (runP (m % 50).toNat sc).2]) := by
  refine PureC.of_wp Tryz.func40 (by kernel_rfl) rfl Tryz.ntmps40 (le_ rfl) (fun w0 M0 => ?_)
  refine WP.seq ?_
  refine WP.region ?_
  refine WL.alloc zr_family_Family rfl (by decide) fun b4 => ?_
  refine WL.alloc zr_ef36_Family rfl (by decide) fun b5 => ?_
  refine WL.nl (.thn ?_)
  refine WP.seq ?_
  refine WP.region ?_
  refine WL.op (mv (ot rfl)) (by decide) ?_
  refine WL.op (rem_ (ot rfl) (oc _) (by omega) (by omega)) (by decide) ?_
  refine WL.op (OpG.weak (R' := I ((m % 50).toNat : Int)) (cv un_uint8 un_int (ot rfl) (IntWalk.i64_in _ (by omega))) (imp_eq (congrArg I (by omega)))) (by decide) ?_
  refine WL.op (call (c_family_New (k := (m % 50).toNat) (by omega)) (.c (ot rfl) .n)) (by decide) ?_
  refine WL.op (mv (ot rfl)) (by decide) ?_
  refine WL.op (ex (ot rfl) rfl) (by decide) ?_
  refine WL.op (ex (ot rfl) rfl) (by decide) ?_
  refine WL.alloc zr_family_Family rfl (by decide) fun b6 => ?_
  refine WL.store 0 rfl (ot rfl) (ot rfl) (.agg _) sz_family_Family rfl (le_ rfl) ?_
  refine WL.op (asg (ot rfl)) (by decide) ?_
  refine WL.nl (.thn ?_)
  refine WP.seq ?_
  refine WP.seq ?_
  refine WP.region ?_
  refine WL.op (asg (oc _)) (by decide) ?_
  refine WL.nl (.thn ?_)
  refine WP.block ?_
  refine WP.loop (fun y : Nat => [.b b6 28 [sl 1 FI (runP (m % 50).toNat (sc.take y)).1.cs, mp FV (runP (m % 50).toNat (sc.take y)).1.vs], .b b5 45 [I 0, val nilS], .b b4 28 [val nilS, val (.map none)]]) (fun y => [(8, I (y : Int)), (6, val (.pointer (some ⟨b6, 0, none⟩))), (5, val (.pointer (some ⟨b5, 0, none⟩))), (4, val (.pointer (some ⟨b4, 0, none⟩))), (1, sl 6 FS6 sc), (0, val (.int .u8 m))]) (fun y => y ≤ sc.length) (fun y => sc.length - y) 0 (Nat.zero_le _) (Sub.ofD 0 rfl (Sub.cons rfl (imp_eq rfl) (Sub.cons rfl (imp  _) (Sub.cons rfl (imp  _) (Sub.cons rfl (imp  _) (Sub.cons rfl (imp  _) (Sub.cons rfl (imp  _) Sub.nil))))))) (fun i hi => ?_)
  replace hi : i ≤ sc.length := hi
  show WP _ _ _ _ [.b b6 28 [sl 1 FI (runP (m % 50).toNat (sc.take i)).1.cs, mp FV (runP (m % 50).toNat (sc.take i)).1.vs], .b b5 45 [I 0, val nilS], .b b4 28 [val nilS, val (.map none)]] [(8, I (i : Int)), (6, val (.pointer (some ⟨b6, 0, none⟩))), (5, val (.pointer (some ⟨b5, 0, none⟩))), (4, val (.pointer (some ⟨b4, 0, none⟩))), (1, sl 6 FS6 sc), (0, val (.int .u8 m))] _ _
  refine WP.seq ?_
  refine WP.seq ?_
  refine WP.region ?_
  refine WL.op (mv (ot rfl)) (by decide) ?_
  refine WL.op (mv (ot rfl)) (by decide) ?_
  refine WL.op (len_ us_s_tegularef36_Step (ot rfl)) (by decide) ?_
  refine WL.op (lss (ot rfl) (ot rfl)) (by decide) ?_
  refine WL.nl (.thn ?_)
  refine WP.cond rfl (fun hc => ?_) (fun hc => ?_)
  · skip
    have hc1 : i < sc.length := by have := of_decide_eq_true hc; omega
    have hrs := run_rs (k := (m % 50).toNat) (sc := sc.take i) (by omega) fun t h => ht t (List.mem_of_mem_take h)
    refine WP.sk (.thn ?_)
    refine WP.seq ?_
    refine WP.block ?_
    refine WP.draws ?_
    refine RG.op (lbs 0 rfl ag_family_Family (ot rfl) (le_ rfl)) ?_
    refine RG.op (mv (ot rfl)) ?_
    refine RG.op (mv (ot rfl)) ?_
    refine RG.op (ixd el_s_tegularef36_Step (ot rfl) (ot rfl) (by omega) (by omega)) ?_
    refine RG.op (ls ag_ef36_Step (ot rfl) (le_ rfl)) ?_
    refine RG.op (call (c_w37_apply (f := (runP (m % 50).toNat (sc.take i)).1) (t := (sc.getD (i : Int).toNat default)) hrs.rel.fw (ht _ (getS_mem hc1))) (.c (ot rfl) (.c (ot rfl) .n))) ?_
    refine RG.fin HM (by kernel_rfl) ?_
    show WL _ _ _ _ _ _ _ _ _
    refine WL.store 0 rfl (ot rfl) (ot rfl) (.agg _) sz_family_Family rfl (le_ rfl) ?_
    refine WL.nl (.blk (.thn ?_))
    refine WP.region ?_
    refine WL.op (mv (ot rfl)) (by decide) ?_
    refine WL.op (add (ot rfl) (oc _) (by omega)) (by decide) ?_
    refine WL.op (asg (ot rfl)) (by decide) ?_
    exact WL.nl (.again (i + 1) hc1 (by omega) (Sub.ofD 0 (by rw [run_step hc1, fA_ap hrs.rel]; rfl) (Sub.cons rfl (imp_eq (congrArg I (by omega))) (Sub.cons rfl (imp  _) (Sub.cons rfl (imp  _) (Sub.cons rfl (imp  _) (Sub.cons rfl (imp  _) (Sub.cons rfl (imp  _) Sub.nil))))))))
  · skip
    have hc1 : ¬ i < sc.length := by have := of_decide_eq_false hc; omega
    refine WP.xt (.xthn (.xthn (.xin (.thn ?_))))
    refine WP.seq ?_
    refine WP.draws ?_
    refine RG.op (lbs 0 rfl ag_family_Family (ot rfl) (le_ rfl)) ?_
    refine RG.op (mv (ot rfl)) ?_
    refine RG.op (rem_ (ot rfl) (oc _) (by omega) (by omega)) ?_
    refine RG.op (OpG.weak (R' := I ((m % 50).toNat : Int)) (cv un_uint8 un_int (ot rfl) (IntWalk.i64_in _ (by omega))) (imp_eq (congrArg I (by omega)))) ?_
    refine RG.op (mv (ot rfl)) ?_
    refine RG.op (call (c_r36_Run (k := (m % 50).toNat) (sc := sc) (by omega) (by omega) ht) (.c (ot rfl) (.c (ot rfl) .n))) ?_
    refine RG.fin HM (by kernel_rfl) ?_
    show WL _ _ _ _ _ _ _ _ _
    refine WL.store 2 rfl (ot rfl) (ot rfl) (.agg _) sz_family_Family rfl (le_ rfl) ?_
    refine WL.store 1 rfl (ot rfl) (ot rfl) (.agg _) sz_ef36_Family rfl (le_ rfl) ?_
    refine WL.nl (.thn ?_)
    exact WP.rt (.rN rfl (.cons (.bx 2 rfl rfl ag_family_Family) (.cons (.bx 1 rfl rfl ag_ef36_Family) .nil)) (le_ rfl) (imp_eq (by rw [← run_all (k := (m % 50).toNat) (sc := sc) (i := i) (by omega)]; rfl)))
end Go.Proofs.YtjglgfnhgehpeaaGreat

/- Sizes and places of this program's types, each asked of the kernel. -/
namespace Go.Proofs.YtjglgfnhgehpeaaGreat
open Go.Fw
theorem ao_2_uint8_0 : arrOff Tryz.prog 93 0 = some 0 := by kernel_rfl
theorem ao_2_uint8_1 : arrOff Tryz.prog 93 1 = some 1 := by kernel_rfl
end Go.Proofs.YtjglgfnhgehpeaaGreat

/- The law of space accounting: the numbers. -/
set_option linter.unusedVariables false
set_option linter.unusedSimpArgs false
set_option maxRecDepth 4000
namespace Go.Proofs.YtjglgfnhgehpeaaGreat
open Go.RowKit Go.Fw Go.Xt
theorem c_w37_ThinNumbers {m : Int} {sc : List St6} (hm : 0 ≤ m ∧ m ≤ 255) (ht : ∀ t ∈ sc, t.U8) : PureC Tryz.prog 10 [val (.int .u8 m), sl 6 FS6 sc] (val (.bool true)) := by
  obtain ⟨p, hp⟩ : ∃ p, runP (m % 50).toNat sc = p := ⟨_, rfl⟩
  have hrs : RS p := hp ▸ run_rs (by omega) ht
  have hb : sc.length ≤ 25 → PureC Tryz.prog 40 [val (.int .u8 m), sl 6 FS6 sc] (tup [eF p.1, eG p.2]) := fun h => hp ▸ c_w37_build hm (by omega) ht
  obtain ⟨f, g⟩ := p
  have hr : Rel f g := hrs.rel
  have hsm : Sm g := hrs.sm
  have hgn := hr.ok.num
  have hgk := hr.ok.k
  refine PureC.of_wp Tryz.func10 (by kernel_rfl) rfl Tryz.ntmps10 (le_ rfl) (fun w0 M0 => ?_)
  refine WP.seq ?_
  refine WP.region ?_
  refine WL.op (asg (oc _)) (by decide) ?_
  refine WL.nl (.thn ?_)
  refine WP.seq ?_
  refine WP.seq ?_
  refine WP.region ?_
  refine WL.op (call c_w37_awake .n) (by decide) ?_
  refine WL.op (not_ (ot rfl)) (by decide) ?_
  refine WL.nl (.thn ?_)
  refine WP.condF rfl ?_
  refine WP.sk (.thn ?_)
  refine WP.seq ?_
  refine WP.seq ?_
  refine WP.region ?_
  refine WL.op (mv (ot rfl)) (by decide) ?_
  refine WL.op (len_ us_s_tegularef36_Step (ot rfl)) (by decide) ?_
  refine WL.op (gtr (ot rfl) (oc _)) (by decide) ?_
  refine WL.nl (.thn ?_)
  refine WP.cond rfl (fun hc => ?_) (fun hc => ?_)
  · skip
    refine WP.seq ?_
    refine WP.region ?_
    refine WL.op (asg (oc _)) (by decide) ?_
    refine WL.nl (.thn ?_)
    exact WP.rt (.rthn (.r1 rfl rfl (imp _)))
  · skip
    have hc2 : sc.length ≤ 20 := by have := of_decide_eq_false hc; omega
    refine WP.sk (.thn ?_)
    refine WP.seq ?_
    refine WP.region ?_
    refine WL.op (mv (ot rfl)) (by decide) ?_
    refine WL.op (mv (ot rfl)) (by decide) ?_
    refine WL.op (call (hb (by omega)) (.c (ot rfl) (.c (ot rfl) .n))) (by decide) ?_
    refine WL.op (mv (ot rfl)) (by decide) ?_
    refine WL.op (ex (ot rfl) rfl) (by decide) ?_
    refine WL.op (ex (ot rfl) rfl) (by decide) ?_
    refine WL.alloc zr_family_Family rfl (by decide) fun b5 => ?_
    refine WL.alloc zr_ef36_Family rfl (by decide) fun b6 => ?_
    refine WL.store 1 rfl (ot rfl) (ot rfl) (.agg _) sz_family_Family rfl (le_ rfl) ?_
    refine WL.store 0 rfl (ot rfl) (ot rfl) (.agg _) sz_ef36_Family rfl (le_ rfl) ?_
    refine WL.nl (.thn ?_)
    refine WP.seq ?_
    refine WP.seq ?_
    refine WP.region ?_
    refine WL.op (asg (oc _)) (by decide) ?_
    refine WL.nl (.thn ?_)
    refine WP.block ?_
    refine WP.loop (fun y : Nat => [.b b6 45 [I (g.k : Int), sl 4 FRV g.vs], .b b5 28 [sl 1 FI f.cs, mp FV f.vs]]) (fun y => [(7, I (y : Int)), (6, val (.pointer (some ⟨b6, 0, none⟩))), (5, val (.pointer (some ⟨b5, 0, none⟩)))]) (fun y => y ≤ 6) (fun y => 6 - y) 0 (by omega) (Sub.ofD 0 rfl (Sub.cons rfl (imp_eq rfl) (Sub.cons rfl (imp  _) (Sub.cons rfl (imp  _) Sub.nil)))) (fun n hi => ?_)
    replace hi : n ≤ 6 := hi
    show WP _ _ _ _ [.b b6 45 [I (g.k : Int), sl 4 FRV g.vs], .b b5 28 [sl 1 FI f.cs, mp FV f.vs]] [(7, I (n : Int)), (6, val (.pointer (some ⟨b6, 0, none⟩))), (5, val (.pointer (some ⟨b5, 0, none⟩)))] _ _
    refine WP.seq ?_
    refine WP.seq ?_
    refine WP.region ?_
    refine WL.op (mv (ot rfl)) (by decide) ?_
    refine WL.op (lss (ot rfl) (oc _)) (by decide) ?_
    refine WL.nl (.thn ?_)
    refine WP.cond rfl (fun hc => ?_) (fun hc => ?_)
    · skip
      have hc1 : n < 6 := by have := of_decide_eq_true hc; omega
      refine WP.sk (.thn ?_)
      refine WP.seq ?_
      refine WP.block ?_
      refine WP.seq ?_
      refine WP.region ?_
      refine WL.op (mv (ot rfl)) (by decide) ?_
      refine WL.op (cv un_int un_uint8 (ot rfl) (IntWalk.u8_in _ (by omega))) (by decide) ?_
      refine WL.op (call (c_r36_Names (n := (n : Int)) (by omega)) (.c (ot rfl) .n)) (by decide) ?_
      refine WL.op (asg (ot rfl)) (by decide) ?_
      refine WL.nl (.thn ?_)
      refine WP.seq ?_
      refine WP.region ?_
      refine WL.op (lbs 1 rfl ag_family_Family (ot rfl) (le_ rfl)) (by decide) ?_
      refine WL.op (mv (ot rfl)) (by decide) ?_
      refine WL.op (call (c_thin_Claim hr) (.c (ot rfl) (.c (ot rfl) .n))) (by decide) ?_
      refine WL.op (mv (ot rfl)) (by decide) ?_
      refine WL.op (ex (ot rfl) rfl) (by decide) ?_
      refine WL.op (ex (ot rfl) rfl) (by decide) ?_
      refine WL.op (asg (ot rfl)) (by decide) ?_
      refine WL.op (asg (ot rfl)) (by decide) ?_
      refine WL.nl (.thn ?_)
      refine WP.seq ?_
      refine WP.region ?_
      refine WL.op (lbs 0 rfl ag_ef36_Family (ot rfl) (le_ rfl)) (by decide) ?_
      refine WL.op (mv (ot rfl)) (by decide) ?_
      refine WL.op (call (c_r37_Claim hr.ok) (.c (ot rfl) (.c (ot rfl) .n))) (by decide) ?_
      refine WL.op (mv (ot rfl)) (by decide) ?_
      refine WL.op (ex (ot rfl) rfl) (by decide) ?_
      refine WL.op (ex (ot rfl) rfl) (by decide) ?_
      refine WL.op (asg (ot rfl)) (by decide) ?_
      refine WL.op (asg (ot rfl)) (by decide) ?_
      refine WL.nl (.thn ?_)
      refine WP.seq ?_
      refine WP.region ?_
      refine WL.op (mv (ot rfl)) (by decide) ?_
      refine WL.op (mv (ot rfl)) (by decide) ?_
      refine WL.op (OpG.weak (R' := val (.bool false)) (neq  (ot rfl) (ot rfl)) (imp_eq (congrArg (fun b => val (.bool b)) (by rw [decide_eq_true rfl]; rfl)))) (by decide) ?_
      refine WL.op (mv (ot rfl)) (by decide) ?_
      refine WL.gT rfl rfl ?_ -- g3
      refine WL.op (mv (ot rfl)) (by decide) ?_
      refine WL.gT rfl rfl ?_ -- g3
      refine WL.op (mv (ot rfl)) (by decide) ?_
      refine WL.gT rfl rfl ?_ -- g3
      refine WL.op (OpG.weak (R' := val (.bool false)) (neq  (ot rfl) (ot rfl)) (imp_eq (congrArg (fun b => val (.bool b)) (by rw [decide_eq_true rfl]; rfl)))) (by decide) ?_
      refine WL.op (pickF (ot rfl) (ot rfl)) (by decide) ?_
      refine WL.nl (.thn ?_)
      refine WP.condF rfl ?_
      refine WP.sk (.blk (.thn ?_))
      refine WP.region ?_
      refine WL.op (mv (ot rfl)) (by decide) ?_
      refine WL.op (add (ot rfl) (oc _) (by omega)) (by decide) ?_
      refine WL.op (asg (ot rfl)) (by decide) ?_
      exact WL.nl (.again (n + 1) (by omega) (by omega) (Sub.ofD 0 rfl (Sub.cons rfl (imp_eq (congrArg I (by omega))) (Sub.cons rfl (imp  _) (Sub.cons rfl (imp  _) Sub.nil)))))
    · skip
      refine WP.xt (.xthn (.xthn (.xin (.thn ?_))))
      refine WP.seq ?_
      refine WP.draws ?_
      refine RG.op (lbs 1 rfl ag_family_Family (ot rfl) (le_ rfl)) ?_
      refine RG.op (call (c_thin_Claims hr) (.c (ot rfl) .n)) ?_
      refine RG.op (lbs 0 rfl ag_ef36_Family (ot rfl) (le_ rfl)) ?_
      refine RG.op (call (c_r37_Claims hr.ok) (.c (ot rfl) .n)) ?_
      refine RG.op (OpG.weak (R' := val (.bool true)) (eql  (ot rfl) (ot rfl)) (imp_eq (congrArg (fun b => val (.bool b)) (by rw [decide_eq_true rfl])))) ?_
      refine RG.op (mv (ot rfl)) ?_
      refine RG.gd rfl rfl (Tells.v _ _) (fun hg => lbs 1 rfl ag_family_Family (ot rfl) (le_ rfl)) ?_
      refine RG.gd rfl rfl (Tells.v _ _) (fun hg => call (c_thin_Room hr) (.c (og rfl hg) .n)) ?_
      refine RG.gd rfl rfl (Tells.v _ _) (fun hg => lbs 0 rfl ag_ef36_Family (ot rfl) (le_ rfl)) ?_
      refine RG.gd rfl rfl (Tells.v _ _) (fun hg => call (c_r37_Room hr.ok) (.c (og rfl hg) .n)) ?_
      refine RG.gd rfl rfl (Tells.v _ _) (fun hg => OpG.weak (R' := val (.bool true)) (eql  (og rfl hg) (og rfl hg)) (imp_eq (congrArg (fun b => val (.bool b)) (by rw [decide_eq_true rfl])))) ?_
      refine RG.op (and_ (ot rfl) (ot rfl)) ?_
      refine RG.op (asg (ot rfl)) ?_
      refine RG.fin HM (by kernel_rfl) ?_
      show WL _ _ _ _ _ _ _ _ _
      refine WL.nl (.thn ?_)
      exact WP.rt (.r1 rfl rfl (imp _))
end Go.Proofs.YtjglgfnhgehpeaaGreat

/- The law of space accounting: the need. -/
set_option linter.unusedVariables false
set_option linter.unusedSimpArgs false
set_option maxRecDepth 4000
namespace Go.Proofs.YtjglgfnhgehpeaaGreat
open Go.RowKit Go.Fw Go.Xt
theorem c_w37_ThinNeed {m : Int} {sc : List St6} {x z : Int} (hm : 0 ≤ m ∧ m ≤ 255) (ht : ∀ t ∈ sc, t.U8) : PureC Tryz.prog 11 [val (.int .u8 m), sl 6 FS6 sc, agg [I x, I z]] (val (.bool true)) := by
  obtain ⟨p, hp⟩ : ∃ p, runP (m % 50).toNat sc = p := ⟨_, rfl⟩
  have hrs : RS p := hp ▸ run_rs (by omega) ht
  have hb : sc.length ≤ 25 → PureC Tryz.prog 40 [val (.int .u8 m), sl 6 FS6 sc] (tup [eF p.1, eG p.2]) := fun h => hp ▸ c_w37_build hm (by omega) ht
  obtain ⟨f, g⟩ := p
  have hr : Rel f g := hrs.rel
  have hsm : Sm g := hrs.sm
  have hgn := hr.ok.num
  have hgk := hr.ok.k
  refine PureC.of_wp Tryz.func11 (by kernel_rfl) rfl Tryz.ntmps11 (le_ rfl) (fun w0 M0 => ?_)
  refine WP.seq ?_
  refine WP.region ?_
  refine WL.box (ot rfl) (.agg _) (by decide) fun b5 => ?_
  refine WL.op (asg (oc _)) (by decide) ?_
  refine WL.nl (.thn ?_)
  refine WP.seq ?_
  refine WP.seq ?_
  refine WP.region ?_
  refine WL.op (call c_w37_awake .n) (by decide) ?_
  refine WL.op (not_ (ot rfl)) (by decide) ?_
  refine WL.nl (.thn ?_)
  refine WP.condF rfl ?_
  refine WP.sk (.thn ?_)
  refine WP.seq ?_
  refine WP.seq ?_
  refine WP.region ?_
  refine WL.op (mv (ot rfl)) (by decide) ?_
  refine WL.op (len_ us_s_tegularef36_Step (ot rfl)) (by decide) ?_
  refine WL.op (gtr (ot rfl) (oc _)) (by decide) ?_
  refine WL.nl (.thn ?_)
  refine WP.cond rfl (fun hc => ?_) (fun hc => ?_)
  · skip
    refine WP.seq ?_
    refine WP.region ?_
    refine WL.op (asg (oc _)) (by decide) ?_
    refine WL.nl (.thn ?_)
    exact WP.rt (.rthn (.r1 rfl rfl (imp _)))
  · skip
    have hc2 : sc.length ≤ 20 := by have := of_decide_eq_false hc; omega
    refine WP.sk (.thn ?_)
    refine WP.seq ?_
    refine WP.region ?_
    refine WL.op (mv (ot rfl)) (by decide) ?_
    refine WL.op (mv (ot rfl)) (by decide) ?_
    refine WL.op (call (hb (by omega)) (.c (ot rfl) (.c (ot rfl) .n))) (by decide) ?_
    refine WL.op (mv (ot rfl)) (by decide) ?_
    refine WL.op (ex (ot rfl) rfl) (by decide) ?_
    refine WL.op (ex (ot rfl) rfl) (by decide) ?_
    refine WL.alloc zr_family_Family rfl (by decide) fun b7 => ?_
    refine WL.alloc zr_ef36_Family rfl (by decide) fun b8 => ?_
    refine WL.store 1 rfl (ot rfl) (ot rfl) (.agg _) sz_family_Family rfl (le_ rfl) ?_
    refine WL.store 0 rfl (ot rfl) (ot rfl) (.agg _) sz_ef36_Family rfl (le_ rfl) ?_
    refine WL.nl (.thn ?_)
    refine WP.seq ?_
    refine WP.seq ?_
    refine WP.region ?_
    refine WL.op (asg (oc _)) (by decide) ?_
    refine WL.nl (.thn ?_)
    refine WP.block ?_
    refine WP.loop (fun y : Nat => [.b b8 45 [I (g.k : Int), sl 4 FRV g.vs], .b b7 28 [sl 1 FI f.cs, mp FV f.vs], .b b5 74 [I x, I z]]) (fun y => [(9, I (y : Int)), (8, val (.pointer (some ⟨b8, 0, none⟩))), (7, val (.pointer (some ⟨b7, 0, none⟩))), (5, val (.pointer (some ⟨b5, 0, none⟩)))]) (fun y => y ≤ 6) (fun y => 6 - y) 0 (by omega) (Sub.ofD 0 rfl (Sub.cons rfl (imp_eq rfl) (Sub.cons rfl (imp  _) (Sub.cons rfl (imp  _) (Sub.cons rfl (imp  _) Sub.nil))))) (fun n hi => ?_)
    replace hi : n ≤ 6 := hi
    show WP _ _ _ _ [.b b8 45 [I (g.k : Int), sl 4 FRV g.vs], .b b7 28 [sl 1 FI f.cs, mp FV f.vs], .b b5 74 [I x, I z]] [(9, I (n : Int)), (8, val (.pointer (some ⟨b8, 0, none⟩))), (7, val (.pointer (some ⟨b7, 0, none⟩))), (5, val (.pointer (some ⟨b5, 0, none⟩)))] _ _
    refine WP.seq ?_
    refine WP.seq ?_
    refine WP.region ?_
    refine WL.op (mv (ot rfl)) (by decide) ?_
    refine WL.op (lss (ot rfl) (oc _)) (by decide) ?_
    refine WL.nl (.thn ?_)
    refine WP.cond rfl (fun hc => ?_) (fun hc => ?_)
    · skip
      have hc1 : n < 6 := by have := of_decide_eq_true hc; omega
      refine WP.sk (.thn ?_)
      refine WP.seq ?_
      refine WP.block ?_
      refine WP.seq ?_
      refine WP.region ?_
      refine WL.op (mv (ot rfl)) (by decide) ?_
      refine WL.op (cv un_int un_uint8 (ot rfl) (IntWalk.u8_in _ (by omega))) (by decide) ?_
      refine WL.op (call (c_r36_Names (n := (n : Int)) (by omega)) (.c (ot rfl) .n)) (by decide) ?_
      refine WL.op (asg (ot rfl)) (by decide) ?_
      refine WL.nl (.thn ?_)
      refine WP.seq ?_
      refine WP.region ?_
      refine WL.op (lbs 1 rfl ag_family_Family (ot rfl) (le_ rfl)) (by decide) ?_
      refine WL.op (mv (ot rfl)) (by decide) ?_
      refine WL.op (ia ao_2_int_0 (ot rfl)) (by decide) ?_
      refine WL.op (lb 2 rfl sc_int (ot rfl) rfl) (by decide) ?_
      refine WL.op (ia ao_2_int_1 (ot rfl)) (by decide) ?_
      refine WL.op (lb 2 rfl sc_int (ot rfl) rfl) (by decide) ?_
      refine WL.op (call (c_thin_Need hr) (.c (ot rfl) (.c (ot rfl) (.c (ot rfl) (.c (ot rfl) .n))))) (by decide) ?_
      refine WL.op (mv (ot rfl)) (by decide) ?_
      refine WL.op (ex (ot rfl) rfl) (by decide) ?_
      refine WL.op (ex (ot rfl) rfl) (by decide) ?_
      refine WL.op (asg (ot rfl)) (by decide) ?_
      refine WL.op (asg (ot rfl)) (by decide) ?_
      refine WL.nl (.thn ?_)
      refine WP.seq ?_
      refine WP.region ?_
      refine WL.op (lbs 0 rfl ag_ef36_Family (ot rfl) (le_ rfl)) (by decide) ?_
      refine WL.op (mv (ot rfl)) (by decide) ?_
      refine WL.op (ia ao_2_int_0 (ot rfl)) (by decide) ?_
      refine WL.op (lb 2 rfl sc_int (ot rfl) rfl) (by decide) ?_
      refine WL.op (ia ao_2_int_1 (ot rfl)) (by decide) ?_
      refine WL.op (lb 2 rfl sc_int (ot rfl) rfl) (by decide) ?_
      refine WL.op (call (c_r37_Need hr.ok hsm) (.c (ot rfl) (.c (ot rfl) (.c (ot rfl) (.c (ot rfl) .n))))) (by decide) ?_
      refine WL.op (mv (ot rfl)) (by decide) ?_
      refine WL.op (ex (ot rfl) rfl) (by decide) ?_
      refine WL.op (ex (ot rfl) rfl) (by decide) ?_
      refine WL.op (asg (ot rfl)) (by decide) ?_
      refine WL.op (asg (ot rfl)) (by decide) ?_
      refine WL.nl (.thn ?_)
      refine WP.seq ?_
      refine WP.draws ?_
      refine RG.op (mv (ot rfl)) ?_
      refine RG.op (mv (ot rfl)) ?_
      refine RG.op (OpG.weak (R' := val (.bool false)) (neq  (ot rfl) (ot rfl)) (imp_eq (congrArg (fun b => val (.bool b)) (by rw [decide_eq_true rfl]; rfl)))) ?_
      refine RG.op (mv (ot rfl)) ?_
      refine RG.gd rfl rfl (Tells.v _ _) (fun hg => mv (ot rfl)) ?_
      refine RG.gd rfl rfl (Tells.v _ _) (fun hg => mv (ot rfl)) ?_
      refine RG.gd rfl rfl (Tells.v _ _) (fun hg => OpG.weak (R' := val (.bool false)) (neq  (og rfl hg) (og rfl hg)) (imp_eq (congrArg (fun b => val (.bool b)) (by rw [decide_eq_true rfl]; rfl)))) ?_
      refine RG.op (or_ (ot rfl) (ot rfl)) ?_
      refine RG.op (mv (ot rfl)) ?_
      refine RG.gd rfl rfl (Tells.v _ _) (fun hg => lbs 1 rfl ag_family_Family (ot rfl) (le_ rfl)) ?_
      refine RG.gd rfl rfl (Tells.v _ _) (fun hg => mv (ot rfl)) ?_
      refine RG.gd rfl rfl (Tells.v _ _) (fun hg => ia ao_2_int_0 (ot rfl)) ?_
      refine RG.gd rfl rfl (Tells.v _ _) (fun hg => lb 2 rfl sc_int (og rfl hg) rfl) ?_
      refine RG.gd rfl rfl (Tells.v _ _) (fun hg => ia ao_2_int_1 (ot rfl)) ?_
      refine RG.gd rfl rfl (Tells.v _ _) (fun hg => lb 2 rfl sc_int (og rfl hg) rfl) ?_
      refine RG.gd rfl rfl (Tells.v _ _) (fun hg => call (c_thin_CanWrite hr) (.c (og rfl hg) (.c (og rfl hg) (.c (og rfl hg) (.c (og rfl hg) .n))))) ?_
      refine RG.gd rfl rfl (Tells.v _ _) (fun hg => lbs 0 rfl ag_ef36_Family (ot rfl) (le_ rfl)) ?_
      refine RG.gd rfl rfl (Tells.v _ _) (fun hg => mv (ot rfl)) ?_
      refine RG.gd rfl rfl (Tells.v _ _) (fun hg => ia ao_2_int_0 (ot rfl)) ?_
      refine RG.gd rfl rfl (Tells.v _ _) (fun hg => lb 2 rfl sc_int (og rfl hg) rfl) ?_
      refine RG.gd rfl rfl (Tells.v _ _) (fun hg => ia ao_2_int_1 (ot rfl)) ?_
      refine RG.gd rfl rfl (Tells.v _ _) (fun hg => lb 2 rfl sc_int (og rfl hg) rfl) ?_
      refine RG.gd rfl rfl (Tells.v _ _) (fun hg => call (c_r37_CanWrite hr.ok hsm) (.c (og rfl hg) (.c (og rfl hg) (.c (og rfl hg) (.c (og rfl hg) .n))))) ?_
      refine RG.gd rfl rfl (Tells.v _ _) (fun hg => OpG.weak (R' := val (.bool false)) (neq  (og rfl hg) (og rfl hg)) (imp_eq (congrArg (fun b => val (.bool b)) (by rw [decide_eq_true rfl]; rfl)))) ?_
      refine RG.op (or_ (ot rfl) (ot rfl)) ?_
      refine RG.fin HM (by kernel_rfl) ?_
      show WL _ _ _ _ _ _ _ _ _
      refine WL.nl (.thn ?_)
      refine WP.condF rfl ?_
      refine WP.sk (.blk (.thn ?_))
      refine WP.region ?_
      refine WL.op (mv (ot rfl)) (by decide) ?_
      refine WL.op (add (ot rfl) (oc _) (by omega)) (by decide) ?_
      refine WL.op (asg (ot rfl)) (by decide) ?_
      exact WL.nl (.again (n + 1) (by omega) (by omega) (Sub.ofD 0 rfl (Sub.cons rfl (imp_eq (congrArg I (by omega))) (Sub.cons rfl (imp  _) (Sub.cons rfl (imp  _) (Sub.cons rfl (imp  _) Sub.nil))))))
    · skip
      refine WP.xt (.xthn (.xthn (.xin (.thn ?_))))
      refine WP.seq ?_
      refine WP.region ?_
      refine WL.op (asg (oc _)) (by decide) ?_
      refine WL.nl (.thn ?_)
      exact WP.rt (.r1 rfl rfl (imp _))
end Go.Proofs.YtjglgfnhgehpeaaGreat

/- The law of space accounting: what is permitted. -/
set_option linter.unusedVariables false
set_option linter.unusedSimpArgs false
set_option maxRecDepth 4000
namespace Go.Proofs.YtjglgfnhgehpeaaGreat
open Go.RowKit Go.Fw Go.Xt
theorem c_w37_ThinPermits {m : Int} {sc : List St6} {x z : Int} (hm : 0 ≤ m ∧ m ≤ 255) (ht : ∀ t ∈ sc, t.U8) : PureC Tryz.prog 12 [val (.int .u8 m), sl 6 FS6 sc, agg [I x, I z]] (val (.bool true)) := by
  obtain ⟨p, hp⟩ : ∃ p, runP (m % 50).toNat sc = p := ⟨_, rfl⟩
  have hrs : RS p := hp ▸ run_rs (by omega) ht
  have hb : sc.length ≤ 25 → PureC Tryz.prog 40 [val (.int .u8 m), sl 6 FS6 sc] (tup [eF p.1, eG p.2]) := fun h => hp ▸ c_w37_build hm (by omega) ht
  obtain ⟨f, g⟩ := p
  have hr : Rel f g := hrs.rel
  have hsm : Sm g := hrs.sm
  have hgn := hr.ok.num
  have hgk := hr.ok.k
  refine PureC.of_wp Tryz.func12 (by kernel_rfl) rfl Tryz.ntmps12 (le_ rfl) (fun w0 M0 => ?_)
  refine WP.seq ?_
  refine WP.region ?_
  refine WL.box (ot rfl) (.agg _) (by decide) fun b5 => ?_
  refine WL.op (asg (oc _)) (by decide) ?_
  refine WL.nl (.thn ?_)
  refine WP.seq ?_
  refine WP.seq ?_
  refine WP.region ?_
  refine WL.op (call c_w37_awake .n) (by decide) ?_
  refine WL.op (not_ (ot rfl)) (by decide) ?_
  refine WL.nl (.thn ?_)
  refine WP.condF rfl ?_
  refine WP.sk (.thn ?_)
  refine WP.seq ?_
  refine WP.seq ?_
  refine WP.region ?_
  refine WL.op (mv (ot rfl)) (by decide) ?_
  refine WL.op (len_ us_s_tegularef36_Step (ot rfl)) (by decide) ?_
  refine WL.op (gtr (ot rfl) (oc _)) (by decide) ?_
  refine WL.nl (.thn ?_)
  refine WP.cond rfl (fun hc => ?_) (fun hc => ?_)
  · skip
    refine WP.seq ?_
    refine WP.region ?_
    refine WL.op (asg (oc _)) (by decide) ?_
    refine WL.nl (.thn ?_)
    exact WP.rt (.rthn (.r1 rfl rfl (imp _)))
  · skip
    have hc2 : sc.length ≤ 20 := by have := of_decide_eq_false hc; omega
    refine WP.sk (.thn ?_)
    refine WP.seq ?_
    refine WP.region ?_
    refine WL.op (mv (ot rfl)) (by decide) ?_
    refine WL.op (mv (ot rfl)) (by decide) ?_
    refine WL.op (call (hb (by omega)) (.c (ot rfl) (.c (ot rfl) .n))) (by decide) ?_
    refine WL.op (mv (ot rfl)) (by decide) ?_
    refine WL.op (ex (ot rfl) rfl) (by decide) ?_
    refine WL.op (ex (ot rfl) rfl) (by decide) ?_
    refine WL.alloc zr_family_Family rfl (by decide) fun b7 => ?_
    refine WL.alloc zr_ef36_Family rfl (by decide) fun b8 => ?_
    refine WL.store 1 rfl (ot rfl) (ot rfl) (.agg _) sz_family_Family rfl (le_ rfl) ?_
    refine WL.store 0 rfl (ot rfl) (ot rfl) (.agg _) sz_ef36_Family rfl (le_ rfl) ?_
    refine WL.nl (.thn ?_)
    refine WP.seq ?_
    refine WP.seq ?_
    refine WP.region ?_
    refine WL.op (asg (oc _)) (by decide) ?_
    refine WL.nl (.thn ?_)
    refine WP.block ?_
    refine WP.loop (fun y : Nat => [.b b8 45 [I (g.k : Int), sl 4 FRV g.vs], .b b7 28 [sl 1 FI f.cs, mp FV f.vs], .b b5 74 [I x, I z]]) (fun y => [(9, I (y : Int)), (8, val (.pointer (some ⟨b8, 0, none⟩))), (7, val (.pointer (some ⟨b7, 0, none⟩))), (5, val (.pointer (some ⟨b5, 0, none⟩)))]) (fun y => y ≤ 6) (fun y => 6 - y) 0 (by omega) (Sub.ofD 0 rfl (Sub.cons rfl (imp_eq rfl) (Sub.cons rfl (imp  _) (Sub.cons rfl (imp  _) (Sub.cons rfl (imp  _) Sub.nil))))) (fun n hi => ?_)
    replace hi : n ≤ 6 := hi
    show WP _ _ _ _ [.b b8 45 [I (g.k : Int), sl 4 FRV g.vs], .b b7 28 [sl 1 FI f.cs, mp FV f.vs], .b b5 74 [I x, I z]] [(9, I (n : Int)), (8, val (.pointer (some ⟨b8, 0, none⟩))), (7, val (.pointer (some ⟨b7, 0, none⟩))), (5, val (.pointer (some ⟨b5, 0, none⟩)))] _ _
    refine WP.seq ?_
    refine WP.seq ?_
    refine WP.region ?_
    refine WL.op (mv (ot rfl)) (by decide) ?_
    refine WL.op (lss (ot rfl) (oc _)) (by decide) ?_
    refine WL.nl (.thn ?_)
    refine WP.cond rfl (fun hc => ?_) (fun hc => ?_)
    · skip
      have hc1 : n < 6 := by have := of_decide_eq_true hc; omega
      refine WP.sk (.thn ?_)
      refine WP.seq ?_
      refine WP.block ?_
      refine WP.seq ?_
      refine WP.region ?_
      refine WL.op (mv (ot rfl)) (by decide) ?_
      refine WL.op (cv un_int un_uint8 (ot rfl) (IntWalk.u8_in _ (by omega))) (by decide) ?_
      refine WL.op (call (c_r36_Names (n := (n : Int)) (by omega)) (.c (ot rfl) .n)) (by decide) ?_
      refine WL.op (asg (ot rfl)) (by decide) ?_
      refine WL.nl (.thn ?_)
      refine WP.seq ?_
      refine WP.draws ?_
      refine RG.op (lbs 1 rfl ag_family_Family (ot rfl) (le_ rfl)) ?_
      refine RG.op (mv (ot rfl)) ?_
      refine RG.op (call (c_thin_CanClone hr) (.c (ot rfl) (.c (ot rfl) .n))) ?_
      refine RG.op (lbs 0 rfl ag_ef36_Family (ot rfl) (le_ rfl)) ?_
      refine RG.op (mv (ot rfl)) ?_
      refine RG.op (call (c_r37_CanClone hr.ok) (.c (ot rfl) (.c (ot rfl) .n))) ?_
      refine RG.op (OpG.weak (R' := val (.bool false)) (neq  (ot rfl) (ot rfl)) (imp_eq (congrArg (fun b => val (.bool b)) (by rw [decide_eq_true rfl]; rfl)))) ?_
      refine RG.fin HM (by kernel_rfl) ?_
      show WL _ _ _ _ _ _ _ _ _
      refine WL.nl (.thn ?_)
      refine WP.condF rfl ?_
      refine WP.sk (.blk (.thn ?_))
      refine WP.region ?_
      refine WL.op (mv (ot rfl)) (by decide) ?_
      refine WL.op (add (ot rfl) (oc _) (by omega)) (by decide) ?_
      refine WL.op (asg (ot rfl)) (by decide) ?_
      exact WL.nl (.again (n + 1) (by omega) (by omega) (Sub.ofD 0 rfl (Sub.cons rfl (imp_eq (congrArg I (by omega))) (Sub.cons rfl (imp  _) (Sub.cons rfl (imp  _) (Sub.cons rfl (imp  _) Sub.nil))))))
    · skip
      refine WP.xt (.xthn (.xthn (.xin (.thn ?_))))
      refine WP.seq ?_
      refine WP.draws ?_
      refine RG.op (lbs 1 rfl ag_family_Family (ot rfl) (le_ rfl)) ?_
      refine RG.op (ia ao_2_int_0 (ot rfl)) ?_
      refine RG.op (lb 2 rfl sc_int (ot rfl) rfl) ?_
      refine RG.op (ia ao_2_int_1 (ot rfl)) ?_
      refine RG.op (lb 2 rfl sc_int (ot rfl) rfl) ?_
      refine RG.op (call (c_thin_CanCreate hr) (.c (ot rfl) (.c (ot rfl) (.c (ot rfl) .n)))) ?_
      refine RG.op (lbs 0 rfl ag_ef36_Family (ot rfl) (le_ rfl)) ?_
      refine RG.op (ia ao_2_int_0 (ot rfl)) ?_
      refine RG.op (lb 2 rfl sc_int (ot rfl) rfl) ?_
      refine RG.op (ia ao_2_int_1 (ot rfl)) ?_
      refine RG.op (lb 2 rfl sc_int (ot rfl) rfl) ?_
      refine RG.op (call (c_r37_CanCreate hr.ok) (.c (ot rfl) (.c (ot rfl) (.c (ot rfl) .n)))) ?_
      refine RG.op (OpG.weak (R' := val (.bool true)) (eql  (ot rfl) (ot rfl)) (imp_eq (congrArg (fun b => val (.bool b)) (by rw [decide_eq_true rfl])))) ?_
      refine RG.op (asg (ot rfl)) ?_
      refine RG.fin HM (by kernel_rfl) ?_
      show WL _ _ _ _ _ _ _ _ _
      refine WL.nl (.thn ?_)
      exact WP.rt (.r1 rfl rfl (imp _))
end Go.Proofs.YtjglgfnhgehpeaaGreat

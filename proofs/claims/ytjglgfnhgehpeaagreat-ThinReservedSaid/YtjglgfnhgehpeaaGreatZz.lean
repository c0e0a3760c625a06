/- Parts: R37. -/
import Derived.Test.YtjglgfnhgehpeaaGreatZx
import Derived.Test.YtjglgfnhgehpeaaGreatZy
/- Space accounting: the reference. -/
set_option linter.unusedVariables false
set_option linter.unusedSimpArgs false
set_option maxRecDepth 4000
namespace Go.Proofs.YtjglgfnhgehpeaaGreat
open Go.RowKit Go.Fw Go.Xt
theorem claim_r (g : RF) (s : ByteArray) (hz : (rInfo g s).2 = 0) : tup [I (max 0 ((rInfo g s).1.r - (rInfo g s).1.e)), I 0] = tup [I (rClaim g s).1, I (rClaim g s).2] := by
  rw [← claim_inf, hz]
theorem claim_n (g : RF) (s : ByteArray) (hz : ¬ (rInfo g s).2 = 0) : tup [I 0, I (rInfo g s).2] = tup [I (rClaim g s).1, I (rClaim g s).2] := by
  unfold rClaim
  rw [if_neg hz]

theorem c_r37_Claim {g : RF} (h : GOk g) {s : ByteArray} : PureC Tryz.prog 42 [eG g, val (.string s)] (tup [I (rClaim g s).1, I (rClaim g s).2]) := by
  have hib := info_bd h s
  refine PureC.of_wp Tryz.func42 (by kernel_rfl) rfl Tryz.ntmps42 (le_ rfl) (fun w0 M0 => ?_)
  refine WP.seq ?_
  refine WP.region ?_
  refine WL.box (ot rfl) (.agg _) (by decide) fun b2 => ?_
  refine WL.op (asg (oc _)) (by decide) ?_
  refine WL.op (asg (oc _)) (by decide) ?_
  refine WL.nl (.thn ?_)
  refine WP.seq ?_
  refine WP.region ?_
  refine WL.op (lbs 0 rfl ag_ef36_Family (ot rfl) (le_ rfl)) (by decide) ?_
  refine WL.op (mv (ot rfl)) (by decide) ?_
  refine WL.op (call (c_r36_Family_Info h) (.c (ot rfl) (.c (ot rfl) .n))) (by decide) ?_
  refine WL.op (mv (ot rfl)) (by decide) ?_
  refine WL.op (ex (ot rfl) rfl) (by decide) ?_
  refine WL.op (ex (ot rfl) rfl) (by decide) ?_
  refine WL.alloc zr_VolumeInfo rfl (by decide) fun b6 => ?_
  refine WL.store 0 rfl (ot rfl) (ot rfl) (.agg _) sz_VolumeInfo rfl (le_ rfl) ?_
  refine WL.op (asg (ot rfl)) (by decide) ?_
  refine WL.nl (.thn ?_)
  refine WP.seq ?_
  refine WP.seq ?_
  refine WP.region ?_
  refine WL.op (mv (ot rfl)) (by decide) ?_
  refine WL.op (neq (ot rfl) (oc _)) (by decide) ?_
  refine WL.nl (.thn ?_)
  refine WP.cond rfl (fun hc => ?_) (fun hc => ?_)
  · skip
    have hz : ¬ (rInfo g s).2 = 0 := by simpa using hc
    refine WP.seq ?_
    refine WP.region ?_
    refine WL.op (mv (ot rfl)) (by decide) ?_
    refine WL.op (asg (oc _)) (by decide) ?_
    refine WL.op (asg (ot rfl)) (by decide) ?_
    refine WL.nl (.thn ?_)
    exact WP.rt (.rthn (.rN rfl (.cons (.tm rfl) (.cons (.tm rfl) .nil)) (le_ rfl) (imp_eq (claim_n g s hz))))
  · skip
    have hz : (rInfo g s).2 = 0 := by simpa using hc
    refine WP.sk (.thn ?_)
    refine WP.seq ?_
    refine WP.region ?_
    refine WL.op (fv fo_VolumeInfo_2 (ot rfl)) (by decide) ?_
    refine WL.op (lb 0 rfl sc_int (ot rfl) rfl) (by decide) ?_
    refine WL.op (fv fo_VolumeInfo_4 (ot rfl)) (by decide) ?_
    refine WL.op (lb 0 rfl sc_int (ot rfl) rfl) (by decide) ?_
    refine WL.op (sub (ot rfl) (ot rfl) (by omega)) (by decide) ?_
    refine WL.op (mx_ (oc _) (ot rfl)) (by decide) ?_
    refine WL.op (asg (ot rfl)) (by decide) ?_
    refine WL.op (asg (oc _)) (by decide) ?_
    refine WL.nl (.thn ?_)
    exact WP.rt (.rN rfl (.cons (.tm rfl) (.cons (.tm rfl) .nil)) (le_ rfl) (imp_eq (claim_r g s hz)))
theorem c_r37_Claims {g : RF} (h : GOk g) : PureC Tryz.prog 44 [eG g] (I (rClaims g)) := by
  have hgn := h.num
  have hgk := h.k
  refine PureC.of_wp Tryz.func44 (by kernel_rfl) rfl Tryz.ntmps44 (le_ rfl) (fun w0 M0 => ?_)
  refine WP.seq ?_
  refine WP.region ?_
  refine WL.box (ot rfl) (.agg _) (by decide) fun b1 => ?_
  refine WL.op (asg (oc _)) (by decide) ?_
  refine WL.nl (.thn ?_)
  refine WP.seq ?_
  refine WP.region ?_
  refine WL.op (asg (oc _)) (by decide) ?_
  refine WL.nl (.thn ?_)
  refine WP.seq ?_
  refine WP.seq ?_
  refine WP.region ?_
  refine WL.op (asg (oc _)) (by decide) ?_
  refine WL.nl (.thn ?_)
  refine WP.block ?_
  refine WP.loop (fun y : Nat => [.b b1 45 [I (g.k : Int), sl 4 FRV g.vs]]) (fun y => [(4, I (y : Int)), (3, I (clT g y)), (1, val (.pointer (some ⟨b1, 0, none⟩)))]) (fun y => y ≤ g.vs.length) (fun y => g.vs.length - y) 0 (Nat.zero_le _) (Sub.ofD 0 rfl (Sub.cons rfl (imp_eq rfl) (Sub.cons rfl (imp_eq rfl) (Sub.cons rfl (imp  _) Sub.nil)))) (fun i hi => ?_)
  replace hi : i ≤ g.vs.length := hi
  show WP _ _ _ _ [.b b1 45 [I (g.k : Int), sl 4 FRV g.vs]] [(4, I (i : Int)), (3, I (clT g i)), (1, val (.pointer (some ⟨b1, 0, none⟩)))] _ _
  refine WP.seq ?_
  refine WP.seq ?_
  refine WP.region ?_
  refine WL.op (mv (ot rfl)) (by decide) ?_
  refine WL.op (fv fo_ef36_Family_1 (ot rfl)) (by decide) ?_
  refine WL.op (lb 0 rfl sc_s_tegularef36_Volume (ot rfl) rfl) (by decide) ?_
  refine WL.op (len_ us_s_tegularef36_Volume (ot rfl)) (by decide) ?_
  refine WL.op (lss (ot rfl) (ot rfl)) (by decide) ?_
  refine WL.nl (.thn ?_)
  refine WP.cond rfl (fun hc => ?_) (fun hc => ?_)
  · skip
    have hc1 : i < g.vs.length := by have := of_decide_eq_true hc; omega
    have hcl := clT_bd h i (by omega)
    have hcv := claim_bd h (g.vs.getD (i : Int).toNat default).s
    refine WP.sk (.thn ?_)
    refine WP.seq ?_
    refine WP.block ?_
    refine WP.seq ?_
    refine WP.draws ?_
    refine RG.op (lbs 0 rfl ag_ef36_Family (ot rfl) (le_ rfl)) ?_
    refine RG.op (fv fo_ef36_Family_1 (ot rfl)) ?_
    refine RG.op (lb 0 rfl sc_s_tegularef36_Volume (ot rfl) rfl) ?_
    refine RG.op (mv (ot rfl)) ?_
    refine RG.op (ixd el_s_tegularef36_Volume (ot rfl) (ot rfl) (by omega) (by omega)) ?_
    refine RG.op (fa fo_ef36_Volume_0 (ot rfl)) ?_
    refine RG.op (ld sc_string (ot rfl)) ?_
    refine RG.op (call (c_r37_Claim h) (.c (ot rfl) (.c (ot rfl) .n))) ?_
    refine RG.op (mv (ot rfl)) ?_
    refine RG.op (ex (ot rfl) rfl) ?_
    refine RG.op (ex (ot rfl) rfl) ?_
    refine RG.op (asg (ot rfl)) ?_
    refine RG.op (asg (ot rfl)) ?_
    refine RG.fin HM (by kernel_rfl) ?_
    show WL _ _ _ _ _ _ _ _ _
    refine WL.nl (.thn ?_)
    refine WP.region ?_
    refine WL.op (mv (ot rfl)) (by decide) ?_
    refine WL.op (mv (ot rfl)) (by decide) ?_
    refine WL.op (add (ot rfl) (ot rfl) (by omega)) (by decide) ?_
    refine WL.op (asg (ot rfl)) (by decide) ?_
    refine WL.nl (.blk (.thn ?_))
    refine WP.region ?_
    refine WL.op (mv (ot rfl)) (by decide) ?_
    refine WL.op (add (ot rfl) (oc _) (by omega)) (by decide) ?_
    refine WL.op (asg (ot rfl)) (by decide) ?_
    exact WL.nl (.again (i + 1) hc1 (by omega) (Sub.ofD 0 rfl (Sub.cons rfl (imp_eq (congrArg I (by omega))) (Sub.cons rfl (imp_eq (congrArg I (clT_step hc1).symm)) (Sub.cons rfl (imp  _) Sub.nil)))))
  · skip
    have hc1 : ¬ i < g.vs.length := by have := of_decide_eq_false hc; omega
    refine WP.xt (.xthn (.xthn (.xin (.thn ?_))))
    refine WP.seq ?_
    refine WP.region ?_
    refine WL.op (mv (ot rfl)) (by decide) ?_
    refine WL.op (asg (ot rfl)) (by decide) ?_
    refine WL.nl (.thn ?_)
    exact WP.rt (.r1 rfl rfl (imp_eq (by rw [show i = g.vs.length from by omega, clT_all])))
theorem c_r37_Free {g : RF} (h : GOk g) : PureC Tryz.prog 94 [eG g] (I (rFreeN g)) := by
  have hgn := h.num
  have hgk := h.k
  have hgc := (counts_spec h).1
  have hub := usedE_bd (rCounts g) (rCounts g).length
  refine PureC.of_wp Tryz.func94 (by kernel_rfl) rfl Tryz.ntmps94 (le_ rfl) (fun w0 M0 => ?_)
  refine WP.seq ?_
  refine WP.region ?_
  refine WL.box (ot rfl) (.agg _) (by decide) fun b1 => ?_
  refine WL.op (asg (oc _)) (by decide) ?_
  refine WL.nl (.thn ?_)
  refine WP.seq ?_
  refine WP.draws ?_
  refine RG.op (fv fo_ef36_Family_0 (ot rfl)) ?_
  refine RG.op (lb 0 rfl sc_int (ot rfl) rfl) ?_
  refine RG.op (lbs 0 rfl ag_ef36_Family (ot rfl) (le_ rfl)) ?_
  refine RG.op (call (c_r36_Family_Counts h) (.c (ot rfl) .n)) ?_
  refine RG.op (call (c_r34_Counts_Used (cs := rCounts g) (by omega)) (.c (ot rfl) .n)) ?_
  refine RG.op (sub (ot rfl) (ot rfl) (by omega)) ?_
  refine RG.op (asg (ot rfl)) ?_
  refine RG.fin HM (by kernel_rfl) ?_
  show WL _ _ _ _ _ _ _ _ _
  refine WL.nl (.thn ?_)
  exact WP.rt (.r1 rfl rfl (imp _))
theorem freeN_bd {g : RF} (h : GOk g) : 0 ≤ rFreeN g ∧ rFreeN g ≤ 65536 := by
  have h1 := usedE_bd (rCounts g) (rCounts g).length
  have h2 := (counts_spec h).1
  have := h.k
  unfold rFreeN
  omega
theorem c_r37_Room {g : RF} (h : GOk g) : PureC Tryz.prog 46 [eG g] (I (rRoom g)) := by
  have hcb := claims_bd h
  have hfr := freeN_bd h
  refine PureC.of_wp Tryz.func46 (by kernel_rfl) rfl Tryz.ntmps46 (le_ rfl) (fun w0 M0 => ?_)
  refine WP.seq ?_
  refine WP.region ?_
  refine WL.box (ot rfl) (.agg _) (by decide) fun b1 => ?_
  refine WL.op (asg (oc _)) (by decide) ?_
  refine WL.nl (.thn ?_)
  refine WP.seq ?_
  refine WP.draws ?_
  refine RG.op (lbs 0 rfl ag_ef36_Family (ot rfl) (le_ rfl)) ?_
  refine RG.op (call (c_r37_Free h) (.c (ot rfl) .n)) ?_
  refine RG.op (lbs 0 rfl ag_ef36_Family (ot rfl) (le_ rfl)) ?_
  refine RG.op (call (c_r37_Claims h) (.c (ot rfl) .n)) ?_
  refine RG.op (sub (ot rfl) (ot rfl) (by omega)) ?_
  refine RG.op (asg (ot rfl)) ?_
  refine RG.fin HM (by kernel_rfl) ?_
  show WL _ _ _ _ _ _ _ _ _
  refine WL.nl (.thn ?_)
  exact WP.rt (.r1 rfl rfl (imp _))
theorem c_r37_exclusive {cs : List Int} {xs : List X} (hcs : cs.length ≤ 65536) (hxs : ∀ x ∈ xs, 1 ≤ x.n ∧ 0 ≤ x.s ∧ x.s + x.n ≤ cs.length) (ho : Xt.Ok 0 xs) : PureC Tryz.prog 95 [sl 1 FI cs, sl 3 FX xs] (I (exE cs xs)) := by
  have hll := ok_len ho
  refine PureC.of_wp Tryz.func95 (by kernel_rfl) rfl Tryz.ntmps95 (le_ rfl) (fun w0 M0 => ?_)
  refine WP.seq ?_
  refine WP.region ?_
  refine WL.op (asg (oc _)) (by decide) ?_
  refine WL.nl (.thn ?_)
  refine WP.seq ?_
  refine WP.region ?_
  refine WL.op (asg (oc _)) (by decide) ?_
  refine WL.nl (.thn ?_)
  refine WP.seq ?_
  refine WP.seq ?_
  refine WP.region ?_
  refine WL.op (asg (oc _)) (by decide) ?_
  refine WL.nl (.thn ?_)
  refine WP.block ?_
  refine WP.loop (fun y : Nat => []) (fun y => [(6, I (y : Int)), (5, I (exE cs (xs.take y))), (1, sl 3 FX xs), (0, sl 1 FI cs)]) (fun y => y ≤ xs.length) (fun y => xs.length - y) 0 (Nat.zero_le _) (Sub.of (Sub.cons rfl (imp_eq rfl) (Sub.cons rfl (imp_eq rfl) (Sub.cons rfl (imp  _) (Sub.cons rfl (imp  _) Sub.nil))))) (fun k hk => ?_)
  replace hk : k ≤ xs.length := hk
  show WP _ _ _ _ [] [(6, I (k : Int)), (5, I (exE cs (xs.take k))), (1, sl 3 FX xs), (0, sl 1 FI cs)] _ _
  refine WP.seq ?_
  refine WP.seq ?_
  refine WP.region ?_
  refine WL.op (mv (ot rfl)) (by decide) ?_
  refine WL.op (mv (ot rfl)) (by decide) ?_
  refine WL.op (len_ us_s_api_Extent (ot rfl)) (by decide) ?_
  refine WL.op (lss (ot rfl) (ot rfl)) (by decide) ?_
  refine WL.nl (.thn ?_)
  refine WP.cond rfl (fun hc => ?_) (fun hc => ?_)
  · skip
    have hc1 : k < xs.length := by have := of_decide_eq_true hc; omega
    have hx := hxs _ (getX_mem' hc1)
    have hb1 := exE_bd hxs ho k
    refine WP.sk (.thn ?_)
    refine WP.seq ?_
    refine WP.block ?_
    refine WP.seq ?_
    refine WP.region ?_
    refine WL.op (mv (ot rfl)) (by decide) ?_
    refine WL.op (mv (ot rfl)) (by decide) ?_
    refine WL.op (ixd el_s_api_Extent (ot rfl) (ot rfl) (by omega) (by omega)) (by decide) ?_
    refine WL.op (fa fo_Extent_2 (ot rfl)) (by decide) ?_
    refine WL.op (ld sc_int (ot rfl)) (by decide) ?_
    refine WL.op (asg (ot rfl)) (by decide) ?_
    refine WL.nl (.thn ?_)
    refine WP.block ?_
    refine WP.loop (fun y : Nat => []) (fun y => [(7, I ((xs.getD (k : Int).toNat default).s + y)), (6, I (k : Int)), (5, I (exE cs (xs.take k) + ex1 cs (xs.getD (k : Int).toNat default) y)), (1, sl 3 FX xs), (0, sl 1 FI cs)]) (fun y => (y : Int) ≤ (xs.getD (k : Int).toNat default).n) (fun y => (xs.getD (k : Int).toNat default).n.toNat - y) 0 (by omega) (Sub.of (Sub.cons rfl (imp_eq (congrArg I (by omega))) (Sub.cons rfl (imp  _) (Sub.cons rfl (imp_eq (congrArg I (Int.add_zero _).symm)) (Sub.cons rfl (imp  _) (Sub.cons rfl (imp  _) Sub.nil)))))) (fun q hq => ?_)
    replace hq : (q : Int) ≤ (xs.getD (k : Int).toNat default).n := hq
    show WP _ _ _ _ [] [(7, I ((xs.getD (k : Int).toNat default).s + q)), (6, I (k : Int)), (5, I (exE cs (xs.take k) + ex1 cs (xs.getD (k : Int).toNat default) q)), (1, sl 3 FX xs), (0, sl 1 FI cs)] _ _
    refine WP.seq ?_
    refine WP.seq ?_
    refine WP.draws ?_
    refine RG.op (mv (ot rfl)) ?_
    refine RG.op (mv (ot rfl)) ?_
    refine RG.op (mv (ot rfl)) ?_
    refine RG.op (ixd el_s_api_Extent (ot rfl) (ot rfl) (by omega) (by omega)) ?_
    refine RG.op (fa fo_Extent_2 (ot rfl)) ?_
    refine RG.op (ld sc_int (ot rfl)) ?_
    refine RG.op (mv (ot rfl)) ?_
    refine RG.op (mv (ot rfl)) ?_
    refine RG.op (ixd el_s_api_Extent (ot rfl) (ot rfl) (by omega) (by omega)) ?_
    refine RG.op (fa fo_Extent_1 (ot rfl)) ?_
    refine RG.op (ld sc_int (ot rfl)) ?_
    refine RG.op (add (ot rfl) (ot rfl) (by omega)) ?_
    refine RG.op (lss (ot rfl) (ot rfl)) ?_
    refine RG.fin HM (by kernel_rfl) ?_
    show WL _ _ _ _ _ _ _ _ _
    refine WL.nl (.thn ?_)
    refine WP.cond rfl (fun hc => ?_) (fun hc => ?_)
    · skip
      have hq1 : (q : Int) < (xs.getD (k : Int).toNat default).n := by have := of_decide_eq_true hc; omega
      have hb2 := ex1_bd cs (xs.getD (k : Int).toNat default) q
      refine WP.sk (.thn ?_)
      refine WP.seq ?_
      refine WP.block ?_
      refine WP.seq ?_
      refine WP.region ?_
      refine WL.op (mv (ot rfl)) (by decide) ?_
      refine WL.op (mv (ot rfl)) (by decide) ?_
      refine WL.op (ixd el_ef34_Counts (ot rfl) (ot rfl) (by omega) (by omega)) (by decide) ?_
      refine WL.op (ld sc_int (ot rfl)) (by decide) ?_
      refine WL.op (eql (ot rfl) (oc _)) (by decide) ?_
      refine WL.nl (.thn ?_)
      refine WP.cond rfl (fun hc => ?_) (fun hc => ?_)
      · skip
        have hz0 : cs.getD ((xs.getD (k : Int).toNat default).s.toNat + q) 0 = 1 := by have := of_decide_eq_true hc; rwa [getI (by omega), show ((xs.getD (k : Int).toNat default).s + (q : Int)).toNat = (xs.getD (k : Int).toNat default).s.toNat + q from by omega] at this
        refine WP.region ?_
        refine WL.op (mv (ot rfl)) (by decide) ?_
        refine WL.op (add (ot rfl) (oc _) (by omega)) (by decide) ?_
        refine WL.op (asg (ot rfl)) (by decide) ?_
        refine WL.nl (.blk (.thn ?_))
        refine WP.region ?_
        refine WL.op (mv (ot rfl)) (by decide) ?_
        refine WL.op (add (ot rfl) (oc _) (by omega)) (by decide) ?_
        refine WL.op (asg (ot rfl)) (by decide) ?_
        exact WL.nl (.again (q + 1) (by omega) (by omega) (Sub.of (Sub.cons rfl (imp_eq (congrArg I (by omega))) (Sub.cons rfl (imp  _) (Sub.cons rfl (imp_eq (congrArg I (by rw [ex1_step, if_pos hz0]; omega))) (Sub.cons rfl (imp  _) (Sub.cons rfl (imp  _) Sub.nil)))))))
      · skip
        have hz0 : ¬ cs.getD ((xs.getD (k : Int).toNat default).s.toNat + q) 0 = 1 := by have := of_decide_eq_false hc; rwa [getI (by omega), show ((xs.getD (k : Int).toNat default).s + (q : Int)).toNat = (xs.getD (k : Int).toNat default).s.toNat + q from by omega] at this
        refine WP.sk (.blk (.thn ?_))
        refine WP.region ?_
        refine WL.op (mv (ot rfl)) (by decide) ?_
        refine WL.op (add (ot rfl) (oc _) (by omega)) (by decide) ?_
        refine WL.op (asg (ot rfl)) (by decide) ?_
        exact WL.nl (.again (q + 1) (by omega) (by omega) (Sub.of (Sub.cons rfl (imp_eq (congrArg I (by omega))) (Sub.cons rfl (imp  _) (Sub.cons rfl (imp_eq (congrArg I (by rw [ex1_step, if_neg hz0]; omega))) (Sub.cons rfl (imp  _) (Sub.cons rfl (imp  _) Sub.nil)))))))
    · skip
      have hq1 : ¬ (q : Int) < (xs.getD (k : Int).toNat default).n := by have := of_decide_eq_false hc; omega
      refine WP.xt (.xthn (.xthn (.xin (.blk (.thn ?_)))))
      refine WP.region ?_
      refine WL.op (mv (ot rfl)) (by decide) ?_
      refine WL.op (add (ot rfl) (oc _) (by omega)) (by decide) ?_
      refine WL.op (asg (ot rfl)) (by decide) ?_
      exact WL.nl (.again (k + 1) (by omega) (by omega) (Sub.of (Sub.cons rfl (imp_eq (congrArg I (by omega))) (Sub.cons rfl (imp_eq (congrArg I (by rw [exE_step hc1, show q = (xs.getD (k : Int).toNat default).n.toNat from by omega]))) (Sub.cons rfl (imp  _) (Sub.cons rfl (imp  _) Sub.nil))))))
  · skip
    have hc1 : ¬ k < xs.length := by have := of_decide_eq_false hc; omega
    refine WP.xt (.xthn (.xthn (.xin (.thn ?_))))
    refine WP.seq ?_
    refine WP.region ?_
    refine WL.op (mv (ot rfl)) (by decide) ?_
    refine WL.op (asg (ot rfl)) (by decide) ?_
    refine WL.nl (.thn ?_)
    exact WP.rt (.r1 rfl rfl (imp_eq (by rw [List.take_of_length_le (by omega)])))
theorem c_r37_Need {g : RF} (h : GOk g) (hsm : Sm g) {s : ByteArray} {a n : Int} : PureC Tryz.prog 48 [eG g, val (.string s), I a, I n] (tup [I (rNeed g s a n).1, I (rNeed g s a n).2]) := by
  have hgn := h.num
  have hgk := h.k
  refine PureC.of_wp Tryz.func48 (by kernel_rfl) rfl Tryz.ntmps48 (le_ rfl) (fun w0 M0 => ?_)
  refine WP.seq ?_
  refine WP.region ?_
  refine WL.box (ot rfl) (.agg _) (by decide) fun b4 => ?_
  refine WL.op (asg (oc _)) (by decide) ?_
  refine WL.op (asg (oc _)) (by decide) ?_
  refine WL.nl (.thn ?_)
  refine WP.seq ?_
  refine WP.region ?_
  refine WL.op (lbs 0 rfl ag_ef36_Family (ot rfl) (le_ rfl)) (by decide) ?_
  refine WL.op (mv (ot rfl)) (by decide) ?_
  refine WL.op (mv (ot rfl)) (by decide) ?_
  refine WL.op (mv (ot rfl)) (by decide) ?_
  refine WL.op (call (c_r36_Family_Range h hsm) (.c (ot rfl) (.c (ot rfl) (.c (ot rfl) (.c (ot rfl) .n))))) (by decide) ?_
  refine WL.op (mv (ot rfl)) (by decide) ?_
  refine WL.op (ex (ot rfl) rfl) (by decide) ?_
  refine WL.op (ex (ot rfl) rfl) (by decide) ?_
  refine WL.op (asg (ot rfl)) (by decide) ?_
  refine WL.op (asg (ot rfl)) (by decide) ?_
  refine WL.nl (.thn ?_)
  refine WP.seq ?_
  refine WP.seq ?_
  refine WP.region ?_
  refine WL.op (mv (ot rfl)) (by decide) ?_
  refine WL.op (neq (ot rfl) (oc _)) (by decide) ?_
  refine WL.nl (.thn ?_)
  refine WP.cond rfl (fun hc => ?_) (fun hc => ?_)
  · skip
    have hz : ¬ (rRange g s a n).2 = 0 := by simpa using hc
    refine WP.seq ?_
    refine WP.region ?_
    refine WL.op (mv (ot rfl)) (by decide) ?_
    refine WL.op (asg (oc _)) (by decide) ?_
    refine WL.op (asg (ot rfl)) (by decide) ?_
    refine WL.nl (.thn ?_)
    exact WP.rt (.rthn (.rN rfl (.cons (.tm rfl) (.cons (.tm rfl) .nil)) (le_ rfl) (imp_eq (by unfold rNeed; rw [if_neg hz]))))
  · skip
    have hz : (rRange g s a n).2 = 0 := by simpa using hc
    obtain ⟨hxs, hxo, hn0, hn1⟩ := range_facts h hz
    have hgc := (counts_spec h).1
    have hb := exE_bd hxs hxo (rRange g s a n).1.length
    rw [List.take_length] at hb
    refine WP.sk (.thn ?_)
    refine WP.seq ?_
    refine WP.region ?_
    refine WL.op (mv (ot rfl)) (by decide) ?_
    refine WL.op (lbs 0 rfl ag_ef36_Family (ot rfl) (le_ rfl)) (by decide) ?_
    refine WL.op (call (c_r36_Family_Counts h) (.c (ot rfl) .n)) (by decide) ?_
    refine WL.op (mv (ot rfl)) (by decide) ?_
    refine WL.op (call (c_r37_exclusive (cs := rCounts g) (xs := (rRange g s a n).1) (by omega) hxs hxo) (.c (ot rfl) (.c (ot rfl) .n))) (by decide) ?_
    refine WL.op (sub (ot rfl) (ot rfl) (by omega)) (by decide) ?_
    refine WL.op (asg (ot rfl)) (by decide) ?_
    refine WL.op (asg (oc _)) (by decide) ?_
    refine WL.nl (.thn ?_)
    exact WP.rt (.rN rfl (.cons (.tm rfl) (.cons (.tm rfl) .nil)) (le_ rfl) (imp_eq (by unfold rNeed; rw [if_pos hz])))
theorem c_r37_CanCreate {g : RF} (h : GOk g) {n r : Int} : PureC Tryz.prog 54 [eG g, I n, I r] (I (rCanCreate g n r)) := by
  refine PureC.of_wp Tryz.func54 (by kernel_rfl) rfl Tryz.ntmps54 (le_ rfl) (fun w0 M0 => ?_)
  refine WP.seq ?_
  refine WP.region ?_
  refine WL.box (ot rfl) (.agg _) (by decide) fun b3 => ?_
  refine WL.op (asg (oc _)) (by decide) ?_
  refine WL.nl (.thn ?_)
  refine WP.seq ?_
  refine WP.block ?_
  refine WP.seq ?_
  refine WP.region ?_
  refine WL.op (mv (ot rfl)) (by decide) ?_
  refine WL.op (lss (ot rfl) (oc _)) (by decide) ?_
  refine WL.op (mv (ot rfl)) (by decide) ?_
  refine WL.gd rfl rfl (Tells.v _ _) (fun hg => mv (ot rfl)) (by decide) ?_
  refine WL.gd rfl rfl (Tells.v _ _) (fun hg => gtr (og rfl hg) (oc _)) (by decide) ?_
  refine WL.op (or_ (ot rfl) (ot rfl)) (by decide) ?_
  refine WL.op (mv (ot rfl)) (by decide) ?_
  refine WL.gd rfl rfl (Tells.v _ _) (fun hg => mv (ot rfl)) (by decide) ?_
  refine WL.gd rfl rfl (Tells.v _ _) (fun hg => lss (og rfl hg) (oc _)) (by decide) ?_
  refine WL.op (or_ (ot rfl) (ot rfl)) (by decide) ?_
  refine WL.op (mv (ot rfl)) (by decide) ?_
  refine WL.gd rfl rfl (Tells.v _ _) (fun hg => mv (ot rfl)) (by decide) ?_
  refine WL.gd rfl rfl (Tells.v _ _) (fun hg => mv (ot rfl)) (by decide) ?_
  refine WL.gd rfl rfl (Tells.v _ _) (fun hg => gtr (og rfl hg) (og rfl hg)) (by decide) ?_
  refine WL.op (or_ (ot rfl) (ot rfl)) (by decide) ?_
  refine WL.op (asg (ot rfl)) (by decide) ?_
  refine WL.nl (.thn ?_)
  refine WP.cond rfl (fun hc => ?_) (fun hc => ?_)
  · skip
    have hz : n < 1 ∨ 65536 < n ∨ r < 0 ∨ n < r := by simp only [Bool.or_eq_true, decide_eq_true_eq] at hc; omega
    refine WP.seq ?_
    refine WP.region ?_
    refine WL.op (asg (oc _)) (by decide) ?_
    refine WL.nl (.thn ?_)
    exact WP.rt (.rblk (.rthn (.r1 rfl rfl (imp_eq (congrArg I (by unfold rCanCreate; rw [if_pos hz]))))))
  · skip
    have hz : ¬ (n < 1 ∨ 65536 < n ∨ r < 0 ∨ n < r) := by simp only [Bool.or_eq_false_iff, decide_eq_false_iff_not] at hc; omega
    refine WP.seq ?_
    refine WP.region ?_
    refine WL.op (mv (ot rfl)) (by decide) ?_
    refine WL.op (lbs 0 rfl ag_ef36_Family (ot rfl) (le_ rfl)) (by decide) ?_
    refine WL.op (call (c_r37_Room h) (.c (ot rfl) .n)) (by decide) ?_
    refine WL.op (gtr (ot rfl) (ot rfl)) (by decide) ?_
    refine WL.op (asg (ot rfl)) (by decide) ?_
    refine WL.nl (.thn ?_)
    refine WP.cond rfl (fun hc => ?_) (fun hc => ?_)
    · skip
      refine WP.seq ?_
      refine WP.region ?_
      refine WL.op (asg (oc _)) (by decide) ?_
      refine WL.nl (.thn ?_)
      exact WP.rt (.rblk (.rthn (.r1 rfl rfl (imp_eq (congrArg I (by unfold rCanCreate; rw [if_neg hz, if_pos (of_decide_eq_true hc)]))))))
    · skip
      refine WP.sk (.blk (.thn ?_))
      refine WP.seq ?_
      refine WP.region ?_
      refine WL.op (asg (oc _)) (by decide) ?_
      refine WL.nl (.thn ?_)
      exact WP.rt (.r1 rfl rfl (imp_eq (congrArg I (by unfold rCanCreate; rw [if_neg hz, if_neg (of_decide_eq_false hc)]))))
theorem c_r37_CanClone {g : RF} (h : GOk g) {s : ByteArray} : PureC Tryz.prog 52 [eG g, val (.string s)] (I (rCanClone g s)) := by
  have hib := info_bd h s
  have hcb := claim_bd h s
  have hrb := room_bd h
  refine PureC.of_wp Tryz.func52 (by kernel_rfl) rfl Tryz.ntmps52 (le_ rfl) (fun w0 M0 => ?_)
  refine WP.seq ?_
  refine WP.region ?_
  refine WL.box (ot rfl) (.agg _) (by decide) fun b2 => ?_
  refine WL.op (asg (oc _)) (by decide) ?_
  refine WL.nl (.thn ?_)
  refine WP.seq ?_
  refine WP.region ?_
  refine WL.op (lbs 0 rfl ag_ef36_Family (ot rfl) (le_ rfl)) (by decide) ?_
  refine WL.op (mv (ot rfl)) (by decide) ?_
  refine WL.op (call (c_r36_Family_Info h) (.c (ot rfl) (.c (ot rfl) .n))) (by decide) ?_
  refine WL.op (mv (ot rfl)) (by decide) ?_
  refine WL.op (ex (ot rfl) rfl) (by decide) ?_
  refine WL.op (ex (ot rfl) rfl) (by decide) ?_
  refine WL.alloc zr_VolumeInfo rfl (by decide) fun b5 => ?_
  refine WL.store 0 rfl (ot rfl) (ot rfl) (.agg _) sz_VolumeInfo rfl (le_ rfl) ?_
  refine WL.op (asg (ot rfl)) (by decide) ?_
  refine WL.nl (.thn ?_)
  refine WP.seq ?_
  refine WP.seq ?_
  refine WP.region ?_
  refine WL.op (mv (ot rfl)) (by decide) ?_
  refine WL.op (neq (ot rfl) (oc _)) (by decide) ?_
  refine WL.nl (.thn ?_)
  refine WP.cond rfl (fun hc => ?_) (fun hc => ?_)
  · skip
    have hz : ¬ (rInfo g s).2 = 0 := by simpa using hc
    refine WP.seq ?_
    refine WP.region ?_
    refine WL.op (mv (ot rfl)) (by decide) ?_
    refine WL.op (asg (ot rfl)) (by decide) ?_
    refine WL.nl (.thn ?_)
    exact WP.rt (.rthn (.r1 rfl rfl (imp_eq (congrArg I (by unfold rCanClone; rw [if_neg hz])))))
  · skip
    have hz : (rInfo g s).2 = 0 := by simpa using hc
    refine WP.sk (.thn ?_)
    refine WP.seq ?_
    refine WP.region ?_
    refine WL.op (lbs 1 rfl ag_ef36_Family (ot rfl) (le_ rfl)) (by decide) ?_
    refine WL.op (mv (ot rfl)) (by decide) ?_
    refine WL.op (call (c_r37_Claim h) (.c (ot rfl) (.c (ot rfl) .n))) (by decide) ?_
    refine WL.op (mv (ot rfl)) (by decide) ?_
    refine WL.op (ex (ot rfl) rfl) (by decide) ?_
    refine WL.op (ex (ot rfl) rfl) (by decide) ?_
    refine WL.op (asg (ot rfl)) (by decide) ?_
    refine WL.op (asg (ot rfl)) (by decide) ?_
    refine WL.nl (.thn ?_)
    refine WP.seq ?_
    refine WP.seq ?_
    refine WP.draws ?_
    refine RG.op (lbs 1 rfl ag_ef36_Family (ot rfl) (le_ rfl)) ?_
    refine RG.op (call (c_r37_Room h) (.c (ot rfl) .n)) ?_
    refine RG.op (fv fo_VolumeInfo_2 (ot rfl)) ?_
    refine RG.op (lb 0 rfl sc_int (ot rfl) rfl) ?_
    refine RG.op (mv (ot rfl)) ?_
    refine RG.op (sub (ot rfl) (ot rfl) (by omega)) ?_
    refine RG.op (sub (ot rfl) (ot rfl) (by omega)) ?_
    refine RG.op (lss (ot rfl) (oc _)) ?_
    refine RG.fin HM (by kernel_rfl) ?_
    show WL _ _ _ _ _ _ _ _ _
    refine WL.nl (.thn ?_)
    refine WP.cond rfl (fun hc => ?_) (fun hc => ?_)
    · skip
      refine WP.seq ?_
      refine WP.region ?_
      refine WL.op (asg (oc _)) (by decide) ?_
      refine WL.nl (.thn ?_)
      exact WP.rt (.rthn (.r1 rfl rfl (imp_eq (congrArg I (by unfold rCanClone; rw [if_pos hz, if_pos (of_decide_eq_true hc)])))))
    · skip
      refine WP.sk (.thn ?_)
      refine WP.seq ?_
      refine WP.region ?_
      refine WL.op (asg (oc _)) (by decide) ?_
      refine WL.nl (.thn ?_)
      exact WP.rt (.r1 rfl rfl (imp_eq (congrArg I (by unfold rCanClone; rw [if_pos hz, if_neg (of_decide_eq_false hc)]))))
theorem c_r37_CanWrite {g : RF} (h : GOk g) (hsm : Sm g) {s : ByteArray} {a n : Int} : PureC Tryz.prog 50 [eG g, val (.string s), I a, I n] (I (rCanWrite g s a n)) := by
  have hcb := claim_bd h s
  have hrb := room_bd h
  refine PureC.of_wp Tryz.func50 (by kernel_rfl) rfl Tryz.ntmps50 (le_ rfl) (fun w0 M0 => ?_)
  refine WP.seq ?_
  refine WP.region ?_
  refine WL.box (ot rfl) (.agg _) (by decide) fun b4 => ?_
  refine WL.op (asg (oc _)) (by decide) ?_
  refine WL.nl (.thn ?_)
  refine WP.seq ?_
  refine WP.region ?_
  refine WL.op (lbs 0 rfl ag_ef36_Family (ot rfl) (le_ rfl)) (by decide) ?_
  refine WL.op (mv (ot rfl)) (by decide) ?_
  refine WL.op (mv (ot rfl)) (by decide) ?_
  refine WL.op (mv (ot rfl)) (by decide) ?_
  refine WL.op (call (c_r37_Need h hsm) (.c (ot rfl) (.c (ot rfl) (.c (ot rfl) (.c (ot rfl) .n))))) (by decide) ?_
  refine WL.op (mv (ot rfl)) (by decide) ?_
  refine WL.op (ex (ot rfl) rfl) (by decide) ?_
  refine WL.op (ex (ot rfl) rfl) (by decide) ?_
  refine WL.op (asg (ot rfl)) (by decide) ?_
  refine WL.op (asg (ot rfl)) (by decide) ?_
  refine WL.nl (.thn ?_)
  refine WP.seq ?_
  refine WP.seq ?_
  refine WP.region ?_
  refine WL.op (mv (ot rfl)) (by decide) ?_
  refine WL.op (neq (ot rfl) (oc _)) (by decide) ?_
  refine WL.nl (.thn ?_)
  refine WP.cond rfl (fun hc => ?_) (fun hc => ?_)
  · skip
    have hz : ¬ (rNeed g s a n).2 = 0 := by simpa using hc
    refine WP.seq ?_
    refine WP.region ?_
    refine WL.op (mv (ot rfl)) (by decide) ?_
    refine WL.op (asg (ot rfl)) (by decide) ?_
    refine WL.nl (.thn ?_)
    exact WP.rt (.rthn (.r1 rfl rfl (imp_eq (congrArg I (by unfold rCanWrite; rw [if_neg hz])))))
  · skip
    have hz : (rNeed g s a n).2 = 0 := by simpa using hc
    refine WP.sk (.thn ?_)
    refine WP.seq ?_
    refine WP.region ?_
    refine WL.op (lbs 0 rfl ag_ef36_Family (ot rfl) (le_ rfl)) (by decide) ?_
    refine WL.op (mv (ot rfl)) (by decide) ?_
    refine WL.op (call (c_r37_Claim h) (.c (ot rfl) (.c (ot rfl) .n))) (by decide) ?_
    refine WL.op (mv (ot rfl)) (by decide) ?_
    refine WL.op (ex (ot rfl) rfl) (by decide) ?_
    refine WL.op (ex (ot rfl) rfl) (by decide) ?_
    refine WL.op (asg (ot rfl)) (by decide) ?_
    refine WL.op (asg (ot rfl)) (by decide) ?_
    refine WL.nl (.thn ?_)
    refine WP.seq ?_
    refine WP.seq ?_
    refine WP.region ?_
    refine WL.op (mv (ot rfl)) (by decide) ?_
    refine WL.op (mv (ot rfl)) (by decide) ?_
    refine WL.op (lbs 0 rfl ag_ef36_Family (ot rfl) (le_ rfl)) (by decide) ?_
    refine WL.op (call (c_r37_Room h) (.c (ot rfl) .n)) (by decide) ?_
    refine WL.op (mx_ (oc _) (ot rfl)) (by decide) ?_
    refine WL.op (add (ot rfl) (ot rfl) (by omega)) (by decide) ?_
    refine WL.op (gtr (ot rfl) (ot rfl)) (by decide) ?_
    refine WL.nl (.thn ?_)
    refine WP.cond rfl (fun hc => ?_) (fun hc => ?_)
    · skip
      refine WP.seq ?_
      refine WP.region ?_
      refine WL.op (asg (oc _)) (by decide) ?_
      refine WL.nl (.thn ?_)
      exact WP.rt (.rthn (.r1 rfl rfl (imp_eq (congrArg I (by unfold rCanWrite; rw [if_pos hz, if_pos (of_decide_eq_true hc)])))))
    · skip
      refine WP.sk (.thn ?_)
      refine WP.seq ?_
      refine WP.region ?_
      refine WL.op (asg (oc _)) (by decide) ?_
      refine WL.nl (.thn ?_)
      exact WP.rt (.r1 rfl rfl (imp_eq (congrArg I (by unfold rCanWrite; rw [if_pos hz, if_neg (of_decide_eq_false hc)]))))
end Go.Proofs.YtjglgfnhgehpeaaGreat

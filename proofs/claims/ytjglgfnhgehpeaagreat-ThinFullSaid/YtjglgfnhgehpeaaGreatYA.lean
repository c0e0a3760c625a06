/- Parts: R37, L37a, Lay12. -/
import Derived.Test.YtjglgfnhgehpeaaGreatYy
import Derived.Test.YtjglgfnhgehpeaaGreatYz
import Derived.Test.YtjglgfnhgehpeaaGreatYg
/- Space accounting: the reference. -/
set_option linter.unusedVariables false
set_option linter.unusedSimpArgs false
set_option maxRecDepth 4000
namespace Go.Proofs.YtjglgfnhgehpeaaGreat
open Go.RowKit Go.Fw Go.Xt
theorem claim_r (g : RF) (s : ByteArray) (hz : (rInfo g s).2 = 0) : tup [I (max 0 ((rInfo g s).1.r - (rInfo g s).1.e)), I 0] = tup [I (rClaim g s).1, I (rClaim g s).2] := by
  rw [← claim_inf, hz]
theorem claim_n (g : RF) (s : ByteArray) (hz : ¬ (rInfo g s).2 = 0) : tup [I 0, I (rInfo g s).2] = tup [I (rClaim g s).1, I (rClaim g s).2] := by
  unfold rClaim
  rw [if_neg hz]

theorem c_r37_Claim {g : RF} (h : GOk g) {s : ByteArray} : PureC Tryz.prog 42 [eG g, val (.string s)] (tup [I (rClaim g s).1, I (rClaim g s).2]) := by
  have hib := info_bd h s
  refine PureC.of_wp Tryz.func42 (by kernel_rfl) rfl Tryz.ntmps42 (le_ rfl) (fun w0 M0 => ?_)
  refine WP.seq ?_
  refine WP.region ?_
  refine WL.box (ot rfl) (.agg _) (by decide) fun b2 => ?_
  refine WL.op (asg (oc _)) (by decide) ?_
  refine WL.op (asg (oc _)) (by decide) ?_
  refine WL.nl (.thn ?_)
  refine WP.seq ?_
  refine WP.region ?_
  refine WL.op (lbs 0 rfl ag_ef36_Family (ot rfl) (le_ rfl)) (by decide) ?_
  refine WL.op (mv (ot rfl)) (by decide) ?_
  refine WL.op (call (c_r36_Family_Info h) (.c (ot rfl) (.c (ot rfl) .n))) (by decide) ?_
  refine WL.op (mv (ot rfl)) (by decide) ?_
  refine WL.op (ex (ot rfl) rfl) (by decide) ?_
  refine WL.op (ex (ot rfl) rfl) (by decide) ?_
  refine WL.alloc zr_VolumeInfo rfl (by decide) fun b6 => ?_
  refine WL.store 0 rfl (ot rfl) (ot rfl) (.agg _) sz_VolumeInfo rfl (le_ rfl) ?_
  refine WL.op (asg (ot rfl)) (by decide) ?_
  refine WL.nl (.thn ?_)
  refine WP.seq ?_
  refine WP.seq ?_
  refine WP.region ?_
  refine WL.op (mv (ot rfl)) (by decide) ?_
  refine WL.op (neq (ot rfl) (oc _)) (by decide) ?_
  refine WL.nl (.thn ?_)
  refine WP.cond rfl (fun hc => ?_) (fun hc => ?_)
  · skip
    have hz : ¬ (rInfo g s).2 = 0 := by simpa using hc
    refine WP.seq ?_
    refine WP.region ?_
    refine WL.op (mv (ot rfl)) (by decide) ?_
    refine WL.op (asg (oc _)) (by decide) ?_
    refine WL.op (asg (ot rfl)) (by decide) ?_
    refine WL.nl (.thn ?_)
    exact WP.rt (.rthn (.rN rfl (.cons (.tm rfl) (.cons (.tm rfl) .nil)) (le_ rfl) (imp_eq (claim_n g s hz))))
  · skip
    have hz : (rInfo g s).2 = 0 := by simpa using hc
    refine WP.sk (.thn ?_)
    refine WP.seq ?_
    refine WP.region ?_
    refine WL.op (fv fo_VolumeInfo_2 (ot rfl)) (by decide) ?_
    refine WL.op (lb 0 rfl sc_int (ot rfl) rfl) (by decide) ?_
    refine WL.op (fv fo_VolumeInfo_4 (ot rfl)) (by decide) ?_
    refine WL.op (lb 0 rfl sc_int (ot rfl) rfl) (by decide) ?_
    refine WL.op (sub (ot rfl) (ot rfl) (by omega)) (by decide) ?_
    refine WL.op (mx_ (oc _) (ot rfl)) (by decide) ?_
    refine WL.op (asg (ot rfl)) (by decide) ?_
    refine WL.op (asg (oc _)) (by decide) ?_
    refine WL.nl (.thn ?_)
    exact WP.rt (.rN rfl (.cons (.tm rfl) (.cons (.tm rfl) .nil)) (le_ rfl) (imp_eq (claim_r g s hz)))
theorem c_r37_Claims {g : RF} (h : GOk g) : PureC Tryz.prog 44 [eG g] (I (rClaims g)) := by
  have hgn := h.num
  have hgk := h.k
  refine PureC.of_wp Tryz.func44 (by kernel_rfl) rfl Tryz.ntmps44 (le_ rfl) (fun w0 M0 => ?_)
  refine WP.seq ?_
  refine WP.region ?_
  refine WL.box (ot rfl) (.agg _) (by decide) fun b1 => ?_
  refine WL.op (asg (oc _)) (by decide) ?_
  refine WL.nl (.thn ?_)
  refine WP.seq ?_
  refine WP.region ?_
  refine WL.op (asg (oc _)) (by decide) ?_
  refine WL.nl (.thn ?_)
  refine WP.seq ?_
  refine WP.seq ?_
  refine WP.region ?_
  refine WL.op (asg (oc _)) (by decide) ?_
  refine WL.nl (.thn ?_)
  refine WP.block ?_
  refine WP.loop (fun y : Nat => [.b b1 45 [I (g.k : Int), sl 4 FRV g.vs]]) (fun y => [(4, I (y : Int)), (3, I (clT g y)), (1, val (.pointer (some ⟨b1, 0, none⟩)))]) (fun y => y ≤ g.vs.length) (fun y => g.vs.length - y) 0 (Nat.zero_le _) (Sub.ofD 0 rfl (Sub.cons rfl (imp_eq rfl) (Sub.cons rfl (imp_eq rfl) (Sub.cons rfl (imp  _) Sub.nil)))) (fun i hi => ?_)
  replace hi : i ≤ g.vs.length := hi
  show WP _ _ _ _ [.b b1 45 [I (g.k : Int), sl 4 FRV g.vs]] [(4, I (i : Int)), (3, I (clT g i)), (1, val (.pointer (some ⟨b1, 0, none⟩)))] _ _
  refine WP.seq ?_
  refine WP.seq ?_
  refine WP.region ?_
  refine WL.op (mv (ot rfl)) (by decide) ?_
  refine WL.op (fv fo_ef36_Family_1 (ot rfl)) (by decide) ?_
  refine WL.op (lb 0 rfl sc_s_tegularef36_Volume (ot rfl) rfl) (by decide) ?_
  refine WL.op (len_ us_s_tegularef36_Volume (ot rfl)) (by decide) ?_
  refine WL.op (lss (ot rfl) (ot rfl)) (by decide) ?_
  refine WL.nl (.thn ?_)
  refine WP.cond rfl (fun hc => ?_) (fun hc => ?_)
  · skip
    have hc1 : i < g.vs.length := by have := of_decide_eq_true hc; omega
    have hcl := clT_bd h i (by omega)
    have hcv := claim_bd h (g.vs.getD (i : Int).toNat default).s
    refine WP.sk (.thn ?_)
    refine WP.seq ?_
    refine WP.block ?_
    refine WP.seq ?_
    refine WP.draws ?_
    refine RG.op (lbs 0 rfl ag_ef36_Family (ot rfl) (le_ rfl)) ?_
    refine RG.op (fv fo_ef36_Family_1 (ot rfl)) ?_
    refine RG.op (lb 0 rfl sc_s_tegularef36_Volume (ot rfl) rfl) ?_
    refine RG.op (mv (ot rfl)) ?_
    refine RG.op (ixd el_s_tegularef36_Volume (ot rfl) (ot rfl) (by omega) (by omega)) ?_
    refine RG.op (fa fo_ef36_Volume_0 (ot rfl)) ?_
    refine RG.op (ld sc_string (ot rfl)) ?_
    refine RG.op (call (c_r37_Claim h) (.c (ot rfl) (.c (ot rfl) .n))) ?_
    refine RG.op (mv (ot rfl)) ?_
    refine RG.op (ex (ot rfl) rfl) ?_
    refine RG.op (ex (ot rfl) rfl) ?_
    refine RG.op (asg (ot rfl)) ?_
    refine RG.op (asg (ot rfl)) ?_
    refine RG.fin HM (by kernel_rfl) ?_
    show WL _ _ _ _ _ _ _ _ _
    refine WL.nl (.thn ?_)
    refine WP.region ?_
    refine WL.op (mv (ot rfl)) (by decide) ?_
    refine WL.op (mv (ot rfl)) (by decide) ?_
    refine WL.op (add (ot rfl) (ot rfl) (by omega)) (by decide) ?_
    refine WL.op (asg (ot rfl)) (by decide) ?_
    refine WL.nl (.blk (.thn ?_))
    refine WP.region ?_
    refine WL.op (mv (ot rfl)) (by decide) ?_
    refine WL.op (add (ot rfl) (oc _) (by omega)) (by decide) ?_
    refine WL.op (asg (ot rfl)) (by decide) ?_
    exact WL.nl (.again (i + 1) hc1 (by omega) (Sub.ofD 0 rfl (Sub.cons rfl (imp_eq (congrArg I (by omega))) (Sub.cons rfl (imp_eq (congrArg I (clT_step hc1).symm)) (Sub.cons rfl (imp  _) Sub.nil)))))
  · skip
    have hc1 : ¬ i < g.vs.length := by have := of_decide_eq_false hc; omega
    refine WP.xt (.xthn (.xthn (.xin (.thn ?_))))
    refine WP.seq ?_
    refine WP.region ?_
    refine WL.op (mv (ot rfl)) (by decide) ?_
    refine WL.op (asg (ot rfl)) (by decide) ?_
    refine WL.nl (.thn ?_)
    exact WP.rt (.r1 rfl rfl (imp_eq (by rw [show i = g.vs.length from by omega, clT_all])))
theorem c_r37_Free {g : RF} (h : GOk g) : PureC Tryz.prog 94 [eG g] (I (rFreeN g)) := by
  have hgn := h.num
  have hgk := h.k
  have hgc := (counts_spec h).1
  have hub := usedE_bd (rCounts g) (rCounts g).length
  refine PureC.of_wp Tryz.func94 (by kernel_rfl) rfl Tryz.ntmps94 (le_ rfl) (fun w0 M0 => ?_)
  refine WP.seq ?_
  refine WP.region ?_
  refine WL.box (ot rfl) (.agg _) (by decide) fun b1 => ?_
  refine WL.op (asg (oc _)) (by decide) ?_
  refine WL.nl (.thn ?_)
  refine WP.seq ?_
  refine WP.draws ?_
  refine RG.op (fv fo_ef36_Family_0 (ot rfl)) ?_
  refine RG.op (lb 0 rfl sc_int (ot rfl) rfl) ?_
  refine RG.op (lbs 0 rfl ag_ef36_Family (ot rfl) (le_ rfl)) ?_
  refine RG.op (call (c_r36_Family_Counts h) (.c (ot rfl) .n)) ?_
  refine RG.op (call (c_r34_Counts_Used (cs := rCounts g) (by omega)) (.c (ot rfl) .n)) ?_
  refine RG.op (sub (ot rfl) (ot rfl) (by omega)) ?_
  refine RG.op (asg (ot rfl)) ?_
  refine RG.fin HM (by kernel_rfl) ?_
  show WL _ _ _ _ _ _ _ _ _
  refine WL.nl (.thn ?_)
  exact WP.rt (.r1 rfl rfl (imp _))
theorem freeN_bd {g : RF} (h : GOk g) : 0 ≤ rFreeN g ∧ rFreeN g ≤ 65536 := by
  have h1 := usedE_bd (rCounts g) (rCounts g).length
  have h2 := (counts_spec h).1
  have := h.k
  unfold rFreeN
  omega
theorem c_r37_Room {g : RF} (h : GOk g) : PureC Tryz.prog 46 [eG g] (I (rRoom g)) := by
  have hcb := claims_bd h
  have hfr := freeN_bd h
  refine PureC.of_wp Tryz.func46 (by kernel_rfl) rfl Tryz.ntmps46 (le_ rfl) (fun w0 M0 => ?_)
  refine WP.seq ?_
  refine WP.region ?_
  refine WL.box (ot rfl) (.agg _) (by decide) fun b1 => ?_
  refine WL.op (asg (oc _)) (by decide) ?_
  refine WL.nl (.thn ?_)
  refine WP.seq ?_
  refine WP.draws ?_
  refine RG.op (lbs 0 rfl ag_ef36_Family (ot rfl) (le_ rfl)) ?_
  refine RG.op (call (c_r37_Free h) (.c (ot rfl) .n)) ?_
  refine RG.op (lbs 0 rfl ag_ef36_Family (ot rfl) (le_ rfl)) ?_
  refine RG.op (call (c_r37_Claims h) (.c (ot rfl) .n)) ?_
  refine RG.op (sub (ot rfl) (ot rfl) (by omega)) ?_
  refine RG.op (asg (ot rfl)) ?_
  refine RG.fin HM (by kernel_rfl) ?_
  show WL _ _ _ _ _ _ _ _ _
  refine WL.nl (.thn ?_)
  exact WP.rt (.r1 rfl rfl (imp _))
theorem c_r37_exclusive {cs : List Int} {xs : List X} (hcs : cs.length ≤ 65536) (hxs : ∀ x ∈ xs, 1 ≤ x.n ∧ 0 ≤ x.s ∧ x.s + x.n ≤ cs.length) (ho : Xt.Ok 0 xs) : PureC Tryz.prog 95 [sl 1 FI cs, sl 3 FX xs] (I (exE cs xs)) := by
  have hll := ok_len ho
  refine PureC.of_wp Tryz.func95 (by kernel_rfl) rfl Tryz.ntmps95 (le_ rfl) (fun w0 M0 => ?_)
  refine WP.seq ?_
  refine WP.region ?_
  refine WL.op (asg (oc _)) (by decide) ?_
  refine WL.nl (.thn ?_)
  refine WP.seq ?_
  refine WP.region ?_
  refine WL.op (asg (oc _)) (by decide) ?_
  refine WL.nl (.thn ?_)
  refine WP.seq ?_
  refine WP.seq ?_
  refine WP.region ?_
  refine WL.op (asg (oc _)) (by decide) ?_
  refine WL.nl (.thn ?_)
  refine WP.block ?_
  refine WP.loop (fun y : Nat => []) (fun y => [(6, I (y : Int)), (5, I (exE cs (xs.take y))), (1, sl 3 FX xs), (0, sl 1 FI cs)]) (fun y => y ≤ xs.length) (fun y => xs.length - y) 0 (Nat.zero_le _) (Sub.of (Sub.cons rfl (imp_eq rfl) (Sub.cons rfl (imp_eq rfl) (Sub.cons rfl (imp  _) (Sub.cons rfl (imp  _) Sub.nil))))) (fun k hk => ?_)
  replace hk : k ≤ xs.length := hk
  show WP _ _ _ _ [] [(6, I (k : Int)), (5, I (exE cs (xs.take k))), (1, sl 3 FX xs), (0, sl 1 FI cs)] _ _
  refine WP.seq ?_
  refine WP.seq ?_
  refine WP.region ?_
  refine WL.op (mv (ot rfl)) (by decide) ?_
  refine WL.op (mv (ot rfl)) (by decide) ?_
  refine WL.op (len_ us_s_api_Extent (ot rfl)) (by decide) ?_
  refine WL.op (lss (ot rfl) (ot rfl)) (by decide) ?_
  refine WL.nl (.thn ?_)
  refine WP.cond rfl (fun hc => ?_) (fun hc => ?_)
  · skip
    have hc1 : k < xs.length := by have := of_decide_eq_true hc; omega
    have hx := hxs _ (getX_mem' hc1)
    have hb1 := exE_bd hxs ho k
    refine WP.sk (.thn ?_)
    refine WP.seq ?_
    refine WP.block ?_
    refine WP.seq ?_
    refine WP.region ?_
    refine WL.op (mv (ot rfl)) (by decide) ?_
    refine WL.op (mv (ot rfl)) (by decide) ?_
    refine WL.op (ixd el_s_api_Extent (ot rfl) (ot rfl) (by omega) (by omega)) (by decide) ?_
    refine WL.op (fa fo_Extent_2 (ot rfl)) (by decide) ?_
    refine WL.op (ld sc_int (ot rfl)) (by decide) ?_
    refine WL.op (asg (ot rfl)) (by decide) ?_
    refine WL.nl (.thn ?_)
    refine WP.block ?_
    refine WP.loop (fun y : Nat => []) (fun y => [(7, I ((xs.getD (k : Int).toNat default).s + y)), (6, I (k : Int)), (5, I (exE cs (xs.take k) + ex1 cs (xs.getD (k : Int).toNat default) y)), (1, sl 3 FX xs), (0, sl 1 FI cs)]) (fun y => (y : Int) ≤ (xs.getD (k : Int).toNat default).n) (fun y => (xs.getD (k : Int).toNat default).n.toNat - y) 0 (by omega) (Sub.of (Sub.cons rfl (imp_eq (congrArg I (by omega))) (Sub.cons rfl (imp  _) (Sub.cons rfl (imp_eq (congrArg I (Int.add_zero _).symm)) (Sub.cons rfl (imp  _) (Sub.cons rfl (imp  _) Sub.nil)))))) (fun q hq => ?_)
    replace hq : (q : Int) ≤ (xs.getD (k : Int).toNat default).n := hq
    show WP _ _ _ _ [] [(7, I ((xs.getD (k : Int).toNat default).s + q)), (6, I (k : Int)), (5, I (exE cs (xs.take k) + ex1 cs (xs.getD (k : Int).toNat default) q)), (1, sl 3 FX xs), (0, sl 1 FI cs)] _ _
    refine WP.seq ?_
    refine WP.seq ?_
    refine WP.draws ?_
    refine RG.op (mv (ot rfl)) ?_
    refine RG.op (mv (ot rfl)) ?_
    refine RG.op (mv (ot rfl)) ?_
    refine RG.op (ixd el_s_api_Extent (ot rfl) (ot rfl) (by omega) (by omega)) ?_
    refine RG.op (fa fo_Extent_2 (ot rfl)) ?_
    refine RG.op (ld sc_int (ot rfl)) ?_
    refine RG.op (mv (ot rfl)) ?_
    refine RG.op (mv (ot rfl)) ?_
    refine RG.op (ixd el_s_api_Extent (ot rfl) (ot rfl) (by omega) (by omega)) ?_
    refine RG.op (fa fo_Extent_1 (ot rfl)) ?_
    refine RG.op (ld sc_int (ot rfl)) ?_
    refine RG.op (add (ot rfl) (ot rfl) (by omega)) ?_
    refine RG.op (lss (ot rfl) (ot rfl)) ?_
    refine RG.fin HM (by kernel_rfl) ?_
    show WL _ _ _ _ _ _ _ _ _
    refine WL.nl (.thn ?_)
    refine WP.cond rfl (fun hc => ?_) (fun hc => ?_)
    · skip
      have hq1 : (q : Int) < (xs.getD (k : Int).toNat default).n := by have := of_decide_eq_true hc; omega
      have hb2 := ex1_bd cs (xs.getD (k : Int).toNat default) q
      refine WP.sk (.thn ?_)
      refine WP.seq ?_
      refine WP.block ?_
      refine WP.seq ?_
      refine WP.region ?_
      refine WL.op (mv (ot rfl)) (by decide) ?_
      refine WL.op (mv (ot rfl)) (by decide) ?_
      refine WL.op (ixd el_ef34_Counts (ot rfl) (ot rfl) (by omega) (by omega)) (by decide) ?_
      refine WL.op (ld sc_int (ot rfl)) (by decide) ?_
      refine WL.op (eql (ot rfl) (oc _)) (by decide) ?_
      refine WL.nl (.thn ?_)
      refine WP.cond rfl (fun hc => ?_) (fun hc => ?_)
      · skip
        have hz0 : cs.getD ((xs.getD (k : Int).toNat default).s.toNat + q) 0 = 1 := by have := of_decide_eq_true hc; rwa [getI (by omega), show ((xs.getD (k : Int).toNat default).s + (q : Int)).toNat = (xs.getD (k : Int).toNat default).s.toNat + q from by omega] at this
        refine WP.region ?_
        refine WL.op (mv (ot rfl)) (by decide) ?_
        refine WL.op (add (ot rfl) (oc _) (by omega)) (by decide) ?_
        refine WL.op (asg (ot rfl)) (by decide) ?_
        refine WL.nl (.blk (.thn ?_))
        refine WP.region ?_
        refine WL.op (mv (ot rfl)) (by decide) ?_
        refine WL.op (add (ot rfl) (oc _) (by omega)) (by decide) ?_
        refine WL.op (asg (ot rfl)) (by decide) ?_
        exact WL.nl (.again (q + 1) (by omega) (by omega) (Sub.of (Sub.cons rfl (imp_eq (congrArg I (by omega))) (Sub.cons rfl (imp  _) (Sub.cons rfl (imp_eq (congrArg I (by rw [ex1_step, if_pos hz0]; omega))) (Sub.cons rfl (imp  _) (Sub.cons rfl (imp  _) Sub.nil)))))))
      · skip
        have hz0 : ¬ cs.getD ((xs.getD (k : Int).toNat default).s.toNat + q) 0 = 1 := by have := of_decide_eq_false hc; rwa [getI (by omega), show ((xs.getD (k : Int).toNat default).s + (q : Int)).toNat = (xs.getD (k : Int).toNat default).s.toNat + q from by omega] at this
        refine WP.sk (.blk (.thn ?_))
        refine WP.region ?_
        refine WL.op (mv (ot rfl)) (by decide) ?_
        refine WL.op (add (ot rfl) (oc _) (by omega)) (by decide) ?_
        refine WL.op (asg (ot rfl)) (by decide) ?_
        exact WL.nl (.again (q + 1) (by omega) (by omega) (Sub.of (Sub.cons rfl (imp_eq (congrArg I (by omega))) (Sub.cons rfl (imp  _) (Sub.cons rfl (imp_eq (congrArg I (by rw [ex1_step, if_neg hz0]; omega))) (Sub.cons rfl (imp  _) (Sub.cons rfl (imp  _) Sub.nil)))))))
    · skip
      have hq1 : ¬ (q : Int) < (xs.getD (k : Int).toNat default).n := by have := of_decide_eq_false hc; omega
      refine WP.xt (.xthn (.xthn (.xin (.blk (.thn ?_)))))
      refine WP.region ?_
      refine WL.op (mv (ot rfl)) (by decide) ?_
      refine WL.op (add (ot rfl) (oc _) (by omega)) (by decide) ?_
      refine WL.op (asg (ot rfl)) (by decide) ?_
      exact WL.nl (.again (k + 1) (by omega) (by omega) (Sub.of (Sub.cons rfl (imp_eq (congrArg I (by omega))) (Sub.cons rfl (imp_eq (congrArg I (by rw [exE_step hc1, show q = (xs.getD (k : Int).toNat default).n.toNat from by omega]))) (Sub.cons rfl (imp  _) (Sub.cons rfl (imp  _) Sub.nil))))))
  · skip
    have hc1 : ¬ k < xs.length := by have := of_decide_eq_false hc; omega
    refine WP.xt (.xthn (.xthn (.xin (.thn ?_))))
    refine WP.seq ?_
    refine WP.region ?_
    refine WL.op (mv (ot rfl)) (by decide) ?_
    refine WL.op (asg (ot rfl)) (by decide) ?_
    refine WL.nl (.thn ?_)
    exact WP.rt (.r1 rfl rfl (imp_eq (by rw [List.take_of_length_le (by omega)])))
theorem c_r37_Need {g : RF} (h : GOk g) (hsm : Sm g) {s : ByteArray} {a n : Int} : PureC Tryz.prog 48 [eG g, val (.string s), I a, I n] (tup [I (rNeed g s a n).1, I (rNeed g s a n).2]) := by
  have hgn := h.num
  have hgk := h.k
  refine PureC.of_wp Tryz.func48 (by kernel_rfl) rfl Tryz.ntmps48 (le_ rfl) (fun w0 M0 => ?_)
  refine WP.seq ?_
  refine WP.region ?_
  refine WL.box (ot rfl) (.agg _) (by decide) fun b4 => ?_
  refine WL.op (asg (oc _)) (by decide) ?_
  refine WL.op (asg (oc _)) (by decide) ?_
  refine WL.nl (.thn ?_)
  refine WP.seq ?_
  refine WP.region ?_
  refine WL.op (lbs 0 rfl ag_ef36_Family (ot rfl) (le_ rfl)) (by decide) ?_
  refine WL.op (mv (ot rfl)) (by decide) ?_
  refine WL.op (mv (ot rfl)) (by decide) ?_
  refine WL.op (mv (ot rfl)) (by decide) ?_
  refine WL.op (call (c_r36_Family_Range h hsm) (.c (ot rfl) (.c (ot rfl) (.c (ot rfl) (.c (ot rfl) .n))))) (by decide) ?_
  refine WL.op (mv (ot rfl)) (by decide) ?_
  refine WL.op (ex (ot rfl) rfl) (by decide) ?_
  refine WL.op (ex (ot rfl) rfl) (by decide) ?_
  refine WL.op (asg (ot rfl)) (by decide) ?_
  refine WL.op (asg (ot rfl)) (by decide) ?_
  refine WL.nl (.thn ?_)
  refine WP.seq ?_
  refine WP.seq ?_
  refine WP.region ?_
  refine WL.op (mv (ot rfl)) (by decide) ?_
  refine WL.op (neq (ot rfl) (oc _)) (by decide) ?_
  refine WL.nl (.thn ?_)
  refine WP.cond rfl (fun hc => ?_) (fun hc => ?_)
  · skip
    have hz : ¬ (rRange g s a n).2 = 0 := by simpa using hc
    refine WP.seq ?_
    refine WP.region ?_
    refine WL.op (mv (ot rfl)) (by decide) ?_
    refine WL.op (asg (oc _)) (by decide) ?_
    refine WL.op (asg (ot rfl)) (by decide) ?_
    refine WL.nl (.thn ?_)
    exact WP.rt (.rthn (.rN rfl (.cons (.tm rfl) (.cons (.tm rfl) .nil)) (le_ rfl) (imp_eq (by unfold rNeed; rw [if_neg hz]))))
  · skip
    have hz : (rRange g s a n).2 = 0 := by simpa using hc
    obtain ⟨hxs, hxo, hn0, hn1⟩ := range_facts h hz
    have hgc := (counts_spec h).1
    have hb := exE_bd hxs hxo (rRange g s a n).1.length
    rw [List.take_length] at hb
    refine WP.sk (.thn ?_)
    refine WP.seq ?_
    refine WP.region ?_
    refine WL.op (mv (ot rfl)) (by decide) ?_
    refine WL.op (lbs 0 rfl ag_ef36_Family (ot rfl) (le_ rfl)) (by decide) ?_
    refine WL.op (call (c_r36_Family_Counts h) (.c (ot rfl) .n)) (by decide) ?_
    refine WL.op (mv (ot rfl)) (by decide) ?_
    refine WL.op (call (c_r37_exclusive (cs := rCounts g) (xs := (rRange g s a n).1) (by omega) hxs hxo) (.c (ot rfl) (.c (ot rfl) .n))) (by decide) ?_
    refine WL.op (sub (ot rfl) (ot rfl) (by omega)) (by decide) ?_
    refine WL.op (asg (ot rfl)) (by decide) ?_
    refine WL.op (asg (oc _)) (by decide) ?_
    refine WL.nl (.thn ?_)
    exact WP.rt (.rN rfl (.cons (.tm rfl) (.cons (.tm rfl) .nil)) (le_ rfl) (imp_eq (by unfold rNeed; rw [if_pos hz])))
end Go.Proofs.YtjglgfnhgehpeaaGreat

/- The law of space accounting: the example, a step, a script. -/
set_option linter.unusedVariables false
set_option linter.unusedSimpArgs false
set_option maxRecDepth 4000
namespace Go.Proofs.YtjglgfnhgehpeaaGreat
open Go.RowKit Go.Fw Go.Xt
def aN : ByteArray := ⟨#[97]⟩
def bN : ByteArray := ⟨#[98]⟩
def exF : Fam := (fAssign (fCreate (run0 10).1 aN 8 6).1 aN ⟨0, 2, 3⟩).1
def exG : RF := (rAssign (rCreate (run0 10).2 aN 8 6).1 aN ⟨0, 2, 3⟩).1
theorem ex_rel1 : Rel (fCreate (run0 10).1 aN 8 6).1 (rCreate (run0 10).2 aN 8 6).1 := (rel_create (run0_rs (k := 10) (by decide)).rel aN 8 6).2 (by decide +kernel)
theorem ex_rel : Rel exF exG := (rel_assign ex_rel1 aN ⟨0, 2, 3⟩).2.2 (by decide +kernel)
theorem ex_claim : rClaim exG aN = (4, 0) := by decide +kernel
theorem ex_need : rNeed exG aN 1 3 = (2, 0) := by decide +kernel
theorem ex_claims : rClaims exG = 4 := by decide +kernel
theorem ex_room : rRoom exG = 4 := by decide +kernel
theorem ex_cc1 : rCanCreate exG 4 4 = 0 := by decide +kernel
theorem ex_cc2 : rCanCreate exG 9 5 = 11 := by decide +kernel
theorem ex_cl : rCanClone exG aN = 0 := by decide +kernel
theorem ex_cw : rCanWrite exG bN 0 1 = 9 := by decide +kernel

theorem c_w37_example : PureC Tryz.prog 89 [] (eF exF) := by
  refine PureC.of_wp Tryz.func89 (by kernel_rfl) rfl Tryz.ntmps89 (le_ rfl) (fun w0 M0 => ?_)
  refine WP.seq ?_
  refine WP.region ?_
  refine WL.alloc zr_family_Family rfl (by decide) fun b0 => ?_
  refine WL.nl (.thn ?_)
  refine WP.seq ?_
  refine WP.region ?_
  refine WL.op (call (c_family_New (k := 10) (by decide)) (.c (oc _) .n)) (by decide) ?_
  refine WL.op (mv (ot rfl)) (by decide) ?_
  refine WL.op (ex (ot rfl) rfl) (by decide) ?_
  refine WL.op (ex (ot rfl) rfl) (by decide) ?_
  refine WL.alloc zr_family_Family rfl (by decide) fun b1 => ?_
  refine WL.store 0 rfl (ot rfl) (ot rfl) (.agg _) sz_family_Family rfl (le_ rfl) ?_
  refine WL.op (asg (ot rfl)) (by decide) ?_
  refine WL.nl (.thn ?_)
  refine WP.seq ?_
  refine WP.region ?_
  refine WL.op (lbs 0 rfl ag_family_Family (ot rfl) (le_ rfl)) (by decide) ?_
  refine WL.op (call (c_family_Family_Create (f := (run0 10).1) (s := aN) (by decide)) (.c (ot rfl) (.c (oc _) (.c (oc _) (.c (oc _) .n))))) (by decide) ?_
  refine WL.op (mv (ot rfl)) (by decide) ?_
  refine WL.op (ex (ot rfl) rfl) (by decide) ?_
  refine WL.op (ex (ot rfl) rfl) (by decide) ?_
  refine WL.store 0 rfl (ot rfl) (ot rfl) (.agg _) sz_family_Family rfl (le_ rfl) ?_
  refine WL.nl (.thn ?_)
  refine WP.seq ?_
  refine WP.region ?_
  refine WL.op (lbs 0 rfl ag_family_Family (ot rfl) (le_ rfl)) (by decide) ?_
  refine WL.op (bld zr_Extent rfl ps_Extent (.c (oc _) (.leaf (.val rfl)) pl_Extent_1 rfl (le_ rfl) (.c (oc _) (.leaf (.val rfl)) pl_Extent_2 rfl (le_ rfl) .n))) (by decide) ?_
  refine WL.op (call (c_family_Family_Assign (f := (fCreate (run0 10).1 aN 8 6).1) (s := aN) (x := ⟨0, 2, 3⟩) ex_rel1.fw) (.c (ot rfl) (.c (oc _) (.c (ot rfl) .n)))) (by decide) ?_
  refine WL.op (mv (ot rfl)) (by decide) ?_
  refine WL.op (ex (ot rfl) rfl) (by decide) ?_
  refine WL.op (ex (ot rfl) rfl) (by decide) ?_
  refine WL.op (ex (ot rfl) rfl) (by decide) ?_
  refine WL.store 0 rfl (ot rfl) (ot rfl) (.agg _) sz_family_Family rfl (le_ rfl) ?_
  refine WL.nl (.thn ?_)
  refine WP.seq ?_
  refine WP.region ?_
  refine WL.op (lbs 0 rfl ag_family_Family (ot rfl) (le_ rfl)) (by decide) ?_
  refine WL.store 1 rfl (ot rfl) (ot rfl) (.agg _) sz_family_Family rfl (le_ rfl) ?_
  refine WL.nl (.thn ?_)
  exact WP.rt (.rB rfl (.bx 1 rfl rfl ag_family_Family) (imp _))
theorem c_w37_awake : PureC Tryz.prog 39 [] (val (.bool true)) := by
  refine PureC.of_wp Tryz.func39 (by kernel_rfl) rfl Tryz.ntmps39 (le_ rfl) (fun w0 M0 => ?_)
  refine WP.seq ?_
  refine WP.region ?_
  refine WL.op (asg (oc _)) (by decide) ?_
  refine WL.nl (.thn ?_)
  refine WP.seq ?_
  refine WP.region ?_
  refine WL.op (call c_w37_example .n) (by decide) ?_
  refine WL.alloc zr_family_Family rfl (by decide) fun b1 => ?_
  refine WL.store 0 rfl (ot rfl) (ot rfl) (.agg _) sz_family_Family rfl (le_ rfl) ?_
  refine WL.nl (.thn ?_)
  refine WP.seq ?_
  refine WP.region ?_
  refine WL.op (lbs 0 rfl ag_family_Family (ot rfl) (le_ rfl)) (by decide) ?_
  refine WL.op (OpG.weak (R' := tup [I 4, I 0]) (call (c_thin_Claim (s := aN) ex_rel) (.c (ot rfl) (.c (oc _) .n))) (imp_eq (by rw [ex_claim]))) (by decide) ?_
  refine WL.op (mv (ot rfl)) (by decide) ?_
  refine WL.op (ex (ot rfl) rfl) (by decide) ?_
  refine WL.op (ex (ot rfl) rfl) (by decide) ?_
  refine WL.op (asg (ot rfl)) (by decide) ?_
  refine WL.op (asg (ot rfl)) (by decide) ?_
  refine WL.nl (.thn ?_)
  refine WP.seq ?_
  refine WP.region ?_
  refine WL.op (lbs 0 rfl ag_family_Family (ot rfl) (le_ rfl)) (by decide) ?_
  refine WL.op (OpG.weak (R' := tup [I 2, I 0]) (call (c_thin_Need (s := aN) (a := 1) (n := 3) ex_rel) (.c (ot rfl) (.c (oc _) (.c (oc _) (.c (oc _) .n))))) (imp_eq (by rw [ex_need]))) (by decide) ?_
  refine WL.op (mv (ot rfl)) (by decide) ?_
  refine WL.op (ex (ot rfl) rfl) (by decide) ?_
  refine WL.op (ex (ot rfl) rfl) (by decide) ?_
  refine WL.op (asg (ot rfl)) (by decide) ?_
  refine WL.op (asg (ot rfl)) (by decide) ?_
  refine WL.nl (.thn ?_)
  refine WP.seq ?_
  refine WP.region ?_
  refine WL.op (mv (ot rfl)) (by decide) ?_
  refine WL.op (OpG.weak (R' := val (.bool true)) (eql  (ot rfl) (oc _)) (imp_eq (congrArg (fun b => val (.bool b)) (decide_eq_true (rfl))))) (by decide) ?_
  refine WL.op (mv (ot rfl)) (by decide) ?_
  refine WL.gT rfl rfl ?_ -- g2
  refine WL.op (mv (ot rfl)) (by decide) ?_
  refine WL.gT rfl rfl ?_ -- g2
  refine WL.op (OpG.weak (R' := val (.bool true)) (eql  (ot rfl) (oc _)) (imp_eq (congrArg (fun b => val (.bool b)) (decide_eq_true (rfl))))) (by decide) ?_
  refine WL.op (pickT (ot rfl) (ot rfl)) (by decide) ?_
  refine WL.op (mv (ot rfl)) (by decide) ?_
  refine WL.gT rfl rfl ?_ -- g6
  refine WL.op (mv (ot rfl)) (by decide) ?_
  refine WL.gT rfl rfl ?_ -- g6
  refine WL.op (OpG.weak (R' := val (.bool true)) (eql  (ot rfl) (oc _)) (imp_eq (congrArg (fun b => val (.bool b)) (decide_eq_true (rfl))))) (by decide) ?_
  refine WL.op (pickT (ot rfl) (ot rfl)) (by decide) ?_
  refine WL.op (mv (ot rfl)) (by decide) ?_
  refine WL.gT rfl rfl ?_ -- g10
  refine WL.op (mv (ot rfl)) (by decide) ?_
  refine WL.gT rfl rfl ?_ -- g10
  refine WL.op (OpG.weak (R' := val (.bool true)) (eql  (ot rfl) (oc _)) (imp_eq (congrArg (fun b => val (.bool b)) (decide_eq_true (rfl))))) (by decide) ?_
  refine WL.op (pickT (ot rfl) (ot rfl)) (by decide) ?_
  refine WL.op (mv (ot rfl)) (by decide) ?_
  refine WL.gT rfl rfl ?_ -- g14
  refine WL.op (lbs 0 rfl ag_family_Family (ot rfl) (le_ rfl)) (by decide) ?_
  refine WL.gT rfl rfl ?_ -- g14
  refine WL.op (call (c_thin_Claims ex_rel) (.c (ot rfl) .n)) (by decide) ?_
  refine WL.gT rfl rfl ?_ -- g14
  refine WL.op (OpG.weak (R' := val (.bool true)) (eql  (ot rfl) (oc _)) (imp_eq (congrArg (fun b => val (.bool b)) (decide_eq_true (ex_claims))))) (by decide) ?_
  refine WL.op (pickT (ot rfl) (ot rfl)) (by decide) ?_
  refine WL.op (mv (ot rfl)) (by decide) ?_
  refine WL.gT rfl rfl ?_ -- g19
  refine WL.op (lbs 0 rfl ag_family_Family (ot rfl) (le_ rfl)) (by decide) ?_
  refine WL.gT rfl rfl ?_ -- g19
  refine WL.op (call (c_thin_Room ex_rel) (.c (ot rfl) .n)) (by decide) ?_
  refine WL.gT rfl rfl ?_ -- g19
  refine WL.op (OpG.weak (R' := val (.bool true)) (eql  (ot rfl) (oc _)) (imp_eq (congrArg (fun b => val (.bool b)) (decide_eq_true (ex_room))))) (by decide) ?_
  refine WL.op (pickT (ot rfl) (ot rfl)) (by decide) ?_
  refine WL.op (mv (ot rfl)) (by decide) ?_
  refine WL.gT rfl rfl ?_ -- g24
  refine WL.op (lbs 0 rfl ag_family_Family (ot rfl) (le_ rfl)) (by decide) ?_
  refine WL.gT rfl rfl ?_ -- g24
  refine WL.op (call (c_thin_CanCreate (n := 4) (r := 4) ex_rel) (.c (ot rfl) (.c (oc _) (.c (oc _) .n)))) (by decide) ?_
  refine WL.gT rfl rfl ?_ -- g24
  refine WL.op (OpG.weak (R' := val (.bool true)) (eql  (ot rfl) (oc _)) (imp_eq (congrArg (fun b => val (.bool b)) (decide_eq_true (ex_cc1))))) (by decide) ?_
  refine WL.op (pickT (ot rfl) (ot rfl)) (by decide) ?_
  refine WL.op (mv (ot rfl)) (by decide) ?_
  refine WL.gT rfl rfl ?_ -- g29
  refine WL.op (lbs 0 rfl ag_family_Family (ot rfl) (le_ rfl)) (by decide) ?_
  refine WL.gT rfl rfl ?_ -- g29
  refine WL.op (call (c_thin_CanCreate (n := 9) (r := 5) ex_rel) (.c (ot rfl) (.c (oc _) (.c (oc _) .n)))) (by decide) ?_
  refine WL.gT rfl rfl ?_ -- g29
  refine WL.op (OpG.weak (R' := val (.bool true)) (eql  (ot rfl) (oc _)) (imp_eq (congrArg (fun b => val (.bool b)) (decide_eq_true (ex_cc2))))) (by decide) ?_
  refine WL.op (pickT (ot rfl) (ot rfl)) (by decide) ?_
  refine WL.op (mv (ot rfl)) (by decide) ?_
  refine WL.gT rfl rfl ?_ -- g34
  refine WL.op (lbs 0 rfl ag_family_Family (ot rfl) (le_ rfl)) (by decide) ?_
  refine WL.gT rfl rfl ?_ -- g34
  refine WL.op (call (c_thin_CanClone (s := aN) ex_rel) (.c (ot rfl) (.c (oc _) .n))) (by decide) ?_
  refine WL.gT rfl rfl ?_ -- g34
  refine WL.op (OpG.weak (R' := val (.bool true)) (eql  (ot rfl) (oc _)) (imp_eq (congrArg (fun b => val (.bool b)) (decide_eq_true (ex_cl))))) (by decide) ?_
  refine WL.op (pickT (ot rfl) (ot rfl)) (by decide) ?_
  refine WL.op (mv (ot rfl)) (by decide) ?_
  refine WL.gT rfl rfl ?_ -- g39
  refine WL.op (lbs 0 rfl ag_family_Family (ot rfl) (le_ rfl)) (by decide) ?_
  refine WL.gT rfl rfl ?_ -- g39
  refine WL.op (call (c_thin_CanWrite (s := bN) (a := 0) (n := 1) ex_rel) (.c (ot rfl) (.c (oc _) (.c (oc _) (.c (oc _) .n))))) (by decide) ?_
  refine WL.gT rfl rfl ?_ -- g39
  refine WL.op (OpG.weak (R' := val (.bool true)) (eql  (ot rfl) (oc _)) (imp_eq (congrArg (fun b => val (.bool b)) (decide_eq_true (ex_cw))))) (by decide) ?_
  refine WL.op (pickT (ot rfl) (ot rfl)) (by decide) ?_
  refine WL.op (asg (ot rfl)) (by decide) ?_
  refine WL.nl (.thn ?_)
  exact WP.rt (.r1 rfl rfl (imp _))
def fA (f : Fam) (t : St6) : Fam := if (fApply f t).2.2 = 0 then (fApply f t).1 else f
theorem fA_ap {p : Fam × RF} (h : Rel p.1 p.2) (t : St6) : (ap p t).1 = fA p.1 t := by
  unfold ap fA
  rw [(rel_apply h t).1]
  split <;> rfl
theorem c_w37_apply {f : Fam} {t : St6} (h : Fw0 f) (ht : t.U8) : PureC Tryz.prog 90 [eF f, agg (FS6 t)] (eF (fA f t)) := by
  have hk := ht.k; have hv := ht.v; have ho := ht.o; have ha := ht.a; have hn := ht.n; have hs := ht.s
  refine PureC.of_wp Tryz.func90 (by kernel_rfl) rfl Tryz.ntmps90 (le_ rfl) (fun w0 M0 => ?_)
  refine WP.seq ?_
  refine WP.region ?_
  refine WL.box (ot rfl) (.agg _) (by decide) fun b2 => ?_
  refine WL.box (ot rfl) (.agg _) (by decide) fun b3 => ?_
  refine WL.alloc zr_family_Family rfl (by decide) fun b4 => ?_
  refine WL.nl (.thn ?_)
  refine WP.seq ?_
  refine WP.region ?_
  refine WL.op (fv fo_ef36_Step_1 (ot rfl)) (by decide) ?_
  refine WL.op (lb 1 rfl sc_uint8 (ot rfl) rfl) (by decide) ?_
  refine WL.op (call (c_r36_Names ht.v) (.c (ot rfl) .n)) (by decide) ?_
  refine WL.op (asg (ot rfl)) (by decide) ?_
  refine WL.nl (.thn ?_)
  refine WP.seq ?_
  refine WP.region ?_
  refine WL.alloc zr_family_Family rfl (by decide) fun b6 => ?_
  refine WL.nl (.thn ?_)
  refine WP.seq ?_
  refine WP.region ?_
  refine WL.op (asg (oc _)) (by decide) ?_
  refine WL.nl (.thn ?_)
  refine WP.seq ?_
  refine WP.seq ?_
  refine WP.region ?_
  refine WL.op (fv fo_ef36_Step_0 (ot rfl)) (by decide) ?_
  refine WL.op (lb 2 rfl sc_uint8 (ot rfl) rfl) (by decide) ?_
  refine WL.op (rem_ (ot rfl) (oc _) (by omega) (by omega)) (by decide) ?_
  refine WL.nl (.thn ?_)
  refine WP.block ?_
  refine WP.seq ?_
  refine WP.region ?_
  refine WL.op (eql (ot rfl) (oc _)) (by decide) ?_
  refine WL.op (asg (ot rfl)) (by decide) ?_
  refine WL.nl (.thn ?_)
  refine WP.cond rfl (fun hc => ?_) (fun hc => ?_)
  · skip
    have h0 : t.k % 8 = 0 := of_decide_eq_true hc
    refine WP.region ?_
    refine WL.op (lbs 3 rfl ag_family_Family (ot rfl) (le_ rfl)) (by decide) ?_
    refine WL.op (mv (ot rfl)) (by decide) ?_
    refine WL.op (fv fo_ef36_Step_4 (ot rfl)) (by decide) ?_
    refine WL.op (lb 2 rfl sc_uint8 (ot rfl) rfl) (by decide) ?_
    refine WL.op (cv un_uint8 un_int (ot rfl) (IntWalk.i64_in _ (by omega))) (by decide) ?_
    refine WL.op (fv fo_ef36_Step_3 (ot rfl)) (by decide) ?_
    refine WL.op (lb 2 rfl sc_uint8 (ot rfl) rfl) (by decide) ?_
    refine WL.op (cv un_uint8 un_int (ot rfl) (IntWalk.i64_in _ (by omega))) (by decide) ?_
    refine WL.op (call (c_family_Family_Create (nm_size _)) (.c (ot rfl) (.c (ot rfl) (.c (ot rfl) (.c (ot rfl) .n))))) (by decide) ?_
    refine WL.op (mv (ot rfl)) (by decide) ?_
    refine WL.op (ex (ot rfl) rfl) (by decide) ?_
    refine WL.op (ex (ot rfl) rfl) (by decide) ?_
    refine WL.store 0 rfl (ot rfl) (ot rfl) (.agg _) sz_family_Family rfl (le_ rfl) ?_
    refine WL.op (asg (ot rfl)) (by decide) ?_
    refine WL.nl (.blk (.thn ?_))
    refine WP.seq ?_
    refine WP.seq ?_
    refine WP.region ?_
    refine WL.op (mv (ot rfl)) (by decide) ?_
    refine WL.op (neq (ot rfl) (oc _)) (by decide) ?_
    refine WL.nl (.thn ?_)
    refine WP.cond rfl (fun hc => ?_) (fun hc => ?_)
    · skip
      have hz : ¬ (fCreate f (nm t.v) t.n t.a).2 = 0 := by simpa using hc
      refine WP.seq ?_
      refine WP.region ?_
      refine WL.op (lbs 3 rfl ag_family_Family (ot rfl) (le_ rfl)) (by decide) ?_
      refine WL.store 1 rfl (ot rfl) (ot rfl) (.agg _) sz_family_Family rfl (le_ rfl) ?_
      refine WL.nl (.thn ?_)
      exact WP.rt (.rthn (.rB rfl (.bx 1 rfl rfl ag_family_Family) (by rw [show fA f t = f from by unfold fA; rw [fA0 h0]; exact if_neg hz]; exact imp  _)))
    · skip
      have hz : (fCreate f (nm t.v) t.n t.a).2 = 0 := by simpa using hc
      refine WP.sk (.thn ?_)
      refine WP.seq ?_
      refine WP.region ?_
      refine WL.op (lbs 0 rfl ag_family_Family (ot rfl) (le_ rfl)) (by decide) ?_
      refine WL.store 1 rfl (ot rfl) (ot rfl) (.agg _) sz_family_Family rfl (le_ rfl) ?_
      refine WL.nl (.thn ?_)
      exact WP.rt (.rB rfl (.bx 1 rfl rfl ag_family_Family) (by rw [show fA f t = (fCreate f (nm t.v) t.n t.a).1 from by unfold fA; rw [fA0 h0]; exact if_pos hz]; exact imp  _))
  · skip
    have h0 : ¬ t.k % 8 = 0 := of_decide_eq_false hc
    refine WP.seq ?_
    refine WP.region ?_
    refine WL.op (eql (ot rfl) (oc _)) (by decide) ?_
    refine WL.op (asg (ot rfl)) (by decide) ?_
    refine WL.nl (.thn ?_)
    refine WP.cond rfl (fun hc => ?_) (fun hc => ?_)
    · skip
      have h1 : t.k % 8 = 1 := of_decide_eq_true hc
      refine WP.drawsH [0] ?_
      refine RG.opE (lbs 3 rfl ag_family_Family (ot rfl) (le_ rfl)) ?_
      refine RG.opE (mv (ot rfl)) ?_
      refine RG.opE (fv fo_ef36_Step_2 (ot rfl)) ?_
      refine RG.opE (lb 2 rfl sc_uint8 (ot rfl) rfl) ?_
      refine RG.opE (call (c_r36_Names ht.o) (.c (ot rfl) .n)) ?_
      refine RG.opE (call (c_family_Family_Clone (nm_size _) h) (.c (ot rfl) (.c (ot rfl) (.c (ot rfl) .n)))) ?_
      refine RG.opE (mv (ot rfl)) ?_
      refine RG.opE (ex (ot rfl) rfl) ?_
      refine RG.op (ex (ot rfl) rfl) ?_
      refine RG.sx (OpE.store 0 rfl (ot rfl) (ot rfl) (.agg _) sz_family_Family rfl (le_ rfl)) rfl ?_
      refine RG.op (asg (ot rfl)) ?_
      refine RG.fin HM (by kernel_rfl) ?_
      show WL _ _ _ _ _ _ _ _ _
      refine WL.nl (.blk (.thn ?_))
      refine WP.seq ?_
      refine WP.seq ?_
      refine WP.region ?_
      refine WL.op (mv (ot rfl)) (by decide) ?_
      refine WL.op (neq (ot rfl) (oc _)) (by decide) ?_
      refine WL.nl (.thn ?_)
      refine WP.cond rfl (fun hc => ?_) (fun hc => ?_)
      · skip
        have hz : ¬ (fClone f (nm t.v) (nm t.o)).2 = 0 := by simpa using hc
        refine WP.seq ?_
        refine WP.region ?_
        refine WL.op (lbs 3 rfl ag_family_Family (ot rfl) (le_ rfl)) (by decide) ?_
        refine WL.store 1 rfl (ot rfl) (ot rfl) (.agg _) sz_family_Family rfl (le_ rfl) ?_
        refine WL.nl (.thn ?_)
        exact WP.rt (.rthn (.rB rfl (.bx 1 rfl rfl ag_family_Family) (by rw [show fA f t = f from by unfold fA; rw [fA1 h0 h1]; exact if_neg hz]; exact imp  _)))
      · skip
        have hz : (fClone f (nm t.v) (nm t.o)).2 = 0 := by simpa using hc
        refine WP.sk (.thn ?_)
        refine WP.seq ?_
        refine WP.region ?_
        refine WL.op (lbs 0 rfl ag_family_Family (ot rfl) (le_ rfl)) (by decide) ?_
        refine WL.store 1 rfl (ot rfl) (ot rfl) (.agg _) sz_family_Family rfl (le_ rfl) ?_
        refine WL.nl (.thn ?_)
        exact WP.rt (.rB rfl (.bx 1 rfl rfl ag_family_Family) (by rw [show fA f t = (fClone f (nm t.v) (nm t.o)).1 from by unfold fA; rw [fA1 h0 h1]; exact if_pos hz]; exact imp  _))
    · skip
      have h1 : ¬ t.k % 8 = 1 := of_decide_eq_false hc
      refine WP.seq ?_
      refine WP.region ?_
      refine WL.op (eql (ot rfl) (oc _)) (by decide) ?_
      refine WL.op (asg (ot rfl)) (by decide) ?_
      refine WL.nl (.thn ?_)
      refine WP.cond rfl (fun hc => ?_) (fun hc => ?_)
      · skip
        have h2 : t.k % 8 = 2 := of_decide_eq_true hc
        refine WP.region ?_
        refine WL.op (lbs 3 rfl ag_family_Family (ot rfl) (le_ rfl)) (by decide) ?_
        refine WL.op (mv (ot rfl)) (by decide) ?_
        refine WL.op (call (c_family_Family_Delete h) (.c (ot rfl) (.c (ot rfl) .n))) (by decide) ?_
        refine WL.op (mv (ot rfl)) (by decide) ?_
        refine WL.op (ex (ot rfl) rfl) (by decide) ?_
        refine WL.op (ex (ot rfl) rfl) (by decide) ?_
        refine WL.op (ex (ot rfl) rfl) (by decide) ?_
        refine WL.store 0 rfl (ot rfl) (ot rfl) (.agg _) sz_family_Family rfl (le_ rfl) ?_
        refine WL.op (asg (ot rfl)) (by decide) ?_
        refine WL.nl (.blk (.thn ?_))
        refine WP.seq ?_
        refine WP.seq ?_
        refine WP.region ?_
        refine WL.op (mv (ot rfl)) (by decide) ?_
        refine WL.op (neq (ot rfl) (oc _)) (by decide) ?_
        refine WL.nl (.thn ?_)
        refine WP.cond rfl (fun hc => ?_) (fun hc => ?_)
        · skip
          have hz : ¬ (fDelete f (nm t.v)).2.2 = 0 := by simpa using hc
          refine WP.seq ?_
          refine WP.region ?_
          refine WL.op (lbs 3 rfl ag_family_Family (ot rfl) (le_ rfl)) (by decide) ?_
          refine WL.store 1 rfl (ot rfl) (ot rfl) (.agg _) sz_family_Family rfl (le_ rfl) ?_
          refine WL.nl (.thn ?_)
          exact WP.rt (.rthn (.rB rfl (.bx 1 rfl rfl ag_family_Family) (by rw [show fA f t = f from by unfold fA; rw [fA2 h0 h1 h2]; exact if_neg hz]; exact imp  _)))
        · skip
          have hz : (fDelete f (nm t.v)).2.2 = 0 := by simpa using hc
          refine WP.sk (.thn ?_)
          refine WP.seq ?_
          refine WP.region ?_
          refine WL.op (lbs 0 rfl ag_family_Family (ot rfl) (le_ rfl)) (by decide) ?_
          refine WL.store 1 rfl (ot rfl) (ot rfl) (.agg _) sz_family_Family rfl (le_ rfl) ?_
          refine WL.nl (.thn ?_)
          exact WP.rt (.rB rfl (.bx 1 rfl rfl ag_family_Family) (by rw [show fA f t = (fDelete f (nm t.v)).1 from by unfold fA; rw [fA2 h0 h1 h2]; exact if_pos hz]; exact imp  _))
      · skip
        have h2 : ¬ t.k % 8 = 2 := of_decide_eq_false hc
        refine WP.seq ?_
        refine WP.region ?_
        refine WL.op (eql (ot rfl) (oc _)) (by decide) ?_
        refine WL.op (asg (ot rfl)) (by decide) ?_
        refine WL.nl (.thn ?_)
        refine WP.cond rfl (fun hc => ?_) (fun hc => ?_)
        · skip
          have h3 : t.k % 8 = 3 := of_decide_eq_true hc
          refine WP.region ?_
          refine WL.op (lbs 3 rfl ag_family_Family (ot rfl) (le_ rfl)) (by decide) ?_
          refine WL.op (mv (ot rfl)) (by decide) ?_
          refine WL.op (fv fo_ef36_Step_3 (ot rfl)) (by decide) ?_
          refine WL.op (lb 2 rfl sc_uint8 (ot rfl) rfl) (by decide) ?_
          refine WL.op (cv un_uint8 un_int (ot rfl) (IntWalk.i64_in _ (by omega))) (by decide) ?_
          refine WL.op (fv fo_ef36_Step_4 (ot rfl)) (by decide) ?_
          refine WL.op (lb 2 rfl sc_uint8 (ot rfl) rfl) (by decide) ?_
          refine WL.op (cv un_uint8 un_int (ot rfl) (IntWalk.i64_in _ (by omega))) (by decide) ?_
          refine WL.op (call (c_family_Family_Unmap h) (.c (ot rfl) (.c (ot rfl) (.c (ot rfl) (.c (ot rfl) .n))))) (by decide) ?_
          refine WL.op (mv (ot rfl)) (by decide) ?_
          refine WL.op (ex (ot rfl) rfl) (by decide) ?_
          refine WL.op (ex (ot rfl) rfl) (by decide) ?_
          refine WL.op (ex (ot rfl) rfl) (by decide) ?_
          refine WL.store 0 rfl (ot rfl) (ot rfl) (.agg _) sz_family_Family rfl (le_ rfl) ?_
          refine WL.op (asg (ot rfl)) (by decide) ?_
          refine WL.nl (.blk (.thn ?_))
          refine WP.seq ?_
          refine WP.seq ?_
          refine WP.region ?_
          refine WL.op (mv (ot rfl)) (by decide) ?_
          refine WL.op (neq (ot rfl) (oc _)) (by decide) ?_
          refine WL.nl (.thn ?_)
          refine WP.cond rfl (fun hc => ?_) (fun hc => ?_)
          · skip
            have hz : ¬ (fUnmap f (nm t.v) t.a t.n).2.2 = 0 := by simpa using hc
            refine WP.seq ?_
            refine WP.region ?_
            refine WL.op (lbs 3 rfl ag_family_Family (ot rfl) (le_ rfl)) (by decide) ?_
            refine WL.store 1 rfl (ot rfl) (ot rfl) (.agg _) sz_family_Family rfl (le_ rfl) ?_
            refine WL.nl (.thn ?_)
            exact WP.rt (.rthn (.rB rfl (.bx 1 rfl rfl ag_family_Family) (by rw [show fA f t = f from by unfold fA; rw [fA3 h0 h1 h2 h3]; exact if_neg hz]; exact imp  _)))
          · skip
            have hz : (fUnmap f (nm t.v) t.a t.n).2.2 = 0 := by simpa using hc
            refine WP.sk (.thn ?_)
            refine WP.seq ?_
            refine WP.region ?_
            refine WL.op (lbs 0 rfl ag_family_Family (ot rfl) (le_ rfl)) (by decide) ?_
            refine WL.store 1 rfl (ot rfl) (ot rfl) (.agg _) sz_family_Family rfl (le_ rfl) ?_
            refine WL.nl (.thn ?_)
            exact WP.rt (.rB rfl (.bx 1 rfl rfl ag_family_Family) (by rw [show fA f t = (fUnmap f (nm t.v) t.a t.n).1 from by unfold fA; rw [fA3 h0 h1 h2 h3]; exact if_pos hz]; exact imp  _))
        · skip
          have h3 : ¬ t.k % 8 = 3 := of_decide_eq_false hc
          refine WP.region ?_
          refine WL.op (lbs 3 rfl ag_family_Family (ot rfl) (le_ rfl)) (by decide) ?_
          refine WL.op (mv (ot rfl)) (by decide) ?_
          refine WL.op (fv fo_ef36_Step_3 (ot rfl)) (by decide) ?_
          refine WL.op (lb 2 rfl sc_uint8 (ot rfl) rfl) (by decide) ?_
          refine WL.op (cv un_uint8 un_int (ot rfl) (IntWalk.i64_in _ (by omega))) (by decide) ?_
          refine WL.op (fv fo_ef36_Step_4 (ot rfl)) (by decide) ?_
          refine WL.op (lb 2 rfl sc_uint8 (ot rfl) rfl) (by decide) ?_
          refine WL.op (cv un_uint8 un_int (ot rfl) (IntWalk.i64_in _ (by omega))) (by decide) ?_
          refine WL.op (fv fo_ef36_Step_5 (ot rfl)) (by decide) ?_
          refine WL.op (lb 2 rfl sc_uint8 (ot rfl) rfl) (by decide) ?_
          refine WL.op (cv un_uint8 un_int (ot rfl) (IntWalk.i64_in _ (by omega))) (by decide) ?_
          refine WL.op (bld zr_Extent rfl ps_Extent (.c (ot rfl) (.leaf (.val rfl)) pl_Extent_0 rfl (le_ rfl) (.c (ot rfl) (.leaf (.val rfl)) pl_Extent_1 rfl (le_ rfl) (.c (ot rfl) (.leaf (.val rfl)) pl_Extent_2 rfl (le_ rfl) .n)))) (by decide) ?_
          refine WL.op (call (c_family_Family_Assign (x := t.x) h) (.c (ot rfl) (.c (ot rfl) (.c (ot rfl) .n)))) (by decide) ?_
          refine WL.op (mv (ot rfl)) (by decide) ?_
          refine WL.op (ex (ot rfl) rfl) (by decide) ?_
          refine WL.op (ex (ot rfl) rfl) (by decide) ?_
          refine WL.op (ex (ot rfl) rfl) (by decide) ?_
          refine WL.store 0 rfl (ot rfl) (ot rfl) (.agg _) sz_family_Family rfl (le_ rfl) ?_
          refine WL.op (asg (ot rfl)) (by decide) ?_
          refine WL.nl (.blk (.thn ?_))
          refine WP.seq ?_
          refine WP.seq ?_
          refine WP.region ?_
          refine WL.op (mv (ot rfl)) (by decide) ?_
          refine WL.op (neq (ot rfl) (oc _)) (by decide) ?_
          refine WL.nl (.thn ?_)
          refine WP.cond rfl (fun hc => ?_) (fun hc => ?_)
          · skip
            have hz : ¬ (fAssign f (nm t.v) t.x).2.2 = 0 := by simpa using hc
            refine WP.seq ?_
            refine WP.region ?_
            refine WL.op (lbs 3 rfl ag_family_Family (ot rfl) (le_ rfl)) (by decide) ?_
            refine WL.store 1 rfl (ot rfl) (ot rfl) (.agg _) sz_family_Family rfl (le_ rfl) ?_
            refine WL.nl (.thn ?_)
            exact WP.rt (.rthn (.rB rfl (.bx 1 rfl rfl ag_family_Family) (by rw [show fA f t = f from by unfold fA; rw [fA4 h0 h1 h2 h3]; exact if_neg hz]; exact imp  _)))
          · skip
            have hz : (fAssign f (nm t.v) t.x).2.2 = 0 := by simpa using hc
            refine WP.sk (.thn ?_)
            refine WP.seq ?_
            refine WP.region ?_
            refine WL.op (lbs 0 rfl ag_family_Family (ot rfl) (le_ rfl)) (by decide) ?_
            refine WL.store 1 rfl (ot rfl) (ot rfl) (.agg _) sz_family_Family rfl (le_ rfl) ?_
            refine WL.nl (.thn ?_)
            exact WP.rt (.rB rfl (.bx 1 rfl rfl ag_family_Family) (by rw [show fA f t = (fAssign f (nm t.v) t.x).1 from by unfold fA; rw [fA4 h0 h1 h2 h3]; exact if_pos hz]; exact imp  _))
end Go.Proofs.YtjglgfnhgehpeaaGreat

/- Sizes and places of this program's types, each asked of the kernel. -/
namespace Go.Proofs.YtjglgfnhgehpeaaGreat
open Go.Fw
theorem ao_2_uint8_0 : arrOff Tryz.prog 93 0 = some 0 := by kernel_rfl
theorem ao_2_uint8_1 : arrOff Tryz.prog 93 1 = some 1 := by kernel_rfl
end Go.Proofs.YtjglgfnhgehpeaaGreat

/- Parts: L37s, L37x, L37f. -/
import Derived.Test.YtjglgfnhgehpeaaGreatYB
import Derived.Test.YtjglgfnhgehpeaaGreatYA
import Derived.Test.YtjglgfnhgehpeaaGreatYy
/- The law of space accounting: sound all along. -/
set_option linter.unusedVariables false
set_option linter.unusedSimpArgs false
set_option maxRecDepth 4000
namespace Go.Proofs.YtjglgfnhgehpeaaGreat
open Go.RowKit Go.Fw Go.Xt
theorem c_w37_ThinSound {m : Int} {sc : List St6} (hm : 0 ≤ m ∧ m ≤ 255) (ht : ∀ t ∈ sc, t.U8) : PureC Tryz.prog 14 [val (.int .u8 m), sl 6 FS6 sc] (val (.bool true)) := by
  refine PureC.of_wp Tryz.func14 (by kernel_rfl) rfl Tryz.ntmps14 (le_ rfl) (fun w0 M0 => ?_)
  refine WP.seq ?_
  refine WP.region ?_
  refine WL.op (asg (oc _)) (by decide) ?_
  refine WL.nl (.thn ?_)
  refine WP.seq ?_
  refine WP.seq ?_
  refine WP.region ?_
  refine WL.op (call c_w37_awake .n) (by decide) ?_
  refine WL.op (not_ (ot rfl)) (by decide) ?_
  refine WL.nl (.thn ?_)
  refine WP.condF rfl ?_
  refine WP.sk (.thn ?_)
  refine WP.seq ?_
  refine WP.seq ?_
  refine WP.region ?_
  refine WL.op (mv (ot rfl)) (by decide) ?_
  refine WL.op (len_ us_s_tegularef36_Step (ot rfl)) (by decide) ?_
  refine WL.op (gtr (ot rfl) (oc _)) (by decide) ?_
  refine WL.nl (.thn ?_)
  refine WP.cond rfl (fun hc => ?_) (fun hc => ?_)
  · skip
    refine WP.seq ?_
    refine WP.region ?_
    refine WL.op (asg (oc _)) (by decide) ?_
    refine WL.nl (.thn ?_)
    exact WP.rt (.rthn (.r1 rfl rfl (imp _)))
  · skip
    have hc2 : sc.length ≤ 25 := by have := of_decide_eq_false hc; omega
    refine WP.sk (.thn ?_)
    refine WP.seq ?_
    refine WP.region ?_
    refine WL.op (mv (ot rfl)) (by decide) ?_
    refine WL.op (rem_ (ot rfl) (oc _) (by omega) (by omega)) (by decide) ?_
    refine WL.op (OpG.weak (R' := I ((m % 50).toNat : Int)) (cv un_uint8 un_int (ot rfl) (IntWalk.i64_in _ (by omega))) (imp_eq (congrArg I (by omega)))) (by decide) ?_
    refine WL.op (call (c_family_New (k := (m % 50).toNat) (by omega)) (.c (ot rfl) .n)) (by decide) ?_
    refine WL.op (mv (ot rfl)) (by decide) ?_
    refine WL.op (ex (ot rfl) rfl) (by decide) ?_
    refine WL.op (ex (ot rfl) rfl) (by decide) ?_
    refine WL.alloc zr_family_Family rfl (by decide) fun b5 => ?_
    refine WL.store 0 rfl (ot rfl) (ot rfl) (.agg _) sz_family_Family rfl (le_ rfl) ?_
    refine WL.op (asg (ot rfl)) (by decide) ?_
    refine WL.nl (.thn ?_)
    refine WP.seq ?_
    refine WP.region ?_
    refine WL.op (mv (ot rfl)) (by decide) ?_
    refine WL.op (rem_ (ot rfl) (oc _) (by omega) (by omega)) (by decide) ?_
    refine WL.op (OpG.weak (R' := I ((m % 50).toNat : Int)) (cv un_uint8 un_int (ot rfl) (IntWalk.i64_in _ (by omega))) (imp_eq (congrArg I (by omega)))) (by decide) ?_
    refine WL.op (call (c_r36_New (k := (m % 50).toNat) (by omega)) (.c (ot rfl) .n)) (by decide) ?_
    refine WL.op (mv (ot rfl)) (by decide) ?_
    refine WL.op (ex (ot rfl) rfl) (by decide) ?_
    refine WL.op (ex (ot rfl) rfl) (by decide) ?_
    refine WL.alloc zr_ef36_Family rfl (by decide) fun b7 => ?_
    refine WL.store 0 rfl (ot rfl) (ot rfl) (.agg _) sz_ef36_Family rfl (le_ rfl) ?_
    refine WL.op (asg (ot rfl)) (by decide) ?_
    refine WL.nl (.thn ?_)
    refine WP.seq ?_
    refine WP.seq ?_
    refine WP.region ?_
    refine WL.op (asg (oc _)) (by decide) ?_
    refine WL.nl (.thn ?_)
    refine WP.block ?_
    refine WP.loop (fun y : Nat => [.b b7 45 [I ((pmF (run0 (m % 50).toNat) (sc.take y)).2.k : Int), sl 4 FRV (pmF (run0 (m % 50).toNat) (sc.take y)).2.vs], .b b5 28 [sl 1 FI (pmF (run0 (m % 50).toNat) (sc.take y)).1.cs, mp FV (pmF (run0 (m % 50).toNat) (sc.take y)).1.vs]]) (fun y => [(9, I (y : Int)), (7, val (.pointer (some ⟨b7, 0, none⟩))), (5, val (.pointer (some ⟨b5, 0, none⟩))), (1, sl 6 FS6 sc)]) (fun y => y ≤ sc.length) (fun y => sc.length - y) 0 (Nat.zero_le _) (Sub.ofD 0 rfl (Sub.cons rfl (imp_eq rfl) (Sub.cons rfl (imp  _) (Sub.cons rfl (imp  _) (Sub.cons rfl (imp  _) Sub.nil))))) (fun i hi => ?_)
    replace hi : i ≤ sc.length := hi
    show WP _ _ _ _ [.b b7 45 [I ((pmF (run0 (m % 50).toNat) (sc.take i)).2.k : Int), sl 4 FRV (pmF (run0 (m % 50).toNat) (sc.take i)).2.vs], .b b5 28 [sl 1 FI (pmF (run0 (m % 50).toNat) (sc.take i)).1.cs, mp FV (pmF (run0 (m % 50).toNat) (sc.take i)).1.vs]] [(9, I (i : Int)), (7, val (.pointer (some ⟨b7, 0, none⟩))), (5, val (.pointer (some ⟨b5, 0, none⟩))), (1, sl 6 FS6 sc)] _ _
    refine WP.seq ?_
    refine WP.seq ?_
    refine WP.region ?_
    refine WL.op (mv (ot rfl)) (by decide) ?_
    refine WL.op (mv (ot rfl)) (by decide) ?_
    refine WL.op (len_ us_s_tegularef36_Step (ot rfl)) (by decide) ?_
    refine WL.op (lss (ot rfl) (ot rfl)) (by decide) ?_
    refine WL.nl (.thn ?_)
    refine WP.cond rfl (fun hc => ?_) (fun hc => ?_)
    · skip
      have hc1 : i < sc.length := by have := of_decide_eq_true hc; omega
      have hsp := pmF_sp (sc := sc.take i) (run0_sp (k := (m % 50).toNat) (by omega)) fun t h => ht t (List.mem_of_mem_take h)
      have hsq : SP (pm (pmF (run0 (m % 50).toNat) (sc.take i)) (sc.getD (i : Int).toNat default)) := ⟨pm_snd hsp.snd _, sm_pm hsp.snd hsp.sm (ht _ (getS_mem hc1))⟩
      refine WP.sk (.thn ?_)
      refine WP.seq ?_
      refine WP.block ?_
      refine WP.seq ?_
      refine WP.region ?_
      refine WL.op (asg (oc _)) (by decide) ?_
      refine WL.nl (.thn ?_)
      refine WP.seq ?_
      refine WP.drawsH [0, 1] ?_
      refine RG.opE (lbs 1 rfl ag_family_Family (ot rfl) (le_ rfl)) ?_
      refine RG.opE (lbs 0 rfl ag_ef36_Family (ot rfl) (le_ rfl)) ?_
      refine RG.opE (mv (ot rfl)) ?_
      refine RG.opE (mv (ot rfl)) ?_
      refine RG.opE (ixd el_s_tegularef36_Step (ot rfl) (ot rfl) (by omega) (by omega)) ?_
      refine RG.opE (ls ag_ef36_Step (ot rfl) (le_ rfl)) ?_
      refine RG.opE (call (c_w37_permitted (p := (pmF (run0 (m % 50).toNat) (sc.take i))) (t := (sc.getD (i : Int).toNat default)) hsp.snd hsp.sm (ht _ (getS_mem hc1))) (.c (ot rfl) (.c (ot rfl) (.c (ot rfl) .n)))) ?_
      refine RG.opE (mv (ot rfl)) ?_
      refine RG.opE (ex (ot rfl) rfl) ?_
      refine RG.op (ex (ot rfl) rfl) ?_
      refine RG.op (ex (ot rfl) rfl) ?_
      refine RG.sx (OpE.store 1 rfl (ot rfl) (ot rfl) (.agg _) sz_family_Family rfl (le_ rfl)) rfl ?_
      refine RG.sx (OpE.store 0 rfl (ot rfl) (ot rfl) (.agg _) sz_ef36_Family rfl (le_ rfl)) rfl ?_
      refine RG.op (asg (ot rfl)) ?_
      refine RG.fin HM (by kernel_rfl) ?_
      show WL _ _ _ _ _ _ _ _ _
      refine WL.nl (.thn ?_)
      refine WP.seq ?_
      refine WP.draws ?_
      refine RG.op (mv (ot rfl)) ?_
      refine RG.op (not_ (ot rfl)) ?_
      refine RG.op (mv (ot rfl)) ?_
      refine RG.gd rfl rfl (Tells.v _ _) (fun hg => lbs 0 rfl ag_ef36_Family (ot rfl) (le_ rfl)) ?_
      refine RG.gd rfl rfl (Tells.v _ _) (fun hg => call (c_r37_Room hsq.snd.rel.ok) (.c (og rfl hg) .n)) ?_
      refine RG.gd rfl rfl (Tells.v _ _) (fun hg => OpG.weak (R' := val (.bool false)) (lss  (og rfl hg) (oc _)) (imp_eq (congrArg (fun b => val (.bool b)) (decide_eq_false (by have := sp_room hsq; omega))))) ?_
      refine RG.op (or_ (ot rfl) (ot rfl)) ?_
      refine RG.op (mv (ot rfl)) ?_
      refine RG.gd rfl rfl (Tells.v _ _) (fun hg => lbs 1 rfl ag_family_Family (ot rfl) (le_ rfl)) ?_
      refine RG.gd rfl rfl (Tells.v _ _) (fun hg => call (c_thin_Room hsq.snd.rel) (.c (og rfl hg) .n)) ?_
      refine RG.gd rfl rfl (Tells.v _ _) (fun hg => lbs 0 rfl ag_ef36_Family (ot rfl) (le_ rfl)) ?_
      refine RG.gd rfl rfl (Tells.v _ _) (fun hg => call (c_r37_Room hsq.snd.rel.ok) (.c (og rfl hg) .n)) ?_
      refine RG.gd rfl rfl (Tells.v _ _) (fun hg => OpG.weak (R' := val (.bool false)) (neq  (og rfl hg) (og rfl hg)) (imp_eq (congrArg (fun b => val (.bool b)) (by rw [decide_eq_true rfl]; rfl)))) ?_
      refine RG.op (or_ (ot rfl) (ot rfl)) ?_
      refine RG.fin HM (by kernel_rfl) ?_
      show WL _ _ _ _ _ _ _ _ _
      refine WL.nl (.thn ?_)
      refine WP.condF rfl ?_
      refine WP.sk (.blk (.thn ?_))
      refine WP.region ?_
      refine WL.op (mv (ot rfl)) (by decide) ?_
      refine WL.op (add (ot rfl) (oc _) (by omega)) (by decide) ?_
      refine WL.op (asg (ot rfl)) (by decide) ?_
      exact WL.nl (.again (i + 1) hc1 (by omega) (Sub.ofD 0 (by rw [pmF_step hc1]; rfl) (Sub.cons rfl (imp_eq (congrArg I (by omega))) (Sub.cons rfl (imp  _) (Sub.cons rfl (imp  _) (Sub.cons rfl (imp  _) Sub.nil))))))
    · skip
      have hc1 : ¬ i < sc.length := by have := of_decide_eq_false hc; omega
      refine WP.xt (.xthn (.xthn (.xin (.thn ?_))))
      refine WP.seq ?_
      refine WP.region ?_
      refine WL.op (asg (oc _)) (by decide) ?_
      refine WL.nl (.thn ?_)
      exact WP.rt (.r1 rfl rfl (imp _))
end Go.Proofs.YtjglgfnhgehpeaaGreat

/- The law of space accounting: exactly what may be made. -/
set_option linter.unusedVariables false
set_option linter.unusedSimpArgs false
set_option maxRecDepth 4000
namespace Go.Proofs.YtjglgfnhgehpeaaGreat
open Go.RowKit Go.Fw Go.Xt
theorem c_w37_ThinExact {m : Int} {sc : List St6} {x z : Int} (hm : 0 ≤ m ∧ m ≤ 255) (ht : ∀ t ∈ sc, t.U8) (hx : 0 ≤ x ∧ x ≤ 255) (hz : 0 ≤ z ∧ z ≤ 255) : PureC Tryz.prog 15 [val (.int .u8 m), sl 6 FS6 sc, agg [val (.int .u8 x), val (.int .u8 z)]] (val (.bool true)) := by
  refine PureC.of_wp Tryz.func15 (by kernel_rfl) rfl Tryz.ntmps15 (le_ rfl) (fun w0 M0 => ?_)
  refine WP.seq ?_
  refine WP.region ?_
  refine WL.box (ot rfl) (.agg _) (by decide) fun b5 => ?_
  refine WL.op (asg (oc _)) (by decide) ?_
  refine WL.nl (.thn ?_)
  refine WP.seq ?_
  refine WP.seq ?_
  refine WP.region ?_
  refine WL.op (call c_w37_awake .n) (by decide) ?_
  refine WL.op (not_ (ot rfl)) (by decide) ?_
  refine WL.nl (.thn ?_)
  refine WP.condF rfl ?_
  refine WP.sk (.thn ?_)
  refine WP.seq ?_
  refine WP.seq ?_
  refine WP.region ?_
  refine WL.op (mv (ot rfl)) (by decide) ?_
  refine WL.op (len_ us_s_tegularef36_Step (ot rfl)) (by decide) ?_
  refine WL.op (gtr (ot rfl) (oc _)) (by decide) ?_
  refine WL.nl (.thn ?_)
  refine WP.cond rfl (fun hc => ?_) (fun hc => ?_)
  · skip
    refine WP.seq ?_
    refine WP.region ?_
    refine WL.op (asg (oc _)) (by decide) ?_
    refine WL.nl (.thn ?_)
    exact WP.rt (.rthn (.r1 rfl rfl (imp _)))
  · skip
    have hc2 : sc.length ≤ 20 := by have := of_decide_eq_false hc; omega
    refine WP.sk (.thn ?_)
    refine WP.seq ?_
    refine WP.region ?_
    refine WL.op (mv (ot rfl)) (by decide) ?_
    refine WL.op (rem_ (ot rfl) (oc _) (by omega) (by omega)) (by decide) ?_
    refine WL.op (OpG.weak (R' := I ((m % 50).toNat : Int)) (cv un_uint8 un_int (ot rfl) (IntWalk.i64_in _ (by omega))) (imp_eq (congrArg I (by omega)))) (by decide) ?_
    refine WL.op (call (c_family_New (k := (m % 50).toNat) (by omega)) (.c (ot rfl) .n)) (by decide) ?_
    refine WL.op (mv (ot rfl)) (by decide) ?_
    refine WL.op (ex (ot rfl) rfl) (by decide) ?_
    refine WL.op (ex (ot rfl) rfl) (by decide) ?_
    refine WL.alloc zr_family_Family rfl (by decide) fun b7 => ?_
    refine WL.store 0 rfl (ot rfl) (ot rfl) (.agg _) sz_family_Family rfl (le_ rfl) ?_
    refine WL.op (asg (ot rfl)) (by decide) ?_
    refine WL.nl (.thn ?_)
    refine WP.seq ?_
    refine WP.region ?_
    refine WL.op (mv (ot rfl)) (by decide) ?_
    refine WL.op (rem_ (ot rfl) (oc _) (by omega) (by omega)) (by decide) ?_
    refine WL.op (OpG.weak (R' := I ((m % 50).toNat : Int)) (cv un_uint8 un_int (ot rfl) (IntWalk.i64_in _ (by omega))) (imp_eq (congrArg I (by omega)))) (by decide) ?_
    refine WL.op (call (c_r36_New (k := (m % 50).toNat) (by omega)) (.c (ot rfl) .n)) (by decide) ?_
    refine WL.op (mv (ot rfl)) (by decide) ?_
    refine WL.op (ex (ot rfl) rfl) (by decide) ?_
    refine WL.op (ex (ot rfl) rfl) (by decide) ?_
    refine WL.alloc zr_ef36_Family rfl (by decide) fun b9 => ?_
    refine WL.store 0 rfl (ot rfl) (ot rfl) (.agg _) sz_ef36_Family rfl (le_ rfl) ?_
    refine WL.op (asg (ot rfl)) (by decide) ?_
    refine WL.nl (.thn ?_)
    refine WP.seq ?_
    refine WP.seq ?_
    refine WP.region ?_
    refine WL.op (asg (oc _)) (by decide) ?_
    refine WL.nl (.thn ?_)
    refine WP.block ?_
    refine WP.loop (fun y : Nat => [.b b9 45 [I ((pmF (run0 (m % 50).toNat) (sc.take y)).2.k : Int), sl 4 FRV (pmF (run0 (m % 50).toNat) (sc.take y)).2.vs], .b b7 28 [sl 1 FI (pmF (run0 (m % 50).toNat) (sc.take y)).1.cs, mp FV (pmF (run0 (m % 50).toNat) (sc.take y)).1.vs], .b b5 93 [val (.int .u8 x), val (.int .u8 z)]]) (fun y => [(11, I (y : Int)), (9, val (.pointer (some ⟨b9, 0, none⟩))), (7, val (.pointer (some ⟨b7, 0, none⟩))), (5, val (.pointer (some ⟨b5, 0, none⟩))), (1, sl 6 FS6 sc)]) (fun y => y ≤ sc.length) (fun y => sc.length - y) 0 (Nat.zero_le _) (Sub.ofD 0 rfl (Sub.cons rfl (imp_eq rfl) (Sub.cons rfl (imp  _) (Sub.cons rfl (imp  _) (Sub.cons rfl (imp  _) (Sub.cons rfl (imp  _) Sub.nil)))))) (fun i hi => ?_)
    replace hi : i ≤ sc.length := hi
    show WP _ _ _ _ [.b b9 45 [I ((pmF (run0 (m % 50).toNat) (sc.take i)).2.k : Int), sl 4 FRV (pmF (run0 (m % 50).toNat) (sc.take i)).2.vs], .b b7 28 [sl 1 FI (pmF (run0 (m % 50).toNat) (sc.take i)).1.cs, mp FV (pmF (run0 (m % 50).toNat) (sc.take i)).1.vs], .b b5 93 [val (.int .u8 x), val (.int .u8 z)]] [(11, I (i : Int)), (9, val (.pointer (some ⟨b9, 0, none⟩))), (7, val (.pointer (some ⟨b7, 0, none⟩))), (5, val (.pointer (some ⟨b5, 0, none⟩))), (1, sl 6 FS6 sc)] _ _
    refine WP.seq ?_
    refine WP.seq ?_
    refine WP.region ?_
    refine WL.op (mv (ot rfl)) (by decide) ?_
    refine WL.op (mv (ot rfl)) (by decide) ?_
    refine WL.op (len_ us_s_tegularef36_Step (ot rfl)) (by decide) ?_
    refine WL.op (lss (ot rfl) (ot rfl)) (by decide) ?_
    refine WL.nl (.thn ?_)
    refine WP.cond rfl (fun hc => ?_) (fun hc => ?_)
    · skip
      have hc1 : i < sc.length := by have := of_decide_eq_true hc; omega
      have hsp := pmF_sp (sc := sc.take i) (run0_sp (k := (m % 50).toNat) (by omega)) fun t h => ht t (List.mem_of_mem_take h)
      refine WP.sk (.thn ?_)
      refine WP.seq ?_
      refine WP.block ?_
      refine WP.drawsH [0, 1] ?_
      refine RG.opE (lbs 1 rfl ag_family_Family (ot rfl) (le_ rfl)) ?_
      refine RG.opE (lbs 0 rfl ag_ef36_Family (ot rfl) (le_ rfl)) ?_
      refine RG.opE (mv (ot rfl)) ?_
      refine RG.opE (mv (ot rfl)) ?_
      refine RG.opE (ixd el_s_tegularef36_Step (ot rfl) (ot rfl) (by omega) (by omega)) ?_
      refine RG.opE (ls ag_ef36_Step (ot rfl) (le_ rfl)) ?_
      refine RG.opE (call (c_w37_permitted (p := (pmF (run0 (m % 50).toNat) (sc.take i))) (t := (sc.getD (i : Int).toNat default)) hsp.snd hsp.sm (ht _ (getS_mem hc1))) (.c (ot rfl) (.c (ot rfl) (.c (ot rfl) .n)))) ?_
      refine RG.opE (mv (ot rfl)) ?_
      refine RG.opE (ex (ot rfl) rfl) ?_
      refine RG.op (ex (ot rfl) rfl) ?_
      refine RG.op (ex (ot rfl) rfl) ?_
      refine RG.sx (OpE.store 1 rfl (ot rfl) (ot rfl) (.agg _) sz_family_Family rfl (le_ rfl)) rfl ?_
      refine RG.sx (OpE.store 0 rfl (ot rfl) (ot rfl) (.agg _) sz_ef36_Family rfl (le_ rfl)) rfl ?_
      refine RG.fin HM (by kernel_rfl) ?_
      show WL _ _ _ _ _ _ _ _ _
      refine WL.nl (.blk (.thn ?_))
      refine WP.region ?_
      refine WL.op (mv (ot rfl)) (by decide) ?_
      refine WL.op (add (ot rfl) (oc _) (by omega)) (by decide) ?_
      refine WL.op (asg (ot rfl)) (by decide) ?_
      exact WL.nl (.again (i + 1) hc1 (by omega) (Sub.ofD 0 (by rw [pmF_step hc1]; rfl) (Sub.cons rfl (imp_eq (congrArg I (by omega))) (Sub.cons rfl (imp  _) (Sub.cons rfl (imp  _) (Sub.cons rfl (imp  _) (Sub.cons rfl (imp  _) Sub.nil)))))))
    · skip
      have hc1 : ¬ i < sc.length := by have := of_decide_eq_false hc; omega
      have hq := pmF_sp (sc := sc) (run0_sp (k := (m % 50).toNat) (by omega)) ht
      rw [pmF_all (by omega)]
      generalize pmF (run0 (m % 50).toNat) sc = q at hq ⊢
      have hqn := hq.snd.rel.ok.num
      have hx0 := Int.emod_nonneg z (b := (1 + x % 40) + 1) (by omega)
      have hx1 := Int.emod_lt_of_pos z (b := (1 + x % 40) + 1) (by omega)
      refine WP.xt (.xthn (.xthn (.xin (.thn ?_))))
      refine WP.seq ?_
      refine WP.region ?_
      refine WL.op (ia ao_2_uint8_0 (ot rfl)) (by decide) ?_
      refine WL.op (lb 2 rfl sc_uint8 (ot rfl) rfl) (by decide) ?_
      refine WL.op (rem_ (ot rfl) (oc _) (by omega) (by omega)) (by decide) ?_
      refine WL.op (cv un_uint8 un_int (ot rfl) (IntWalk.i64_in _ (by omega))) (by decide) ?_
      refine WL.op (add (oc _) (ot rfl) (by omega)) (by decide) ?_
      refine WL.op (asg (ot rfl)) (by decide) ?_
      refine WL.nl (.thn ?_)
      refine WP.seq ?_
      refine WP.region ?_
      refine WL.op (ia ao_2_uint8_1 (ot rfl)) (by decide) ?_
      refine WL.op (lb 2 rfl sc_uint8 (ot rfl) rfl) (by decide) ?_
      refine WL.op (cv un_uint8 un_int (ot rfl) (IntWalk.i64_in _ (by omega))) (by decide) ?_
      refine WL.op (mv (ot rfl)) (by decide) ?_
      refine WL.op (add (ot rfl) (oc _) (by omega)) (by decide) ?_
      refine WL.op (rem_ (ot rfl) (ot rfl) (by omega) (by omega)) (by decide) ?_
      refine WL.op (asg (ot rfl)) (by decide) ?_
      refine WL.nl (.thn ?_)
      refine WP.seq ?_
      refine WP.seq ?_
      refine WP.region ?_
      refine WL.op (lbs 0 rfl ag_ef36_Family (ot rfl) (le_ rfl)) (by decide) ?_
      refine WL.op (mv (ot rfl)) (by decide) ?_
      refine WL.op (mv (ot rfl)) (by decide) ?_
      refine WL.op (call (c_r36_Family_Create (g := q.2) (s := newN) (n := (1 + x % 40)) (r := (z % ((1 + x % 40) + 1))) (by decide) (by omega)) (.c (ot rfl) (.c (oc _) (.c (ot rfl) (.c (ot rfl) .n))))) (by decide) ?_
      refine WL.op (mv (ot rfl)) (by decide) ?_
      refine WL.op (ex (ot rfl) rfl) (by decide) ?_
      refine WL.op (ex (ot rfl) rfl) (by decide) ?_
      refine WL.alloc zr_ef36_Family rfl (by decide) fun b14 => ?_
      refine WL.store 0 rfl (ot rfl) (ot rfl) (.agg _) sz_ef36_Family rfl (le_ rfl) ?_
      refine WL.op (asg (ot rfl)) (by decide) ?_
      refine WL.nl (.thn ?_)
      refine WP.seq ?_
      refine WP.draws ?_
      refine RG.op (mv (ot rfl)) ?_
      refine RG.op (eql (ot rfl) (oc _)) ?_
      refine RG.op (mv (ot rfl)) ?_
      refine RG.gd rfl rfl (Tells.v _ _) (fun hg => lbs 2 rfl ag_family_Family (ot rfl) (le_ rfl)) ?_
      refine RG.gd rfl rfl (Tells.v _ _) (fun hg => mv (ot rfl)) ?_
      refine RG.gd rfl rfl (Tells.v _ _) (fun hg => mv (ot rfl)) ?_
      refine RG.gd rfl rfl (Tells.v _ _) (fun hg => call (c_thin_CanCreate (n := (1 + x % 40)) (r := (z % ((1 + x % 40) + 1))) hq.snd.rel) (.c (og rfl hg) (.c (og rfl hg) (.c (og rfl hg) .n)))) ?_
      refine RG.gd rfl rfl (Tells.v _ _) (fun hg => eql (og rfl hg) (oc _)) ?_
      refine RG.gd rfl rfl (Tells.v _ _) (fun hg => lbs 0 rfl ag_ef36_Family (ot rfl) (le_ rfl)) ?_
      refine RG.gd rfl rfl (Tells.v _ _) (fun hg => call (c_r37_Room (gok_create hq.snd.rel)) (.c (og rfl hg) .n)) ?_
      refine RG.gd rfl rfl (Tells.v _ _) (fun hg => geq (og rfl hg) (oc _)) ?_
      refine RG.gd rfl rfl (Tells.v _ _) (fun hg => neb un_bool (og rfl hg) (og rfl hg)) ?_
      refine RG.op (OpG.weak (R' := val (.bool false)) (and_  (ot rfl) (ot rfl)) (imp_eq (congrArg (fun b => val (.bool b)) (exact_create hq.snd.rel)))) ?_
      refine RG.fin HM (by kernel_rfl) ?_
      show WL _ _ _ _ _ _ _ _ _
      refine WL.nl (.thn ?_)
      refine WP.condF rfl ?_
      refine WP.sk (.thn ?_)
      refine WP.seq ?_
      refine WP.seq ?_
      refine WP.region ?_
      refine WL.op (asg (oc _)) (by decide) ?_
      refine WL.nl (.thn ?_)
      refine WP.block ?_
      refine WP.loop (fun y : Nat => [.b b14 45 [I ((rCreate q.2 newN (1 + x % 40) (z % ((1 + x % 40) + 1))).1.k : Int), sl 4 FRV (rCreate q.2 newN (1 + x % 40) (z % ((1 + x % 40) + 1))).1.vs], .b b9 45 [I (q.2.k : Int), sl 4 FRV q.2.vs], .b b7 28 [sl 1 FI q.1.cs, mp FV q.1.vs], .b b5 93 [val (.int .u8 x), val (.int .u8 z)]]) (fun y => [(16, I (y : Int)), (9, val (.pointer (some ⟨b9, 0, none⟩))), (7, val (.pointer (some ⟨b7, 0, none⟩))), (5, val (.pointer (some ⟨b5, 0, none⟩)))]) (fun y => y ≤ q.2.vs.length) (fun y => q.2.vs.length - y) 0 (Nat.zero_le _) (Sub.ofD 0 rfl (Sub.cons rfl (imp_eq rfl) (Sub.cons rfl (imp  _) (Sub.cons rfl (imp  _) (Sub.cons rfl (imp  _) Sub.nil))))) (fun i hi => ?_)
      replace hi : i ≤ q.2.vs.length := hi
      show WP _ _ _ _ [.b b14 45 [I ((rCreate q.2 newN (1 + x % 40) (z % ((1 + x % 40) + 1))).1.k : Int), sl 4 FRV (rCreate q.2 newN (1 + x % 40) (z % ((1 + x % 40) + 1))).1.vs], .b b9 45 [I (q.2.k : Int), sl 4 FRV q.2.vs], .b b7 28 [sl 1 FI q.1.cs, mp FV q.1.vs], .b b5 93 [val (.int .u8 x), val (.int .u8 z)]] [(16, I (i : Int)), (9, val (.pointer (some ⟨b9, 0, none⟩))), (7, val (.pointer (some ⟨b7, 0, none⟩))), (5, val (.pointer (some ⟨b5, 0, none⟩)))] _ _
      refine WP.seq ?_
      refine WP.seq ?_
      refine WP.region ?_
      refine WL.op (mv (ot rfl)) (by decide) ?_
      refine WL.op (fv fo_ef36_Family_1 (ot rfl)) (by decide) ?_
      refine WL.op (lb 1 rfl sc_s_tegularef36_Volume (ot rfl) rfl) (by decide) ?_
      refine WL.op (len_ us_s_tegularef36_Volume (ot rfl)) (by decide) ?_
      refine WL.op (lss (ot rfl) (ot rfl)) (by decide) ?_
      refine WL.nl (.thn ?_)
      refine WP.cond rfl (fun hc => ?_) (fun hc => ?_)
      · skip
        have hc1 : i < q.2.vs.length := by have := of_decide_eq_true hc; omega
        have hVm : (q.2.vs.getD (i : Int).toNat default) ∈ q.2.vs := getV_mem hc1
        refine WP.sk (.thn ?_)
        refine WP.seq ?_
        refine WP.block ?_
        refine WP.seq ?_
        refine WP.draws ?_
        refine RG.op (lbs 1 rfl ag_ef36_Family (ot rfl) (le_ rfl)) ?_
        refine RG.op (fv fo_ef36_Family_1 (ot rfl)) ?_
        refine RG.op (lb 1 rfl sc_s_tegularef36_Volume (ot rfl) rfl) ?_
        refine RG.op (mv (ot rfl)) ?_
        refine RG.op (ixd el_s_tegularef36_Volume (ot rfl) (ot rfl) (by omega) (by omega)) ?_
        refine RG.op (fa fo_ef36_Volume_0 (ot rfl)) ?_
        refine RG.op (ld sc_string (ot rfl)) ?_
        refine RG.op (call (c_r36_Family_Clone (g := q.2) (s := (q.2.vs.getD (i : Int).toNat default).s) (o := newN) (by decide) (by omega)) (.c (ot rfl) (.c (ot rfl) (.c (oc _) .n)))) ?_
        refine RG.op (mv (ot rfl)) ?_
        refine RG.op (ex (ot rfl) rfl) ?_
        refine RG.op (ex (ot rfl) rfl) ?_
        refine RG.bx (.alloc zr_ef36_Family rfl) ?_
        refine RG.ox 11 rfl rfl (OpO.store (ot rfl) (.agg _) sz_ef36_Family rfl rfl) ?_
        refine RG.op (asg (ot rfl)) ?_
        refine RG.fin HM (by kernel_rfl) ?_
        intro b17
        show WL _ _ _ _ _ _ _ _ _
        refine WL.nl (.thn ?_)
        refine WP.seq ?_
        refine WP.seq ?_
        refine WP.draws ?_
        refine RG.op (mv (ot rfl)) ?_
        refine RG.op (eql (ot rfl) (oc _)) ?_
        refine RG.op (mv (ot rfl)) ?_
        refine RG.gd rfl rfl (Tells.v _ _) (fun hg => lbs 3 rfl ag_family_Family (ot rfl) (le_ rfl)) ?_
        refine RG.gd rfl rfl (Tells.v _ _) (fun hg => fv fo_ef36_Family_1 (ot rfl)) ?_
        refine RG.gd rfl rfl (Tells.v _ _) (fun hg => lb 2 rfl sc_s_tegularef36_Volume (og rfl hg) rfl) ?_
        refine RG.gd rfl rfl (Tells.v _ _) (fun hg => mv (ot rfl)) ?_
        refine RG.gd rfl rfl (Tells.v _ _) (fun hg => ixd el_s_tegularef36_Volume (og rfl hg) (og rfl hg) (by omega) (by omega)) ?_
        refine RG.gd rfl rfl (Tells.v _ _) (fun hg => fa fo_ef36_Volume_0 (og rfl hg)) ?_
        refine RG.gd rfl rfl (Tells.v _ _) (fun hg => ld sc_string (og rfl hg)) ?_
        refine RG.gd rfl rfl (Tells.v _ _) (fun hg => call (c_thin_CanClone (s := (q.2.vs.getD (i : Int).toNat default).s) hq.snd.rel) (.c (og rfl hg) (.c (og rfl hg) .n))) ?_
        refine RG.gd rfl rfl (Tells.v _ _) (fun hg => eql (og rfl hg) (oc _)) ?_
        refine RG.gd rfl rfl (Tells.v _ _) (fun hg => lbs 0 rfl ag_ef36_Family (ot rfl) (le_ rfl)) ?_
        refine RG.gd rfl rfl (Tells.v _ _) (fun hg => call (c_r37_Room (gok_clone hq.snd.rel)) (.c (og rfl hg) .n)) ?_
        refine RG.gd rfl rfl (Tells.v _ _) (fun hg => geq (og rfl hg) (oc _)) ?_
        refine RG.gd rfl rfl (Tells.v _ _) (fun hg => neb un_bool (og rfl hg) (og rfl hg)) ?_
        refine RG.op (OpG.weak (R' := val (.bool false)) (and_  (ot rfl) (ot rfl)) (imp_eq (congrArg (fun b => val (.bool b)) (exact_clone hq.snd.rel)))) ?_
        refine RG.fin HM (by kernel_rfl) ?_
        show WL _ _ _ _ _ _ _ _ _
        refine WL.nl (.thn ?_)
        refine WP.condF rfl ?_
        refine WP.sk (.thn ?_)
        refine WP.seq ?_
        refine WP.draws ?_
        refine RG.op (fv fo_ef36_Family_1 (ot rfl)) ?_
        refine RG.op (lb 2 rfl sc_s_tegularef36_Volume (ot rfl) rfl) ?_
        refine RG.op (mv (ot rfl)) ?_
        refine RG.op (ixd el_s_tegularef36_Volume (ot rfl) (ot rfl) (by omega) (by omega)) ?_
        refine RG.op (fa fo_ef36_Volume_0 (ot rfl)) ?_
        refine RG.op (ld sc_string (ot rfl)) ?_
        refine RG.op (fv fo_ef36_Family_1 (ot rfl)) ?_
        refine RG.op (lb 2 rfl sc_s_tegularef36_Volume (ot rfl) rfl) ?_
        refine RG.op (mv (ot rfl)) ?_
        refine RG.op (ixd el_s_tegularef36_Volume (ot rfl) (ot rfl) (by omega) (by omega)) ?_
        refine RG.op (fa fo_ef36_Volume_1 (ot rfl)) ?_
        refine RG.op (ld sc_int (ot rfl)) ?_
        refine RG.op (asg (ot rfl)) ?_
        refine RG.op (asg (ot rfl)) ?_
        refine RG.fin HM (by kernel_rfl) ?_
        show WL _ _ _ _ _ _ _ _ _
        refine WL.nl (.thn ?_)
        refine WP.seq ?_
        refine WP.region ?_
        refine WL.op (lbs 2 rfl ag_ef36_Family (ot rfl) (le_ rfl)) (by decide) ?_
        refine WL.op (mv (ot rfl)) (by decide) ?_
        refine WL.op (mv (ot rfl)) (by decide) ?_
        refine WL.op (call (c_r37_Need (s := (q.2.vs.getD (i : Int).toNat default).s) hq.snd.rel.ok hq.sm) (.c (ot rfl) (.c (ot rfl) (.c (oc _) (.c (ot rfl) .n))))) (by decide) ?_
        refine WL.op (mv (ot rfl)) (by decide) ?_
        refine WL.op (ex (ot rfl) rfl) (by decide) ?_
        refine WL.op (ex (ot rfl) rfl) (by decide) ?_
        refine WL.op (asg (ot rfl)) (by decide) ?_
        refine WL.op (asg (ot rfl)) (by decide) ?_
        refine WL.nl (.thn ?_)
        refine WP.seq ?_
        refine WP.region ?_
        refine WL.op (mv (ot rfl)) (by decide) ?_
        refine WL.op (eql (ot rfl) (oc _)) (by decide) ?_
        refine WL.op (mv (ot rfl)) (by decide) ?_
        refine WL.gd rfl rfl (Tells.v _ _) (fun hg => lbs 3 rfl ag_family_Family (ot rfl) (le_ rfl)) (by decide) ?_
        refine WL.gd rfl rfl (Tells.v _ _) (fun hg => mv (ot rfl)) (by decide) ?_
        refine WL.gd rfl rfl (Tells.v _ _) (fun hg => mv (ot rfl)) (by decide) ?_
        refine WL.gd rfl rfl (Tells.v _ _) (fun hg => call (c_thin_CanWrite (s := (q.2.vs.getD (i : Int).toNat default).s) hq.snd.rel) (.c (og rfl hg) (.c (og rfl hg) (.c (oc _) (.c (og rfl hg) .n))))) (by decide) ?_
        refine WL.gd rfl rfl (Tells.v _ _) (fun hg => neq (og rfl hg) (oc _)) (by decide) ?_
        refine WL.op (OpG.weak (R' := val (.bool false)) (and_  (ot rfl) (ot rfl)) (imp_eq (congrArg (fun b => val (.bool b)) (exact_write hq.snd.rel hVm)))) (by decide) ?_
        refine WL.nl (.thn ?_)
        refine WP.condF rfl ?_
        refine WP.sk (.blk (.thn ?_))
        refine WP.region ?_
        refine WL.op (mv (ot rfl)) (by decide) ?_
        refine WL.op (add (ot rfl) (oc _) (by omega)) (by decide) ?_
        refine WL.op (asg (ot rfl)) (by decide) ?_
        exact WL.nl (.again (i + 1) hc1 (by omega) (Sub.ofD 1 rfl (Sub.cons rfl (imp_eq (congrArg I (by omega))) (Sub.cons rfl (imp  _) (Sub.cons rfl (imp  _) (Sub.cons rfl (imp  _) Sub.nil))))))
      · skip
        refine WP.xt (.xthn (.xthn (.xin (.thn ?_))))
        refine WP.seq ?_
        refine WP.region ?_
        refine WL.op (asg (oc _)) (by decide) ?_
        refine WL.nl (.thn ?_)
        exact WP.rt (.r1 rfl rfl (imp _))
end Go.Proofs.YtjglgfnhgehpeaaGreat

/- The law of space accounting: a volume that is reserved as a whole. -/
set_option linter.unusedVariables false
set_option linter.unusedSimpArgs false
set_option maxRecDepth 4000
namespace Go.Proofs.YtjglgfnhgehpeaaGreat
open Go.RowKit Go.Fw Go.Xt
theorem c_w37_ThinFull {m : Int} {sc : List St6} {x : Int} (hm : 0 ≤ m ∧ m ≤ 255) (ht : ∀ t ∈ sc, t.U8) (hx : 0 ≤ x ∧ x ≤ 255) : PureC Tryz.prog 16 [val (.int .u8 m), sl 6 FS6 sc, val (.int .u8 x)] (val (.bool true)) := by
  refine PureC.of_wp Tryz.func16 (by kernel_rfl) rfl Tryz.ntmps16 (le_ rfl) (fun w0 M0 => ?_)
  refine WP.seq ?_
  refine WP.region ?_
  refine WL.op (asg (oc _)) (by decide) ?_
  refine WL.nl (.thn ?_)
  refine WP.seq ?_
  refine WP.seq ?_
  refine WP.region ?_
  refine WL.op (call c_w37_awake .n) (by decide) ?_
  refine WL.op (not_ (ot rfl)) (by decide) ?_
  refine WL.nl (.thn ?_)
  refine WP.condF rfl ?_
  refine WP.sk (.thn ?_)
  refine WP.seq ?_
  refine WP.seq ?_
  refine WP.region ?_
  refine WL.op (mv (ot rfl)) (by decide) ?_
  refine WL.op (len_ us_s_tegularef36_Step (ot rfl)) (by decide) ?_
  refine WL.op (gtr (ot rfl) (oc _)) (by decide) ?_
  refine WL.nl (.thn ?_)
  refine WP.cond rfl (fun hc => ?_) (fun hc => ?_)
  · skip
    refine WP.seq ?_
    refine WP.region ?_
    refine WL.op (asg (oc _)) (by decide) ?_
    refine WL.nl (.thn ?_)
    exact WP.rt (.rthn (.r1 rfl rfl (imp _)))
  · skip
    have hc2 : sc.length ≤ 20 := by have := of_decide_eq_false hc; omega
    refine WP.sk (.thn ?_)
    refine WP.seq ?_
    refine WP.region ?_
    refine WL.op (mv (ot rfl)) (by decide) ?_
    refine WL.op (rem_ (ot rfl) (oc _) (by omega) (by omega)) (by decide) ?_
    refine WL.op (OpG.weak (R' := I ((m % 50).toNat : Int)) (cv un_uint8 un_int (ot rfl) (IntWalk.i64_in _ (by omega))) (imp_eq (congrArg I (by omega)))) (by decide) ?_
    refine WL.op (call (c_family_New (k := (m % 50).toNat) (by omega)) (.c (ot rfl) .n)) (by decide) ?_
    refine WL.op (mv (ot rfl)) (by decide) ?_
    refine WL.op (ex (ot rfl) rfl) (by decide) ?_
    refine WL.op (ex (ot rfl) rfl) (by decide) ?_
    refine WL.alloc zr_family_Family rfl (by decide) fun b7 => ?_
    refine WL.store 0 rfl (ot rfl) (ot rfl) (.agg _) sz_family_Family rfl (le_ rfl) ?_
    refine WL.op (asg (ot rfl)) (by decide) ?_
    refine WL.nl (.thn ?_)
    refine WP.seq ?_
    refine WP.region ?_
    refine WL.op (mv (ot rfl)) (by decide) ?_
    refine WL.op (rem_ (ot rfl) (oc _) (by omega) (by omega)) (by decide) ?_
    refine WL.op (OpG.weak (R' := I ((m % 50).toNat : Int)) (cv un_uint8 un_int (ot rfl) (IntWalk.i64_in _ (by omega))) (imp_eq (congrArg I (by omega)))) (by decide) ?_
    refine WL.op (call (c_r36_New (k := (m % 50).toNat) (by omega)) (.c (ot rfl) .n)) (by decide) ?_
    refine WL.op (mv (ot rfl)) (by decide) ?_
    refine WL.op (ex (ot rfl) rfl) (by decide) ?_
    refine WL.op (ex (ot rfl) rfl) (by decide) ?_
    refine WL.alloc zr_ef36_Family rfl (by decide) fun b9 => ?_
    refine WL.store 0 rfl (ot rfl) (ot rfl) (.agg _) sz_ef36_Family rfl (le_ rfl) ?_
    refine WL.op (asg (ot rfl)) (by decide) ?_
    refine WL.nl (.thn ?_)
    refine WP.seq ?_
    refine WP.region ?_
    refine WL.op (mv (ot rfl)) (by decide) ?_
    refine WL.op (rem_ (ot rfl) (oc _) (by omega) (by omega)) (by decide) ?_
    refine WL.op (cv un_uint8 un_int (ot rfl) (IntWalk.i64_in _ (by omega))) (by decide) ?_
    refine WL.op (add (oc _) (ot rfl) (by omega)) (by decide) ?_
    refine WL.op (asg (ot rfl)) (by decide) ?_
    refine WL.nl (.thn ?_)
    refine WP.seq ?_
    refine WP.seq ?_
    refine WP.region ?_
    refine WL.op (lbs 1 rfl ag_family_Family (ot rfl) (le_ rfl)) (by decide) ?_
    refine WL.op (mv (ot rfl)) (by decide) ?_
    refine WL.op (mv (ot rfl)) (by decide) ?_
    refine WL.op (call (c_thin_CanCreate (f := (run0 (m % 50).toNat).1) (g := (run0 (m % 50).toNat).2) (n := (1 + x % 30)) (r := (1 + x % 30)) (run0_rs (k := (m % 50).toNat) (by omega)).rel) (.c (ot rfl) (.c (ot rfl) (.c (ot rfl) .n)))) (by decide) ?_
    refine WL.op (neq  (ot rfl) (oc _)) (by decide) ?_
    refine WL.nl (.thn ?_)
    refine WP.cond rfl (fun hc => ?_) (fun hc => ?_)
    · skip
      have hlt : ((m % 50).toNat : Int) < (1 + x % 30) := by
        have h1 : ¬ rCanCreate (run0 (m % 50).toNat).2 (1 + x % 30) (1 + x % 30) = 0 := by simpa using hc
        rw [can0 (by omega) (by omega)] at h1
        by_cases q : (((m % 50).toNat : Nat) : Int) < (1 + x % 30)
        · exact q
        · rw [if_neg q] at h1; exact absurd rfl h1
      refine WP.seq ?_
      refine WP.region ?_
      refine WL.op (mv (ot rfl)) (by decide) ?_
      refine WL.op (mv (ot rfl)) (by decide) ?_
      refine WL.op (rem_ (ot rfl) (oc _) (by omega) (by omega)) (by decide) ?_
      refine WL.op (OpG.weak (R' := I ((m % 50).toNat : Int)) (cv un_uint8 un_int (ot rfl) (IntWalk.i64_in _ (by omega))) (imp_eq (congrArg I (by omega)))) (by decide) ?_
      refine WL.op (OpG.weak (R' := val (.bool true)) (gtr  (ot rfl) (ot rfl)) (imp_eq (congrArg (fun b => val (.bool b)) (decide_eq_true hlt)))) (by decide) ?_
      refine WL.op (asg (ot rfl)) (by decide) ?_
      refine WL.nl (.thn ?_)
      exact WP.rt (.rthn (.r1 rfl rfl (imp _)))
    · skip
      have hle : (1 + x % 30) ≤ (((m % 50).toNat : Nat) : Int) := by
        have h1 : rCanCreate (run0 (m % 50).toNat).2 (1 + x % 30) (1 + x % 30) = 0 := by simpa using hc
        rw [can0 (by omega) (by omega)] at h1
        by_cases q : (((m % 50).toNat : Nat) : Int) < (1 + x % 30)
        · rw [if_pos q] at h1; cases h1
        · omega
      have hf0 := full_sp (k := (m % 50).toNat) (j := (1 + x % 30)) (by omega) (by omega) hle
      refine WP.sk (.thn ?_)
      refine WP.seq ?_
      refine WP.region ?_
      refine WL.op (lbs 1 rfl ag_family_Family (ot rfl) (le_ rfl)) (by decide) ?_
      refine WL.op (mv (ot rfl)) (by decide) ?_
      refine WL.op (mv (ot rfl)) (by decide) ?_
      refine WL.op (call (c_family_Family_Create (f := (run0 (m % 50).toNat).1) (s := fullN) (by decide)) (.c (ot rfl) (.c (oc _) (.c (ot rfl) (.c (ot rfl) .n))))) (by decide) ?_
      refine WL.op (mv (ot rfl)) (by decide) ?_
      refine WL.op (ex (ot rfl) rfl) (by decide) ?_
      refine WL.op (ex (ot rfl) rfl) (by decide) ?_
      refine WL.store 1 rfl (ot rfl) (ot rfl) (.agg _) sz_family_Family rfl (le_ rfl) ?_
      refine WL.nl (.thn ?_)
      refine WP.seq ?_
      refine WP.region ?_
      refine WL.op (lbs 0 rfl ag_ef36_Family (ot rfl) (le_ rfl)) (by decide) ?_
      refine WL.op (mv (ot rfl)) (by decide) ?_
      refine WL.op (mv (ot rfl)) (by decide) ?_
      refine WL.op (call (c_r36_Family_Create (g := (run0 (m % 50).toNat).2) (s := fullN) (by decide) (Nat.zero_le _)) (.c (ot rfl) (.c (oc _) (.c (ot rfl) (.c (ot rfl) .n))))) (by decide) ?_
      refine WL.op (mv (ot rfl)) (by decide) ?_
      refine WL.op (ex (ot rfl) rfl) (by decide) ?_
      refine WL.op (ex (ot rfl) rfl) (by decide) ?_
      refine WL.store 0 rfl (ot rfl) (ot rfl) (.agg _) sz_ef36_Family rfl (le_ rfl) ?_
      refine WL.nl (.thn ?_)
      refine WP.seq ?_
      refine WP.seq ?_
      refine WP.region ?_
      refine WL.op (asg (oc _)) (by decide) ?_
      refine WL.nl (.thn ?_)
      refine WP.block ?_
      refine WP.loop (fun y : Nat => [.b b9 45 [I ((pmF (fp (m % 50).toNat (1 + x % 30)) (sc.take y)).2.k : Int), sl 4 FRV (pmF (fp (m % 50).toNat (1 + x % 30)) (sc.take y)).2.vs], .b b7 28 [sl 1 FI (pmF (fp (m % 50).toNat (1 + x % 30)) (sc.take y)).1.cs, mp FV (pmF (fp (m % 50).toNat (1 + x % 30)) (sc.take y)).1.vs]]) (fun y => [(12, I (y : Int)), (11, I (1 + x % 30)), (9, val (.pointer (some ⟨b9, 0, none⟩))), (7, val (.pointer (some ⟨b7, 0, none⟩))), (1, sl 6 FS6 sc)]) (fun y => y ≤ sc.length) (fun y => sc.length - y) 0 (Nat.zero_le _) (Sub.ofD 0 rfl (Sub.cons rfl (imp_eq rfl) (Sub.cons rfl (imp  _) (Sub.cons rfl (imp  _) (Sub.cons rfl (imp  _) (Sub.cons rfl (imp  _) Sub.nil)))))) (fun i hi => ?_)
      replace hi : i ≤ sc.length := hi
      show WP _ _ _ _ [.b b9 45 [I ((pmF (fp (m % 50).toNat (1 + x % 30)) (sc.take i)).2.k : Int), sl 4 FRV (pmF (fp (m % 50).toNat (1 + x % 30)) (sc.take i)).2.vs], .b b7 28 [sl 1 FI (pmF (fp (m % 50).toNat (1 + x % 30)) (sc.take i)).1.cs, mp FV (pmF (fp (m % 50).toNat (1 + x % 30)) (sc.take i)).1.vs]] [(12, I (i : Int)), (11, I (1 + x % 30)), (9, val (.pointer (some ⟨b9, 0, none⟩))), (7, val (.pointer (some ⟨b7, 0, none⟩))), (1, sl 6 FS6 sc)] _ _
      refine WP.seq ?_
      refine WP.seq ?_
      refine WP.region ?_
      refine WL.op (mv (ot rfl)) (by decide) ?_
      refine WL.op (mv (ot rfl)) (by decide) ?_
      refine WL.op (len_ us_s_tegularef36_Step (ot rfl)) (by decide) ?_
      refine WL.op (lss (ot rfl) (ot rfl)) (by decide) ?_
      refine WL.nl (.thn ?_)
      refine WP.cond rfl (fun hc => ?_) (fun hc => ?_)
      · skip
        have hc1 : i < sc.length := by have := of_decide_eq_true hc; omega
        have hsp := pmF_sp (sc := sc.take i) hf0.1 fun t h => ht t (List.mem_of_mem_take h)
        refine WP.sk (.thn ?_)
        refine WP.seq ?_
        refine WP.block ?_
        refine WP.drawsH [0, 1] ?_
        refine RG.opE (lbs 1 rfl ag_family_Family (ot rfl) (le_ rfl)) ?_
        refine RG.opE (lbs 0 rfl ag_ef36_Family (ot rfl) (le_ rfl)) ?_
        refine RG.opE (mv (ot rfl)) ?_
        refine RG.opE (mv (ot rfl)) ?_
        refine RG.opE (ixd el_s_tegularef36_Step (ot rfl) (ot rfl) (by omega) (by omega)) ?_
        refine RG.opE (ls ag_ef36_Step (ot rfl) (le_ rfl)) ?_
        refine RG.opE (call (c_w37_permitted (p := (pmF (fp (m % 50).toNat (1 + x % 30)) (sc.take i))) (t := (sc.getD (i : Int).toNat default)) hsp.snd hsp.sm (ht _ (getS_mem hc1))) (.c (ot rfl) (.c (ot rfl) (.c (ot rfl) .n)))) ?_
        refine RG.opE (mv (ot rfl)) ?_
        refine RG.opE (ex (ot rfl) rfl) ?_
        refine RG.op (ex (ot rfl) rfl) ?_
        refine RG.op (ex (ot rfl) rfl) ?_
        refine RG.sx (OpE.store 1 rfl (ot rfl) (ot rfl) (.agg _) sz_family_Family rfl (le_ rfl)) rfl ?_
        refine RG.sx (OpE.store 0 rfl (ot rfl) (ot rfl) (.agg _) sz_ef36_Family rfl (le_ rfl)) rfl ?_
        refine RG.fin HM (by kernel_rfl) ?_
        show WL _ _ _ _ _ _ _ _ _
        refine WL.nl (.blk (.thn ?_))
        refine WP.region ?_
        refine WL.op (mv (ot rfl)) (by decide) ?_
        refine WL.op (add (ot rfl) (oc _) (by omega)) (by decide) ?_
        refine WL.op (asg (ot rfl)) (by decide) ?_
        exact WL.nl (.again (i + 1) hc1 (by omega) (Sub.ofD 0 (by rw [pmF_step hc1]; rfl) (Sub.cons rfl (imp_eq (congrArg I (by omega))) (Sub.cons rfl (imp  _) (Sub.cons rfl (imp  _) (Sub.cons rfl (imp  _) (Sub.cons rfl (imp  _) Sub.nil)))))))
      · skip
        have hc1 : ¬ i < sc.length := by have := of_decide_eq_false hc; omega
        have hq := pmF_sp (sc := sc) hf0.1 ht
        have hqg := (pmF_keep (sc := sc) hf0.1 ht).trans hf0.2
        rw [pmF_all (by omega)]
        generalize pmF (fp (m % 50).toNat (1 + x % 30)) sc = q at hq hqg ⊢
        have hcw := full_write hq (by omega) hqg
        have hfe := full_end hq (by omega) hqg
        refine WP.xt (.xthn (.xthn (.xin (.thn ?_))))
        refine WP.seq ?_
        refine WP.seq ?_
        refine WP.region ?_
        refine WL.op (lbs 1 rfl ag_family_Family (ot rfl) (le_ rfl)) (by decide) ?_
        refine WL.op (mv (ot rfl)) (by decide) ?_
        refine WL.op (call (c_thin_CanWrite (s := fullN) (a := 0) (n := (1 + x % 30)) hq.snd.rel) (.c (ot rfl) (.c (oc _) (.c (oc _) (.c (ot rfl) .n))))) (by decide) ?_
        refine WL.op (OpG.weak (R' := val (.bool false)) (neq  (ot rfl) (oc _)) (imp_eq (congrArg (fun b => val (.bool b)) (by rw [decide_eq_true hcw]; rfl)))) (by decide) ?_
        refine WL.nl (.thn ?_)
        refine WP.condF rfl ?_
        refine WP.sk (.thn ?_)
        refine WP.seq ?_
        refine WP.region ?_
        refine WL.op (lbs 1 rfl ag_family_Family (ot rfl) (le_ rfl)) (by decide) ?_
        refine WL.op (lbs 0 rfl ag_ef36_Family (ot rfl) (le_ rfl)) (by decide) ?_
        refine WL.op (mv (ot rfl)) (by decide) ?_
        refine WL.op (call (c_w37_write hq.snd hq.sm (s := fullN) (a := 0) (n := (1 + x % 30)) hcw) (.c (ot rfl) (.c (ot rfl) (.c (oc _) (.c (oc _) (.c (ot rfl) .n)))))) (by decide) ?_
        refine WL.op (mv (ot rfl)) (by decide) ?_
        refine WL.op (ex (ot rfl) rfl) (by decide) ?_
        refine WL.op (ex (ot rfl) rfl) (by decide) ?_
        refine WL.op (ex (ot rfl) rfl) (by decide) ?_
        refine WL.store 1 rfl (ot rfl) (ot rfl) (.agg _) sz_family_Family rfl (le_ rfl) ?_
        refine WL.store 0 rfl (ot rfl) (ot rfl) (.agg _) sz_ef36_Family rfl (le_ rfl) ?_
        refine WL.op (asg (ot rfl)) (by decide) ?_
        refine WL.nl (.thn ?_)
        refine WP.seq ?_
        refine WP.region ?_
        refine WL.op (lbs 1 rfl ag_family_Family (ot rfl) (le_ rfl)) (by decide) ?_
        refine WL.op (OpG.weak (R' := tup [agg [val (.string fullN), I (1 + x % 30), I (1 + x % 30), I (sumN ((gl fullN (wrN q fullN 0 (1 + x % 30).toNat).2.vs).getD default).l), I (1 + x % 30)], I 0]) (call (cr_Info hfe.1.snd.rel) (.c (ot rfl) (.c (oc _) .n))) (imp_eq hfe.2.1)) (by decide) ?_
        refine WL.op (mv (ot rfl)) (by decide) ?_
        refine WL.op (ex (ot rfl) rfl) (by decide) ?_
        refine WL.op (ex (ot rfl) rfl) (by decide) ?_
        refine WL.alloc zr_VolumeInfo rfl (by decide) fun b14 => ?_
        refine WL.store 0 rfl (ot rfl) (ot rfl) (.agg _) sz_VolumeInfo rfl (le_ rfl) ?_
        refine WL.op (asg (ot rfl)) (by decide) ?_
        refine WL.nl (.thn ?_)
        refine WP.seq ?_
        refine WP.region ?_
        refine WL.op (lbs 2 rfl ag_family_Family (ot rfl) (le_ rfl)) (by decide) ?_
        refine WL.op (OpG.weak (R' := tup [I 0, I 0]) (call (c_thin_Claim (s := fullN) hfe.1.snd.rel) (.c (ot rfl) (.c (oc _) .n))) (imp_eq (by rw [hfe.2.2]))) (by decide) ?_
        refine WL.op (mv (ot rfl)) (by decide) ?_
        refine WL.op (ex (ot rfl) rfl) (by decide) ?_
        refine WL.op (ex (ot rfl) rfl) (by decide) ?_
        refine WL.op (asg (ot rfl)) (by decide) ?_
        refine WL.op (asg (ot rfl)) (by decide) ?_
        refine WL.nl (.thn ?_)
        refine WP.seq ?_
        refine WP.region ?_
        refine WL.op (mv (ot rfl)) (by decide) ?_
        refine WL.op (mv (ot rfl)) (by decide) ?_
        refine WL.gT rfl rfl ?_ -- g1
        refine WL.op (mv (ot rfl)) (by decide) ?_
        refine WL.gT rfl rfl ?_ -- g1
        refine WL.op (OpG.weak (R' := val (.bool true)) (eql  (ot rfl) (oc _)) (imp_eq (congrArg (fun b => val (.bool b)) (decide_eq_true (rfl))))) (by decide) ?_
        refine WL.op (pickT (ot rfl) (ot rfl)) (by decide) ?_
        refine WL.op (mv (ot rfl)) (by decide) ?_
        refine WL.gT rfl rfl ?_ -- g5
        refine WL.op (mv (ot rfl)) (by decide) ?_
        refine WL.gT rfl rfl ?_ -- g5
        refine WL.op (OpG.weak (R' := val (.bool true)) (eql  (ot rfl) (oc _)) (imp_eq (congrArg (fun b => val (.bool b)) (decide_eq_true (rfl))))) (by decide) ?_
        refine WL.op (pickT (ot rfl) (ot rfl)) (by decide) ?_
        refine WL.op (mv (ot rfl)) (by decide) ?_
        refine WL.gT rfl rfl ?_ -- g9
        refine WL.op (mv (ot rfl)) (by decide) ?_
        refine WL.gT rfl rfl ?_ -- g9
        refine WL.op (OpG.weak (R' := val (.bool true)) (eql  (ot rfl) (oc _)) (imp_eq (congrArg (fun b => val (.bool b)) (decide_eq_true (rfl))))) (by decide) ?_
        refine WL.op (pickT (ot rfl) (ot rfl)) (by decide) ?_
        refine WL.op (mv (ot rfl)) (by decide) ?_
        refine WL.gT rfl rfl ?_ -- g13
        refine WL.op (fv fo_VolumeInfo_4 (ot rfl)) (by decide) ?_
        refine WL.gT rfl rfl ?_ -- g13
        refine WL.op (lb 0 rfl sc_int (ot rfl) rfl) (by decide) ?_
        refine WL.gT rfl rfl ?_ -- g13
        refine WL.op (mv (ot rfl)) (by decide) ?_
        refine WL.gT rfl rfl ?_ -- g13
        refine WL.op (OpG.weak (R' := val (.bool true)) (eql  (ot rfl) (ot rfl)) (imp_eq (congrArg (fun b => val (.bool b)) (decide_eq_true (rfl))))) (by decide) ?_
        refine WL.op (pickT (ot rfl) (ot rfl)) (by decide) ?_
        refine WL.op (mv (ot rfl)) (by decide) ?_
        refine WL.gT rfl rfl ?_ -- g19
        refine WL.op (lbs 2 rfl ag_family_Family (ot rfl) (le_ rfl)) (by decide) ?_
        refine WL.gT rfl rfl ?_ -- g19
        refine WL.op (call (c_thin_Room hfe.1.snd.rel) (.c (ot rfl) .n)) (by decide) ?_
        refine WL.gT rfl rfl ?_ -- g19
        refine WL.op (OpG.weak (R' := val (.bool true)) (geq  (ot rfl) (oc _)) (imp_eq (congrArg (fun b => val (.bool b)) (decide_eq_true (sp_room hfe.1))))) (by decide) ?_
        refine WL.op (pickT (ot rfl) (ot rfl)) (by decide) ?_
        refine WL.op (mv (ot rfl)) (by decide) ?_
        refine WL.gT rfl rfl ?_ -- g24
        refine WL.op (lbs 1 rfl ag_ef36_Family (ot rfl) (le_ rfl)) (by decide) ?_
        refine WL.gT rfl rfl ?_ -- g24
        refine WL.op (call (c_r37_Room hfe.1.snd.rel.ok) (.c (ot rfl) .n)) (by decide) ?_
        refine WL.gT rfl rfl ?_ -- g24
        refine WL.op (OpG.weak (R' := val (.bool true)) (geq  (ot rfl) (oc _)) (imp_eq (congrArg (fun b => val (.bool b)) (decide_eq_true (sp_room hfe.1))))) (by decide) ?_
        refine WL.op (pickT (ot rfl) (ot rfl)) (by decide) ?_
        refine WL.op (asg (ot rfl)) (by decide) ?_
        refine WL.nl (.thn ?_)
        exact WP.rt (.r1 rfl rfl (imp _))
end Go.Proofs.YtjglgfnhgehpeaaGreat

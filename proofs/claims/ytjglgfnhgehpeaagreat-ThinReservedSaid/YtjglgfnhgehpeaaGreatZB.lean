/- Parts: L37e. -/
import Derived.Test.YtjglgfnhgehpeaaGreatZA
import Derived.Test.YtjglgfnhgehpeaaGreatZz
import Derived.Test.YtjglgfnhgehpeaaGreatZy
/- The law of space accounting: reservations. -/
set_option linter.unusedVariables false
set_option linter.unusedSimpArgs false
set_option maxRecDepth 4000
namespace Go.Proofs.YtjglgfnhgehpeaaGreat
open Go.RowKit Go.Fw Go.Xt
theorem res_false {A B C : Prop} [Decidable A] [Decidable B] [Decidable C] (h : A ∨ B → C) : ((decide A || decide B) && !decide C) = false := by
  by_cases hc : C
  · simp [hc]
  · have : ¬ (A ∨ B) := fun q => hc (h q)
    simp only [not_or] at this
    simp [this]

theorem c_w37_ThinReserved {m : Int} {sc : List St6} {x z : Int} (hm : 0 ≤ m ∧ m ≤ 255) (ht : ∀ t ∈ sc, t.U8) (hx : 0 ≤ x ∧ x ≤ 255) (hz : 0 ≤ z ∧ z ≤ 255) : PureC Tryz.prog 13 [val (.int .u8 m), sl 6 FS6 sc, agg [val (.int .u8 x), val (.int .u8 z)]] (val (.bool true)) := by
  obtain ⟨p, hp⟩ : ∃ p, runP (m % 50).toNat sc = p := ⟨_, rfl⟩
  have hrs : RS p := hp ▸ run_rs (by omega) ht
  have hb : sc.length ≤ 25 → PureC Tryz.prog 40 [val (.int .u8 m), sl 6 FS6 sc] (tup [eF p.1, eG p.2]) := fun h => hp ▸ c_w37_build hm (by omega) ht
  obtain ⟨f, g⟩ := p
  have hr : Rel f g := hrs.rel
  have hsm : Sm g := hrs.sm
  have hgn := hr.ok.num
  have hgk := hr.ok.k
  refine PureC.of_wp Tryz.func13 (by kernel_rfl) rfl Tryz.ntmps13 (le_ rfl) (fun w0 M0 => ?_)
  refine WP.seq ?_
  refine WP.region ?_
  refine WL.box (ot rfl) (.agg _) (by decide) fun b5 => ?_
  refine WL.op (asg (oc _)) (by decide) ?_
  refine WL.nl (.thn ?_)
  refine WP.seq ?_
  refine WP.seq ?_
  refine WP.region ?_
  refine WL.op (call c_w37_awake .n) (by decide) ?_
  refine WL.op (not_ (ot rfl)) (by decide) ?_
  refine WL.nl (.thn ?_)
  refine WP.condF rfl ?_
  refine WP.sk (.thn ?_)
  refine WP.seq ?_
  refine WP.seq ?_
  refine WP.region ?_
  refine WL.op (mv (ot rfl)) (by decide) ?_
  refine WL.op (len_ us_s_tegularef36_Step (ot rfl)) (by decide) ?_
  refine WL.op (gtr (ot rfl) (oc _)) (by decide) ?_
  refine WL.nl (.thn ?_)
  refine WP.cond rfl (fun hc => ?_) (fun hc => ?_)
  · skip
    refine WP.seq ?_
    refine WP.region ?_
    refine WL.op (asg (oc _)) (by decide) ?_
    refine WL.nl (.thn ?_)
    exact WP.rt (.rthn (.r1 rfl rfl (imp _)))
  · skip
    have hc2 : sc.length ≤ 20 := by have := of_decide_eq_false hc; omega
    refine WP.sk (.thn ?_)
    refine WP.seq ?_
    refine WP.region ?_
    refine WL.op (mv (ot rfl)) (by decide) ?_
    refine WL.op (mv (ot rfl)) (by decide) ?_
    refine WL.op (call (hb (by omega)) (.c (ot rfl) (.c (ot rfl) .n))) (by decide) ?_
    refine WL.op (mv (ot rfl)) (by decide) ?_
    refine WL.op (ex (ot rfl) rfl) (by decide) ?_
    refine WL.op (ex (ot rfl) rfl) (by decide) ?_
    refine WL.alloc zr_family_Family rfl (by decide) fun b7 => ?_
    refine WL.alloc zr_ef36_Family rfl (by decide) fun b8 => ?_
    refine WL.store 1 rfl (ot rfl) (ot rfl) (.agg _) sz_family_Family rfl (le_ rfl) ?_
    refine WL.store 0 rfl (ot rfl) (ot rfl) (.agg _) sz_ef36_Family rfl (le_ rfl) ?_
    refine WL.nl (.thn ?_)
    refine WP.seq ?_
    refine WP.seq ?_
    refine WP.region ?_
    refine WL.op (asg (oc _)) (by decide) ?_
    refine WL.nl (.thn ?_)
    refine WP.block ?_
    refine WP.loop (fun y : Nat => [.b b8 45 [I (g.k : Int), sl 4 FRV g.vs], .b b7 28 [sl 1 FI f.cs, mp FV f.vs], .b b5 93 [val (.int .u8 x), val (.int .u8 z)]]) (fun y => [(9, I (y : Int)), (8, val (.pointer (some ⟨b8, 0, none⟩))), (7, val (.pointer (some ⟨b7, 0, none⟩))), (5, val (.pointer (some ⟨b5, 0, none⟩)))]) (fun y => y ≤ g.vs.length) (fun y => g.vs.length - y) 0 (Nat.zero_le _) (Sub.ofD 0 rfl (Sub.cons rfl (imp_eq rfl) (Sub.cons rfl (imp  _) (Sub.cons rfl (imp  _) (Sub.cons rfl (imp  _) Sub.nil))))) (fun i hi => ?_)
    replace hi : i ≤ g.vs.length := hi
    show WP _ _ _ _ [.b b8 45 [I (g.k : Int), sl 4 FRV g.vs], .b b7 28 [sl 1 FI f.cs, mp FV f.vs], .b b5 93 [val (.int .u8 x), val (.int .u8 z)]] [(9, I (i : Int)), (8, val (.pointer (some ⟨b8, 0, none⟩))), (7, val (.pointer (some ⟨b7, 0, none⟩))), (5, val (.pointer (some ⟨b5, 0, none⟩)))] _ _
    refine WP.seq ?_
    refine WP.seq ?_
    refine WP.region ?_
    refine WL.op (mv (ot rfl)) (by decide) ?_
    refine WL.op (fv fo_ef36_Family_1 (ot rfl)) (by decide) ?_
    refine WL.op (lb 0 rfl sc_s_tegularef36_Volume (ot rfl) rfl) (by decide) ?_
    refine WL.op (len_ us_s_tegularef36_Volume (ot rfl)) (by decide) ?_
    refine WL.op (lss (ot rfl) (ot rfl)) (by decide) ?_
    refine WL.nl (.thn ?_)
    refine WP.cond rfl (fun hc => ?_) (fun hc => ?_)
    · skip
      have hc1 : i < g.vs.length := by have := of_decide_eq_true hc; omega
      have hVm := getV_mem hc1
      have hVk := hr.ok.vol _ hVm
      have hVn := hVk.n
      have hVg := gl_of_mem hr.ok.srt hVm
      have hx0 := Int.emod_nonneg x (b := (g.vs.getD (i : Int).toNat default).n) (by omega)
      have hx1 := Int.emod_lt_of_pos x (b := (g.vs.getD (i : Int).toNat default).n) (by omega)
      have hn0 := Int.emod_nonneg z (b := (g.vs.getD (i : Int).toNat default).n - (x % (g.vs.getD (i : Int).toNat default).n) + 1) (by omega)
      have hn1 := Int.emod_lt_of_pos z (b := (g.vs.getD (i : Int).toNat default).n - (x % (g.vs.getD (i : Int).toNat default).n) + 1) (by omega)
      refine WP.sk (.thn ?_)
      refine WP.seq ?_
      refine WP.block ?_
      refine WP.seq ?_
      refine WP.region ?_
      refine WL.op (fv fo_ef36_Family_1 (ot rfl)) (by decide) ?_
      refine WL.op (lb 0 rfl sc_s_tegularef36_Volume (ot rfl) rfl) (by decide) ?_
      refine WL.op (mv (ot rfl)) (by decide) ?_
      refine WL.op (ixd el_s_tegularef36_Volume (ot rfl) (ot rfl) (by omega) (by omega)) (by decide) ?_
      refine WL.op (ls ag_ef36_Volume (ot rfl) (le_ rfl)) (by decide) ?_
      refine WL.alloc zr_ef36_Volume rfl (by decide) fun b10 => ?_
      refine WL.store 0 rfl (ot rfl) (ot rfl) (.agg _) sz_ef36_Volume rfl (le_ rfl) ?_
      refine WL.nl (.thn ?_)
      refine WP.seq ?_
      refine WP.region ?_
      refine WL.op (ia ao_2_uint8_0 (ot rfl)) (by decide) ?_
      refine WL.op (lb 3 rfl sc_uint8 (ot rfl) rfl) (by decide) ?_
      refine WL.op (cv un_uint8 un_int (ot rfl) (IntWalk.i64_in _ (by omega))) (by decide) ?_
      refine WL.op (fv fo_ef36_Volume_1 (ot rfl)) (by decide) ?_
      refine WL.op (lb 0 rfl sc_int (ot rfl) rfl) (by decide) ?_
      refine WL.op (rem_ (ot rfl) (ot rfl) (by omega) (by omega)) (by decide) ?_
      refine WL.op (asg (ot rfl)) (by decide) ?_
      refine WL.nl (.thn ?_)
      refine WP.seq ?_
      refine WP.region ?_
      refine WL.op (ia ao_2_uint8_1 (ot rfl)) (by decide) ?_
      refine WL.op (lb 3 rfl sc_uint8 (ot rfl) rfl) (by decide) ?_
      refine WL.op (cv un_uint8 un_int (ot rfl) (IntWalk.i64_in _ (by omega))) (by decide) ?_
      refine WL.op (fv fo_ef36_Volume_1 (ot rfl)) (by decide) ?_
      refine WL.op (lb 0 rfl sc_int (ot rfl) rfl) (by decide) ?_
      refine WL.op (mv (ot rfl)) (by decide) ?_
      refine WL.op (sub (ot rfl) (ot rfl) (by omega)) (by decide) ?_
      refine WL.op (add (ot rfl) (oc _) (by omega)) (by decide) ?_
      refine WL.op (rem_ (ot rfl) (ot rfl) (by omega) (by omega)) (by decide) ?_
      refine WL.op (asg (ot rfl)) (by decide) ?_
      refine WL.nl (.thn ?_)
      refine WP.seq ?_
      refine WP.region ?_
      refine WL.op (lbs 1 rfl ag_ef36_Family (ot rfl) (le_ rfl)) (by decide) ?_
      refine WL.op (fv fo_ef36_Volume_0 (ot rfl)) (by decide) ?_
      refine WL.op (lb 0 rfl sc_string (ot rfl) rfl) (by decide) ?_
      refine WL.op (mv (ot rfl)) (by decide) ?_
      refine WL.op (mv (ot rfl)) (by decide) ?_
      refine WL.op (call (c_r37_Need (s := (g.vs.getD (i : Int).toNat default).s) hr.ok hsm) (.c (ot rfl) (.c (ot rfl) (.c (ot rfl) (.c (ot rfl) .n))))) (by decide) ?_
      refine WL.op (mv (ot rfl)) (by decide) ?_
      refine WL.op (ex (ot rfl) rfl) (by decide) ?_
      refine WL.op (ex (ot rfl) rfl) (by decide) ?_
      refine WL.op (asg (ot rfl)) (by decide) ?_
      refine WL.op (asg (ot rfl)) (by decide) ?_
      refine WL.nl (.thn ?_)
      refine WP.seq ?_
      refine WP.region ?_
      refine WL.op (lbs 1 rfl ag_ef36_Family (ot rfl) (le_ rfl)) (by decide) ?_
      refine WL.op (fv fo_ef36_Volume_0 (ot rfl)) (by decide) ?_
      refine WL.op (lb 0 rfl sc_string (ot rfl) rfl) (by decide) ?_
      refine WL.op (call (c_r37_Claim (s := (g.vs.getD (i : Int).toNat default).s) hr.ok) (.c (ot rfl) (.c (ot rfl) .n))) (by decide) ?_
      refine WL.op (mv (ot rfl)) (by decide) ?_
      refine WL.op (ex (ot rfl) rfl) (by decide) ?_
      refine WL.op (ex (ot rfl) rfl) (by decide) ?_
      refine WL.op (asg (ot rfl)) (by decide) ?_
      refine WL.op (asg (ot rfl)) (by decide) ?_
      refine WL.nl (.thn ?_)
      refine WP.seq ?_
      refine WP.region ?_
      refine WL.op (mv (ot rfl)) (by decide) ?_
      refine WL.op (mv (ot rfl)) (by decide) ?_
      refine WL.op (leq (ot rfl) (ot rfl)) (by decide) ?_
      refine WL.op (mv (ot rfl)) (by decide) ?_
      refine WL.gd rfl rfl (Tells.v _ _) (fun hg => fv fo_ef36_Volume_2 (ot rfl)) (by decide) ?_
      refine WL.gd rfl rfl (Tells.v _ _) (fun hg => lb 0 rfl sc_int (og rfl hg) rfl) (by decide) ?_
      refine WL.gd rfl rfl (Tells.v _ _) (fun hg => fv fo_ef36_Volume_1 (ot rfl)) (by decide) ?_
      refine WL.gd rfl rfl (Tells.v _ _) (fun hg => lb 0 rfl sc_int (og rfl hg) rfl) (by decide) ?_
      refine WL.gd rfl rfl (Tells.v _ _) (fun hg => eql (og rfl hg) (og rfl hg)) (by decide) ?_
      refine WL.op (or_ (ot rfl) (ot rfl)) (by decide) ?_
      refine WL.op (mv (ot rfl)) (by decide) ?_
      refine WL.gd rfl rfl (Tells.v _ _) (fun hg => lbs 2 rfl ag_family_Family (ot rfl) (le_ rfl)) (by decide) ?_
      refine WL.gd rfl rfl (Tells.v _ _) (fun hg => fv fo_ef36_Volume_0 (ot rfl)) (by decide) ?_
      refine WL.gd rfl rfl (Tells.v _ _) (fun hg => lb 0 rfl sc_string (og rfl hg) rfl) (by decide) ?_
      refine WL.gd rfl rfl (Tells.v _ _) (fun hg => mv (ot rfl)) (by decide) ?_
      refine WL.gd rfl rfl (Tells.v _ _) (fun hg => mv (ot rfl)) (by decide) ?_
      refine WL.gd rfl rfl (Tells.v _ _) (fun hg => call (c_thin_CanWrite (s := (g.vs.getD (i : Int).toNat default).s) hr) (.c (og rfl hg) (.c (og rfl hg) (.c (og rfl hg) (.c (og rfl hg) .n))))) (by decide) ?_
      refine WL.gd rfl rfl (Tells.v _ _) (fun hg => neq (og rfl hg) (oc _)) (by decide) ?_
      refine WL.op (OpG.weak (R' := val (.bool false)) (and_ (ot rfl) (ot rfl)) (imp_eq (congrArg (fun b => val (.bool b)) (res_false (reserved_ok hr.ok hVg hx0 hn0 (by omega)))))) (by decide) ?_
      refine WL.nl (.thn ?_)
      refine WP.condF rfl ?_
      refine WP.sk (.blk (.thn ?_))
      refine WP.region ?_
      refine WL.op (mv (ot rfl)) (by decide) ?_
      refine WL.op (add (ot rfl) (oc _) (by omega)) (by decide) ?_
      refine WL.op (asg (ot rfl)) (by decide) ?_
      exact WL.nl (.again (i + 1) hc1 (by omega) (Sub.ofD 1 rfl (Sub.cons rfl (imp_eq (congrArg I (by omega))) (Sub.cons rfl (imp  _) (Sub.cons rfl (imp  _) (Sub.cons rfl (imp  _) Sub.nil))))))
    · skip
      refine WP.xt (.xthn (.xthn (.xin (.thn ?_))))
      refine WP.seq ?_
      refine WP.region ?_
      refine WL.op (asg (oc _)) (by decide) ?_
      refine WL.nl (.thn ?_)
      exact WP.rt (.r1 rfl rfl (imp _))
end Go.Proofs.YtjglgfnhgehpeaaGreat

/- Parts: R36. -/
import Derived.Test.YtjglgfnhgehpeaaGreatYv
import Derived.Test.YtjglgfnhgehpeaaGreatYs
import Derived.Test.YtjglgfnhgehpeaaGreatYr
import Derived.Test.YtjglgfnhgehpeaaGreatYo
import Derived.Test.YtjglgfnhgehpeaaGreatYu
/- The reference of families: its parts. -/
set_option linter.unusedVariables false
set_option linter.unusedSimpArgs false
set_option maxRecDepth 4000
namespace Go.Proofs.YtjglgfnhgehpeaaGreat
open Go.RowKit Go.Fw Go.Xt
theorem rw1 {B A : List RV} {x : RV} (h : B = A ++ [x]) {v : Value} {T : TypeId} {b5 b4 b3 b2 : Box} : [b5, b4, b3, b2, Box.r v T 4 (A.length + 1) (A.flatMap FRV ++ [x].flatMap FRV)] = [b5, b4, b3, b2, .r v T 4 B.length (B.flatMap FRV)] := by subst h; simp
theorem rw2 {B A : List RV} {x y : RV} (h : B = A ++ [x] ++ [y]) {v : Value} {T : TypeId} {b5 b4 b3 b2 : Box} : [b5, b4, b3, b2, Box.r v T 4 (A.length + 1 + 1) (A.flatMap FRV ++ [x].flatMap FRV ++ [y].flatMap FRV)] = [b5, b4, b3, b2, .r v T 4 B.length (B.flatMap FRV)] := by subst h; simp
theorem rw0 {B A : List RV} (h : B = A) {v : Value} {T : TypeId} {b5 b4 b3 b2 : Box} : [b5, b4, b3, b2, Box.r v T 4 A.length (A.flatMap FRV)] = [b5, b4, b3, b2, .r v T 4 B.length (B.flatMap FRV)] := by subst h; rfl
theorem withF_step {vs : List RV} {v : RV} {i : Nat} (hi : i < vs.length) : rWithF (vs.take (i + 1)) v = wst v (rWithF (vs.take i) v) (vs.getD (i : Int).toNat default) := foldl_step _ _ hi
theorem withF_len (vs : List RV) (v : RV) : (rWithF vs v).1.length ≤ 2 * vs.length := by
  have : ∀ (vs : List RV) (a : List RV × Bool), (vs.foldl (wst v) a).1.length ≤ a.1.length + 2 * vs.length := by
    intro vs
    induction vs with
    | nil => intro a; simp
    | cons w vs ih =>
      intro a
      have := ih (wst v a w)
      have : (wst v a w).1.length ≤ a.1.length + 2 := by unfold wst; dsimp only; split <;> split <;> simp <;> omega
      simp only [List.foldl_cons, List.length_cons]; omega
  have := this vs ([], false)
  simpa [rWithF] using this
theorem withF_take (vs : List RV) (v : RV) (i : Nat) : (rWithF (vs.take i) v).1.length ≤ 2 * i := Nat.le_trans (withF_len _ _) (by have := List.length_take_le i vs; omega)
theorem counts_step {g : RF} {i : Nat} (hi : i < g.vs.length) : rCounts ⟨g.k, g.vs.take (i + 1)⟩ = (addE (rCounts ⟨g.k, g.vs.take i⟩) (g.vs.getD (i : Int).toNat default).l).1 := by
  unfold rCounts
  exact foldl_step (fun (c : List Int) (v : RV) => (addE c v.l).1) _ hi
theorem fz_step (a b : List Int) (i : Nat) : asc (i + 1) (fun s => decide (0 < a.getD s 0) && decide (b.getD s 0 = 0)) = asc i (fun s => decide (0 < a.getD s 0) && decide (b.getD s 0 = 0)) ++ (if decide (0 < a.getD i 0) && decide (b.getD i 0 = 0) then [(i : Int)] else []) := asc_step i _
theorem getV_mem {vs : List RV} {i : Nat} (hi : i < vs.length) : vs.getD (i : Int).toNat default ∈ vs := by
  rw [show ((i : Nat) : Int).toNat = i from by omega, List.getD_eq_getElem?_getD, List.getElem?_eq_getElem hi]; exact List.getElem_mem hi

theorem c_r36_New {k : Nat} (hk : k ≤ 65536) : PureC Tryz.prog 55 [I (k : Int)] (tup [eG ⟨k, []⟩, I 0]) := by
  refine PureC.of_wp Tryz.func55 (by kernel_rfl) rfl Tryz.ntmps55 (le_ rfl) (fun w0 M0 => ?_)
  refine WP.seq ?_
  refine WP.region ?_
  refine WL.alloc zr_ef36_Family rfl (by decide) fun b2 => ?_
  refine WL.op (asg (oc _)) (by decide) ?_
  refine WL.nl (.thn ?_)
  refine WP.seq ?_
  refine WP.seq ?_
  refine WP.region ?_
  refine WL.op (mv (ot rfl)) (by decide) ?_
  refine WL.op (OpG.weak (R' := val (.bool false)) (lss (ot rfl) (oc _)) (imp_eq (congrArg (fun b => val (.bool b)) (decide_eq_false (by omega))))) (by decide) ?_
  refine WL.op (mv (ot rfl)) (by decide) ?_
  refine WL.gT rfl rfl ?_ -- g2
  refine WL.op (mv (ot rfl)) (by decide) ?_
  refine WL.gT rfl rfl ?_ -- g2
  refine WL.op (OpG.weak (R' := val (.bool false)) (gtr (ot rfl) (oc _)) (imp_eq (congrArg (fun b => val (.bool b)) (decide_eq_false (by omega))))) (by decide) ?_
  refine WL.op (pickF (ot rfl) (ot rfl)) (by decide) ?_
  refine WL.nl (.thn ?_)
  refine WP.condF rfl ?_
  refine WP.sk (.thn ?_)
  refine WP.seq ?_
  refine WP.region ?_
  refine WL.op (mv (ot rfl)) (by decide) ?_
  refine WL.op (bld zr_ef36_Family rfl ps_ef36_Family (.c (ot rfl) (.leaf (.val rfl)) pl_ef36_Family_0 rfl (le_ rfl) .n)) (by decide) ?_
  refine WL.store 0 rfl (ot rfl) (ot rfl) (.agg _) sz_ef36_Family rfl (le_ rfl) ?_
  refine WL.op (asg (oc _)) (by decide) ?_
  refine WL.nl (.thn ?_)
  exact WP.rt (.rN rfl (.cons (.bx 0 rfl rfl ag_ef36_Family) (.cons (.tm rfl) .nil)) (le_ rfl) (impT (.c (impA (.c (imp _) (.c sl_nil .n))) (.c (imp _) .n))))
theorem c_r36_Family_At {g : RF} {s : ByteArray} (hl : g.vs.length ≤ 1000) : PureC Tryz.prog 31 [eG g, val (.string s)] (I (rAt g.vs s)) := by
  refine PureC.of_wp Tryz.func31 (by kernel_rfl) rfl Tryz.ntmps31 (le_ rfl) (fun w0 M0 => ?_)
  refine WP.seq ?_
  refine WP.region ?_
  refine WL.box (ot rfl) (.agg _) (by decide) fun b2 => ?_
  refine WL.op (asg (oc _)) (by decide) ?_
  refine WL.nl (.thn ?_)
  refine WP.seq ?_
  refine WP.seq ?_
  refine WP.region ?_
  refine WL.op (asg (oc _)) (by decide) ?_
  refine WL.nl (.thn ?_)
  refine WP.block ?_
  refine WP.loop (fun y : Nat => [.b b2 45 [I (g.k : Int), sl 4 FRV g.vs]]) (fun y => [(5, I (y : Int)), (2, val (.pointer (some ⟨b2, 0, none⟩))), (1, val (.string s))]) (fun y => y ≤ g.vs.length ∧ ∀ x ∈ g.vs.take y, isS s x = false) (fun y => g.vs.length - y) 0 ⟨Nat.zero_le _, fun x hx => (by cases hx)⟩ (Sub.ofD 0 rfl (Sub.cons rfl (imp_eq rfl) (Sub.cons rfl (imp _) (Sub.cons rfl (imp _) Sub.nil)))) (fun i hi => ?_)
  replace hi : i ≤ g.vs.length ∧ ∀ x ∈ g.vs.take i, isS s x = false := hi
  show WP _ _ _ _ [.b b2 45 [I (g.k : Int), sl 4 FRV g.vs]] [(5, I (i : Int)), (2, val (.pointer (some ⟨b2, 0, none⟩))), (1, val (.string s))] _ _
  refine WP.seq ?_
  refine WP.seq ?_
  refine WP.region ?_
  refine WL.op (mv (ot rfl)) (by decide) ?_
  refine WL.op (fv fo_ef36_Family_1 (ot rfl)) (by decide) ?_
  refine WL.op (lb 0 rfl sc_s_tegularef36_Volume (ot rfl) rfl) (by decide) ?_
  refine WL.op (len_ us_s_tegularef36_Volume (ot rfl)) (by decide) ?_
  refine WL.op (lss (ot rfl) (ot rfl)) (by decide) ?_
  refine WL.nl (.thn ?_)
  refine WP.cond rfl (fun hc => ?_) (fun hc => ?_)
  · skip
    have hc1 : i < g.vs.length := by have := of_decide_eq_true hc; omega
    refine WP.sk (.thn ?_)
    refine WP.seq ?_
    refine WP.block ?_
    refine WP.seq ?_
    refine WP.region ?_
    refine WL.op (fv fo_ef36_Family_1 (ot rfl)) (by decide) ?_
    refine WL.op (lb 0 rfl sc_s_tegularef36_Volume (ot rfl) rfl) (by decide) ?_
    refine WL.op (mv (ot rfl)) (by decide) ?_
    refine WL.op (ixd el_s_tegularef36_Volume (ot rfl) (ot rfl) (by omega) (by omega)) (by decide) ?_
    refine WL.op (fa fo_ef36_Volume_0 (ot rfl)) (by decide) ?_
    refine WL.op (ld sc_string (ot rfl)) (by decide) ?_
    refine WL.op (mv (ot rfl)) (by decide) ?_
    refine WL.op (seq_ (ot rfl) (ot rfl)) (by decide) ?_
    refine WL.nl (.thn ?_)
    refine WP.cond rfl (fun hc => ?_) (fun hc => ?_)
    · skip
      have hz : isS s (g.vs.getD (i : Int).toNat default) = true := hc
      refine WP.seq ?_
      refine WP.region ?_
      refine WL.op (mv (ot rfl)) (by decide) ?_
      refine WL.op (asg (ot rfl)) (by decide) ?_
      refine WL.nl (.thn ?_)
      exact WP.rt (.rblk (.rthn (.rthn (.rblk (.rthn (.r1 rfl rfl (imp_eq (congrArg I (fidx_some hc1 hi.2 hz).symm))))))))
    · skip
      have hz : isS s (g.vs.getD (i : Int).toNat default) = false := hc
      refine WP.sk (.blk (.thn ?_))
      refine WP.region ?_
      refine WL.op (mv (ot rfl)) (by decide) ?_
      refine WL.op (add (ot rfl) (oc _) (by omega)) (by decide) ?_
      refine WL.op (asg (ot rfl)) (by decide) ?_
      exact WL.nl (.again (i + 1) ⟨hc1, take_none hc1 hi.2 hz⟩ (by omega) (Sub.ofD 0 rfl (Sub.cons rfl (imp_eq (congrArg I (by omega))) (Sub.cons rfl (imp _) (Sub.cons rfl (imp _) Sub.nil)))))
  · skip
    have hc1 : ¬ i < g.vs.length := by have := of_decide_eq_false hc; omega
    refine WP.xt (.xthn (.xthn (.xin (.thn ?_))))
    refine WP.seq ?_
    refine WP.region ?_
    refine WL.op (asg (oc _)) (by decide) ?_
    refine WL.nl (.thn ?_)
    exact WP.rt (.r1 rfl rfl (imp_eq (congrArg I (fidx_none (p := isS s) (L := g.vs) (fun x hx => hi.2 x (by rw [List.take_of_length_le (by omega)]; exact hx))).symm)))
theorem c_r36_Family_with {g : RF} {v : RV} (hl : g.vs.length ≤ 1000) : PureC Tryz.prog 98 [eG g, agg (FRV v)] (eG (rWith g v)) := by
  refine PureC.of_wp Tryz.func98 (by kernel_rfl) rfl Tryz.ntmps98 (le_ rfl) (fun w0 M0 => ?_)
  refine WP.nilrow 56 4 ?_
  refine WP.seq  ?_
  refine WP.region ?_
  refine WL.box (ot rfl) (.agg _) (by decide) fun b2 => ?_
  refine WL.box (ot rfl) (.agg _) (by decide) fun b3 => ?_
  refine WL.alloc zr_ef36_Family rfl (by decide) fun b4 => ?_
  refine WL.nl (.thn ?_)
  refine WP.seq ?_
  refine WP.region ?_
  refine WL.op (fv fo_ef36_Family_0 (ot rfl)) (by decide) ?_
  refine WL.op (lb 2 rfl sc_int (ot rfl) rfl) (by decide) ?_
  refine WL.op (bld zr_ef36_Family rfl ps_ef36_Family (.c (ot rfl) (.leaf (.val rfl)) pl_ef36_Family_0 rfl (le_ rfl) .n)) (by decide) ?_
  refine WL.alloc zr_ef36_Family rfl (by decide) fun b5 => ?_
  refine WL.store 0 rfl (ot rfl) (ot rfl) (.agg _) sz_ef36_Family rfl (le_ rfl) ?_
  refine WL.nl (.thn ?_)
  refine WP.seq ?_
  refine WP.region ?_
  refine WL.op (asg (oc _)) (by decide) ?_
  refine WL.nl (.thn ?_)
  refine WP.seq ?_
  refine WP.seq ?_
  refine WP.region ?_
  refine WL.op (asg (oc _)) (by decide) ?_
  refine WL.nl (.thn ?_)
  refine WP.block ?_
  refine WP.loop (fun y : Nat × Value => [.b b5 45 [I (g.k : Int), val y.2], .b b4 45 [I 0, val nilS], .b b3 56 (FRV v), .b b2 45 [I (g.k : Int), sl 4 FRV g.vs], .r y.2 56 4 (rWithF (g.vs.take y.1) v).1.length ((rWithF (g.vs.take y.1) v).1.flatMap FRV)]) (fun y => [(7, I (y.1 : Int)), (6, val (.bool (rWithF (g.vs.take y.1) v).2)), (5, val (.pointer (some ⟨b5, 0, none⟩))), (4, val (.pointer (some ⟨b4, 0, none⟩))), (3, val (.pointer (some ⟨b3, 0, none⟩))), (2, val (.pointer (some ⟨b2, 0, none⟩)))]) (fun y => y.1 ≤ g.vs.length ∧ y.2.oneCell' = true) (fun y => g.vs.length - y.1) (0, nilS) ⟨Nat.zero_le _, rfl⟩ (Sub.ofD 0 rfl (Sub.cons rfl (imp_eq rfl) (Sub.cons rfl (imp_eq rfl) (Sub.cons rfl (imp _) (Sub.cons rfl (imp _) (Sub.cons rfl (imp _) (Sub.cons rfl (imp _) Sub.nil))))))) (fun y hi => ?_)
  obtain ⟨i, u⟩ := y
  replace hi : i ≤ g.vs.length ∧ u.oneCell' = true := hi
  show WP _ _ _ _ [.b b5 45 [I (g.k : Int), val u], .b b4 45 [I 0, val nilS], .b b3 56 (FRV v), .b b2 45 [I (g.k : Int), sl 4 FRV g.vs], .r u 56 4 (rWithF (g.vs.take i) v).1.length ((rWithF (g.vs.take i) v).1.flatMap FRV)] [(7, I (i : Int)), (6, val (.bool (rWithF (g.vs.take i) v).2)), (5, val (.pointer (some ⟨b5, 0, none⟩))), (4, val (.pointer (some ⟨b4, 0, none⟩))), (3, val (.pointer (some ⟨b3, 0, none⟩))), (2, val (.pointer (some ⟨b2, 0, none⟩)))] _ _
  refine WP.seq ?_
  refine WP.seq ?_
  refine WP.region ?_
  refine WL.op (mv (ot rfl)) (by decide) ?_
  refine WL.op (fv fo_ef36_Family_1 (ot rfl)) (by decide) ?_
  refine WL.op (lb 3 rfl sc_s_tegularef36_Volume (ot rfl) rfl) (by decide) ?_
  refine WL.op (len_ us_s_tegularef36_Volume (ot rfl)) (by decide) ?_
  refine WL.op (lss (ot rfl) (ot rfl)) (by decide) ?_
  refine WL.nl (.thn ?_)
  refine WP.cond rfl (fun hc => ?_) (fun hc => ?_)
  · skip
    have hc1 : i < g.vs.length := by have := of_decide_eq_true hc; omega
    have hst := withF_step (v := v) hc1
    have hlen := withF_take g.vs v i
    refine WP.sk (.thn ?_)
    refine WP.seq ?_
    refine WP.block ?_
    refine WP.seq ?_
    refine WP.region ?_
    refine WL.op (fv fo_ef36_Family_1 (ot rfl)) (by decide) ?_
    refine WL.op (lb 3 rfl sc_s_tegularef36_Volume (ot rfl) rfl) (by decide) ?_
    refine WL.op (mv (ot rfl)) (by decide) ?_
    refine WL.op (ixd el_s_tegularef36_Volume (ot rfl) (ot rfl) (by omega) (by omega)) (by decide) ?_
    refine WL.op (ls ag_ef36_Volume (ot rfl) (le_ rfl)) (by decide) ?_
    refine WL.alloc zr_ef36_Volume rfl (by decide) fun b8 => ?_
    refine WL.store 0 rfl (ot rfl) (ot rfl) (.agg _) sz_ef36_Volume rfl (le_ rfl) ?_
    refine WL.nl (.thn ?_)
    refine WP.seq ?_
    refine WP.seq ?_
    refine WP.region ?_
    refine WL.op (mv (ot rfl)) (by decide) ?_
    refine WL.op (not_ (ot rfl)) (by decide) ?_
    refine WL.op (mv (ot rfl)) (by decide) ?_
    refine WL.gd rfl rfl (Tells.v _ _) (fun hg => fv fo_ef36_Volume_0 (ot rfl)) (by decide) ?_
    refine WL.gd rfl rfl (Tells.v _ _) (fun hg => lb 0 rfl sc_string (og rfl hg) rfl) (by decide) ?_
    refine WL.gd rfl rfl (Tells.v _ _) (fun hg => fv fo_ef36_Volume_0 (ot rfl)) (by decide) ?_
    refine WL.gd rfl rfl (Tells.v _ _) (fun hg => lb 3 rfl sc_string (og rfl hg) rfl) (by decide) ?_
    refine WL.gd rfl rfl (Tells.v _ _) (fun hg => sgeq (og rfl hg) (og rfl hg)) (by decide) ?_
    refine WL.op (and_ (ot rfl) (ot rfl)) (by decide) ?_
    refine WL.nl (.thn ?_)
    refine WP.cond rfl (fun hc => ?_) (fun hc => ?_)
    · skip
      have hz : (rWithF (g.vs.take i) v).2 = false ∧ ¬ key (g.vs.getD (i : Int).toNat default).s < key v.s := by simpa using hc
      refine WP.seq ?_
      refine WP.region ?_
      refine WL.op (fv fo_ef36_Family_1 (ot rfl)) (by decide) ?_
      refine WL.op (lb 1 rfl sc_s_tegularef36_Volume (ot rfl) rfl) (by decide) ?_
      refine WL.op (lbs 3 rfl ag_ef36_Volume (ot rfl) (le_ rfl)) (by decide) ?_
      refine WL.op (bsl1 (f := FRV) (el := v) ei_s_tegularef36_Volume (ot rfl) (.agg _) rfl (by decide) (by decide)) (by decide) ?_
      refine WL.app 5 rfl ei_s_tegularef36_Volume (by decide) (ot rfl) (ot rfl) (by simp) (fun _ => rfl) (by simp only [List.length_singleton]; omega) (by simp only [List.length_singleton]; omega) (by decide) fun v37 h37 => ?_
      refine WL.op (fv fo_ef36_Family_1 (ot rfl)) (by decide) ?_
      refine WL.store 1 rfl (ot rfl) (ot rfl) (.leaf (.val h37)) sz_s_tegularef36_Volume rfl (le_ rfl) ?_
      refine WL.nl (.thn ?_)
      refine WP.region ?_
      refine WL.op (asg (oc _)) (by decide) ?_
      refine WL.nl (.thn ?_)
      refine WP.seq ?_
      refine WP.region ?_
      refine WL.op (fv fo_ef36_Volume_0 (ot rfl)) (by decide) ?_
      refine WL.op (lb 0 rfl sc_string (ot rfl) rfl) (by decide) ?_
      refine WL.op (fv fo_ef36_Volume_0 (ot rfl)) (by decide) ?_
      refine WL.op (lb 3 rfl sc_string (ot rfl) rfl) (by decide) ?_
      refine WL.op (sne (ot rfl) (ot rfl)) (by decide) ?_
      refine WL.nl (.thn ?_)
      refine WP.cond rfl (fun hc => ?_) (fun hc => ?_)
      · skip
        have hw : ¬ (g.vs.getD (i : Int).toNat default).s = v.s := by simpa using hc
        refine WP.region ?_
        refine WL.op (fv fo_ef36_Family_1 (ot rfl)) (by decide) ?_
        refine WL.op (lb 1 rfl sc_s_tegularef36_Volume (ot rfl) rfl) (by decide) ?_
        refine WL.op (lbs 0 rfl ag_ef36_Volume (ot rfl) (le_ rfl)) (by decide) ?_
        refine WL.op (bsl1 (f := FRV) (el := (g.vs.getD (i : Int).toNat default)) ei_s_tegularef36_Volume (ot rfl) (.agg _) rfl (by decide) (by decide)) (by decide) ?_
        refine WL.app 5 rfl ei_s_tegularef36_Volume (by decide) (ot rfl) (ot rfl) (by simp) (fun _ => rfl) (by simp only [List.length_singleton]; omega) (by simp only [List.length_singleton]; omega) (by decide) fun v48 h48 => ?_
        refine WL.op (fv fo_ef36_Family_1 (ot rfl)) (by decide) ?_
        refine WL.store 1 rfl (ot rfl) (ot rfl) (.leaf (.val h48)) sz_s_tegularef36_Volume rfl (le_ rfl) ?_
        refine WL.nl (.blk (.thn ?_))
        refine WP.region ?_
        refine WL.op (mv (ot rfl)) (by decide) ?_
        refine WL.op (add (ot rfl) (oc _) (by omega)) (by decide) ?_
        refine WL.op (asg (ot rfl)) (by decide) ?_
        exact WL.nl (.again (i + 1, v48) ⟨hc1, h48⟩ (by show g.vs.length - (i + 1) < g.vs.length - i; omega) (Sub.ofD 1 (Eq.trans (b := [.b b5 45 [I (g.k : Int), val v48], .b b4 45 [I 0, val nilS], .b b3 56 (FRV v), .b b2 45 [I (g.k : Int), sl 4 FRV g.vs], .r v48 56 4 ((rWithF (g.vs.take i) v).1.length + 1 + 1) ((rWithF (g.vs.take i) v).1.flatMap FRV ++ [v].flatMap FRV ++ [(g.vs.getD (i : Int).toNat default)].flatMap FRV)]) rfl (rw2 (by show (rWithF (g.vs.take (i + 1)) v).1 = _; rw [hst]; unfold wst; dsimp only; rw [if_neg hw, if_pos hz]))) (Sub.cons rfl (imp_eq (congrArg I (by omega))) (Sub.cons rfl (imp_eq (congrArg (fun b => val (.bool b)) (by show _ = (rWithF (g.vs.take (i + 1)) v).2; rw [hst]; unfold wst; dsimp only; rw [if_pos hz]))) (Sub.cons rfl (imp _) (Sub.cons rfl (imp _) (Sub.cons rfl (imp _) (Sub.cons rfl (imp _) Sub.nil))))))))
      · skip
        have hw : (g.vs.getD (i : Int).toNat default).s = v.s := by simpa using hc
        refine WP.sk (.blk (.thn ?_))
        refine WP.region ?_
        refine WL.op (mv (ot rfl)) (by decide) ?_
        refine WL.op (add (ot rfl) (oc _) (by omega)) (by decide) ?_
        refine WL.op (asg (ot rfl)) (by decide) ?_
        exact WL.nl (.again (i + 1, v37) ⟨hc1, h37⟩ (by show g.vs.length - (i + 1) < g.vs.length - i; omega) (Sub.ofD 1 (Eq.trans (b := [.b b5 45 [I (g.k : Int), val v37], .b b4 45 [I 0, val nilS], .b b3 56 (FRV v), .b b2 45 [I (g.k : Int), sl 4 FRV g.vs], .r v37 56 4 ((rWithF (g.vs.take i) v).1.length + 1) ((rWithF (g.vs.take i) v).1.flatMap FRV ++ [v].flatMap FRV)]) rfl (rw1 (by show (rWithF (g.vs.take (i + 1)) v).1 = _; rw [hst]; unfold wst; dsimp only; rw [if_pos hw, if_pos hz]))) (Sub.cons rfl (imp_eq (congrArg I (by omega))) (Sub.cons rfl (imp_eq (congrArg (fun b => val (.bool b)) (by show _ = (rWithF (g.vs.take (i + 1)) v).2; rw [hst]; unfold wst; dsimp only; rw [if_pos hz]))) (Sub.cons rfl (imp _) (Sub.cons rfl (imp _) (Sub.cons rfl (imp _) (Sub.cons rfl (imp _) Sub.nil))))))))
    · skip
      have hz : ¬ ((rWithF (g.vs.take i) v).2 = false ∧ ¬ key (g.vs.getD (i : Int).toNat default).s < key v.s) := by simpa using hc
      refine WP.sk (.thn ?_)
      refine WP.seq ?_
      refine WP.region ?_
      refine WL.op (fv fo_ef36_Volume_0 (ot rfl)) (by decide) ?_
      refine WL.op (lb 0 rfl sc_string (ot rfl) rfl) (by decide) ?_
      refine WL.op (fv fo_ef36_Volume_0 (ot rfl)) (by decide) ?_
      refine WL.op (lb 3 rfl sc_string (ot rfl) rfl) (by decide) ?_
      refine WL.op (sne (ot rfl) (ot rfl)) (by decide) ?_
      refine WL.nl (.thn ?_)
      refine WP.cond rfl (fun hc => ?_) (fun hc => ?_)
      · skip
        have hw : ¬ (g.vs.getD (i : Int).toNat default).s = v.s := by simpa using hc
        refine WP.region ?_
        refine WL.op (fv fo_ef36_Family_1 (ot rfl)) (by decide) ?_
        refine WL.op (lb 1 rfl sc_s_tegularef36_Volume (ot rfl) rfl) (by decide) ?_
        refine WL.op (lbs 0 rfl ag_ef36_Volume (ot rfl) (le_ rfl)) (by decide) ?_
        refine WL.op (bsl1 (f := FRV) (el := (g.vs.getD (i : Int).toNat default)) ei_s_tegularef36_Volume (ot rfl) (.agg _) rfl (by decide) (by decide)) (by decide) ?_
        refine WL.app 5 rfl ei_s_tegularef36_Volume (by decide) (ot rfl) (ot rfl) (by simp) (fun _ => rfl) (by simp only [List.length_singleton]; omega) (by simp only [List.length_singleton]; omega) (by decide) fun v48 h48 => ?_
        refine WL.op (fv fo_ef36_Family_1 (ot rfl)) (by decide) ?_
        refine WL.store 1 rfl (ot rfl) (ot rfl) (.leaf (.val h48)) sz_s_tegularef36_Volume rfl (le_ rfl) ?_
        refine WL.nl (.blk (.thn ?_))
        refine WP.region ?_
        refine WL.op (mv (ot rfl)) (by decide) ?_
        refine WL.op (add (ot rfl) (oc _) (by omega)) (by decide) ?_
        refine WL.op (asg (ot rfl)) (by decide) ?_
        exact WL.nl (.again (i + 1, v48) ⟨hc1, h48⟩ (by show g.vs.length - (i + 1) < g.vs.length - i; omega) (Sub.ofD 1 (Eq.trans (b := [.b b5 45 [I (g.k : Int), val v48], .b b4 45 [I 0, val nilS], .b b3 56 (FRV v), .b b2 45 [I (g.k : Int), sl 4 FRV g.vs], .r v48 56 4 ((rWithF (g.vs.take i) v).1.length + 1) ((rWithF (g.vs.take i) v).1.flatMap FRV ++ [(g.vs.getD (i : Int).toNat default)].flatMap FRV)]) rfl (rw1 (by show (rWithF (g.vs.take (i + 1)) v).1 = _; rw [hst]; unfold wst; dsimp only; rw [if_neg hw, if_neg hz]))) (Sub.cons rfl (imp_eq (congrArg I (by omega))) (Sub.cons rfl (imp_eq (congrArg (fun b => val (.bool b)) (by show _ = (rWithF (g.vs.take (i + 1)) v).2; rw [hst]; unfold wst; dsimp only; rw [if_neg hz]))) (Sub.cons rfl (imp _) (Sub.cons rfl (imp _) (Sub.cons rfl (imp _) (Sub.cons rfl (imp _) Sub.nil))))))))
      · skip
        have hw : (g.vs.getD (i : Int).toNat default).s = v.s := by simpa using hc
        refine WP.sk (.blk (.thn ?_))
        refine WP.region ?_
        refine WL.op (mv (ot rfl)) (by decide) ?_
        refine WL.op (add (ot rfl) (oc _) (by omega)) (by decide) ?_
        refine WL.op (asg (ot rfl)) (by decide) ?_
        exact WL.nl (.again (i + 1, u) ⟨hc1, hi.2⟩ (by show g.vs.length - (i + 1) < g.vs.length - i; omega) (Sub.ofD 1 (Eq.trans (b := [.b b5 45 [I (g.k : Int), val u], .b b4 45 [I 0, val nilS], .b b3 56 (FRV v), .b b2 45 [I (g.k : Int), sl 4 FRV g.vs], .r u 56 4 ((rWithF (g.vs.take i) v).1.length) ((rWithF (g.vs.take i) v).1.flatMap FRV)]) rfl (rw0 (by show (rWithF (g.vs.take (i + 1)) v).1 = _; rw [hst]; unfold wst; dsimp only; rw [if_pos hw, if_neg hz]))) (Sub.cons rfl (imp_eq (congrArg I (by omega))) (Sub.cons rfl (imp_eq (congrArg (fun b => val (.bool b)) (by show _ = (rWithF (g.vs.take (i + 1)) v).2; rw [hst]; unfold wst; dsimp only; rw [if_neg hz]))) (Sub.cons rfl (imp _) (Sub.cons rfl (imp _) (Sub.cons rfl (imp _) (Sub.cons rfl (imp _) Sub.nil))))))))
  · skip
    have hc1 : ¬ i < g.vs.length := by have := of_decide_eq_false hc; omega
    have hi1 := hi.1
    have hlen := withF_take g.vs v i
    have hfull : rWithF (g.vs.take i) v = rWithF g.vs v := by rw [List.take_of_length_le (by omega)]
    refine WP.xt (.xthn (.xthn (.xin (.thn ?_))))
    refine WP.seq ?_
    refine WP.seq ?_
    refine WP.region ?_
    refine WL.op (mv (ot rfl)) (by decide) ?_
    refine WL.op (not_ (ot rfl)) (by decide) ?_
    refine WL.nl (.thn ?_)
    refine WP.cond rfl (fun hc => ?_) (fun hc => ?_)
    · skip
      have hend : rWithL g.vs v = (rWithF (g.vs.take i) v).1 ++ [v] := by unfold rWithL; rw [hfull] at hc ⊢; rw [if_neg (by simpa using hc)]
      refine WP.region ?_
      refine WL.op (fv fo_ef36_Family_1 (ot rfl)) (by decide) ?_
      refine WL.op (lb 0 rfl sc_s_tegularef36_Volume (ot rfl) rfl) (by decide) ?_
      refine WL.op (lbs 2 rfl ag_ef36_Volume (ot rfl) (le_ rfl)) (by decide) ?_
      refine WL.op (bsl1 (f := FRV) (el := v) ei_s_tegularef36_Volume (ot rfl) (.agg _) rfl (by decide) (by decide)) (by decide) ?_
      refine WL.app 4 rfl ei_s_tegularef36_Volume (by decide) (ot rfl) (ot rfl) (by simp) (fun _ => rfl) (by simp only [List.length_singleton]; omega) (by simp only [List.length_singleton]; omega) (by decide) fun v56 h56 => ?_
      refine WL.op (fv fo_ef36_Family_1 (ot rfl)) (by decide) ?_
      refine WL.store 0 rfl (ot rfl) (ot rfl) (.leaf (.val h56)) sz_s_tegularef36_Volume rfl (le_ rfl) ?_
      refine WL.nl (.thn ?_)
      refine WP.freezeC 4 0 1 FRV (rWithL g.vs v) rfl rfl rfl (by decide) (fun _ => rfl) (by rw [hend, List.length_append]) (by rw [hend, List.flatMap_append]) ?_
      refine WP.seq  ?_
      refine WP.region ?_
      refine WL.op (lbs 0 rfl ag_ef36_Family (ot rfl) (le_ rfl)) (by decide) ?_
      refine WL.store 1 rfl (ot rfl) (ot rfl) (.agg _) sz_ef36_Family rfl (le_ rfl) ?_
      refine WL.nl (.thn ?_)
      exact WP.rt (.rB rfl (.bx 1 rfl rfl ag_ef36_Family) (imp _))
    · skip
      have hend : rWithL g.vs v = (rWithF (g.vs.take i) v).1 := by unfold rWithL; rw [hfull] at hc ⊢; rw [if_pos (by simpa using hc)]
      refine WP.sk (.thn ?_)
      refine WP.freezeC 4 0 1 FRV (rWithL g.vs v) rfl rfl rfl (by decide) (fun _ => rfl) (by rw [hend]) (by rw [hend]) ?_
      refine WP.seq  ?_
      refine WP.region ?_
      refine WL.op (lbs 0 rfl ag_ef36_Family (ot rfl) (le_ rfl)) (by decide) ?_
      refine WL.store 1 rfl (ot rfl) (ot rfl) (.agg _) sz_ef36_Family rfl (le_ rfl) ?_
      refine WL.nl (.thn ?_)
      exact WP.rt (.rB rfl (.bx 1 rfl rfl ag_ef36_Family) (imp _))
theorem c_r36_Family_Counts {g : RF} (h : GOk g) : PureC Tryz.prog 80 [eG g] (sl 1 FI (rCounts g)) := by
  refine PureC.of_wp Tryz.func80 (by kernel_rfl) rfl Tryz.ntmps80 (le_ rfl) (fun w0 M0 => ?_)
  refine WP.seq ?_
  refine WP.region ?_
  refine WL.box (ot rfl) (.agg _) (by decide) fun b1 => ?_
  refine WL.op (asg (oc _)) (by decide) ?_
  refine WL.nl (.thn ?_)
  refine WP.seq ?_
  refine WP.region ?_
  refine WL.op (fv fo_ef36_Family_0 (ot rfl)) (by decide) ?_
  refine WL.op (lb 0 rfl sc_int (ot rfl) rfl) (by decide) ?_
  refine WL.op (call (c_r34_New (k := g.k) h.k) (.c (ot rfl) .n)) (by decide) ?_
  refine WL.op (mv (ot rfl)) (by decide) ?_
  refine WL.op (ex (ot rfl) rfl) (by decide) ?_
  refine WL.op (ex (ot rfl) rfl) (by decide) ?_
  refine WL.op (asg (ot rfl)) (by decide) ?_
  refine WL.op (asg (ot rfl)) (by decide) ?_
  refine WL.nl (.thn ?_)
  refine WP.seq ?_
  refine WP.seq ?_
  refine WP.region ?_
  refine WL.op (asg (oc _)) (by decide) ?_
  refine WL.nl (.thn ?_)
  refine WP.block ?_
  refine WP.loop (fun y : Nat => [.b b1 45 [I (g.k : Int), sl 4 FRV g.vs]]) (fun y => [(5, I (y : Int)), (3, sl 1 FI (rCounts ⟨g.k, g.vs.take y⟩)), (1, val (.pointer (some ⟨b1, 0, none⟩)))]) (fun y => y ≤ g.vs.length) (fun y => g.vs.length - y) 0 (Nat.zero_le _) (Sub.ofD 0 rfl (Sub.cons rfl (imp_eq rfl) (Sub.cons rfl (imp_eq rfl) (Sub.cons rfl (imp _) Sub.nil)))) (fun i hi => ?_)
  replace hi : i ≤ g.vs.length := hi
  show WP _ _ _ _ [.b b1 45 [I (g.k : Int), sl 4 FRV g.vs]] [(5, I (i : Int)), (3, sl 1 FI (rCounts ⟨g.k, g.vs.take i⟩)), (1, val (.pointer (some ⟨b1, 0, none⟩)))] _ _
  refine WP.seq ?_
  refine WP.seq ?_
  refine WP.region ?_
  refine WL.op (mv (ot rfl)) (by decide) ?_
  refine WL.op (fv fo_ef36_Family_1 (ot rfl)) (by decide) ?_
  refine WL.op (lb 0 rfl sc_s_tegularef36_Volume (ot rfl) rfl) (by decide) ?_
  refine WL.op (len_ us_s_tegularef36_Volume (ot rfl)) (by decide) ?_
  refine WL.op (lss (ot rfl) (ot rfl)) (by decide) ?_
  refine WL.nl (.thn ?_)
  refine WP.cond rfl (fun hc => ?_) (fun hc => ?_)
  · skip
    have hc1 : i < g.vs.length := by have := of_decide_eq_true hc; omega
    have hnum := h.num
    have hg' : GOk ⟨g.k, g.vs.take i⟩ := ⟨h.k, h.srt.sublist (List.take_sublist i g.vs), fun w hw => h.vol w (List.mem_of_mem_take hw), Nat.le_trans (List.length_take_le' i g.vs) h.num⟩
    have hcb : Cb (rCounts ⟨g.k, g.vs.take i⟩) := ⟨by rw [(counts_spec hg').1]; exact h.k, fun s => by rw [(counts_spec hg').2]; have a1 := tot_nn (RF.vs ⟨g.k, g.vs.take i⟩) s; have a2 := tot_le hg' s; omega⟩
    have hln : (g.vs.getD (i : Int).toNat default).l.length ≤ 100000 := by have := ok_len (h.vol _ (getV_mem hc1)).ok; omega
    refine WP.sk (.thn ?_)
    refine WP.seq ?_
    refine WP.block ?_
    refine WP.region ?_
    refine WL.op (mv (ot rfl)) (by decide) ?_
    refine WL.op (fv fo_ef36_Family_1 (ot rfl)) (by decide) ?_
    refine WL.op (lb 0 rfl sc_s_tegularef36_Volume (ot rfl) rfl) (by decide) ?_
    refine WL.op (mv (ot rfl)) (by decide) ?_
    refine WL.op (ixd el_s_tegularef36_Volume (ot rfl) (ot rfl) (by omega) (by omega)) (by decide) ?_
    refine WL.op (fa fo_ef36_Volume_3 (ot rfl)) (by decide) ?_
    refine WL.op (ld sc_s_api_Extent (ot rfl)) (by decide) ?_
    refine WL.op (call (c_r34_Counts_Add hcb hln) (.c (ot rfl) (.c (ot rfl) .n))) (by decide) ?_
    refine WL.op (mv (ot rfl)) (by decide) ?_
    refine WL.op (ex (ot rfl) rfl) (by decide) ?_
    refine WL.op (ex (ot rfl) rfl) (by decide) ?_
    refine WL.op (asg (ot rfl)) (by decide) ?_
    refine WL.nl (.blk (.thn ?_))
    refine WP.region ?_
    refine WL.op (mv (ot rfl)) (by decide) ?_
    refine WL.op (add (ot rfl) (oc _) (by omega)) (by decide) ?_
    refine WL.op (asg (ot rfl)) (by decide) ?_
    exact WL.nl (.again (i + 1) hc1 (by omega) (Sub.ofD 0 rfl (Sub.cons rfl (imp_eq (congrArg I (by omega))) (Sub.cons rfl (imp_eq (congrArg (sl 1 FI) (counts_step hc1).symm)) (Sub.cons rfl (imp _) Sub.nil)))))
  · skip
    have hc1 : ¬ i < g.vs.length := by have := of_decide_eq_false hc; omega
    have hnum := h.num
    refine WP.xt (.xthn (.xthn (.xin (.thn ?_))))
    refine WP.seq ?_
    refine WP.region ?_
    refine WL.op (mv (ot rfl)) (by decide) ?_
    refine WL.op (asg (ot rfl)) (by decide) ?_
    refine WL.nl (.thn ?_)
    exact WP.rt (.r1 rfl rfl (imp_eq (by rw [List.take_of_length_le (by omega)])))
theorem appF {A B : List Int} {s : Int} {b3 b2 : Box} {v : Value} {T : TypeId} (h : B = A ++ [s]) : [b3, b2, Box.r v T 3 (A.length + 1) ((A.map un).flatMap FX ++ [un s].flatMap FX)] = [b3, b2, .r v T 3 B.length ((B.map un).flatMap FX)] := by
  subst h; simp

theorem c_r36_Family_freed {g q : RF} (h : GOk g) (hq : GOk q) (hk : q.k = g.k) : PureC Tryz.prog 119 [eG g, eG q] (sl 3 FX (rFreed g q)) := by
  have hg1 := (counts_spec h).1
  have hq1 := (counts_spec hq).1
  have hgk := h.k
  refine PureC.of_wp Tryz.func119 (by kernel_rfl) rfl Tryz.ntmps119 (le_ rfl) (fun w0 M0 => ?_)
  refine WP.nilrow 65 3 ?_
  refine WP.seq  ?_
  refine WP.region ?_
  refine WL.box (ot rfl) (.agg _) (by decide) fun b2 => ?_
  refine WL.box (ot rfl) (.agg _) (by decide) fun b3 => ?_
  refine WL.op (asg (oc _)) (by decide) ?_
  refine WL.nl (.thn ?_)
  refine WP.seq ?_
  refine WP.draws ?_
  refine RG.op (lbs 1 rfl ag_ef36_Family (ot rfl) (le_ rfl)) ?_
  refine RG.op (call (c_r36_Family_Counts h) (.c (ot rfl) .n)) ?_
  refine RG.op (lbs 0 rfl ag_ef36_Family (ot rfl) (le_ rfl)) ?_
  refine RG.op (call (c_r36_Family_Counts hq) (.c (ot rfl) .n)) ?_
  refine RG.op (asg (ot rfl)) ?_
  refine RG.op (asg (ot rfl)) ?_
  refine RG.fin HM (by kernel_rfl) ?_
  show WL _ _ _ _ _ _ _ _ _
  refine WL.nl (.thn ?_)
  refine WP.seq ?_
  refine WP.region ?_
  refine WL.op (asg (oc _)) (by decide) ?_
  refine WL.nl (.thn ?_)
  refine WP.seq ?_
  refine WP.seq ?_
  refine WP.region ?_
  refine WL.op (asg (oc _)) (by decide) ?_
  refine WL.nl (.thn ?_)
  refine WP.block ?_
  refine WP.loop (fun y : Nat × Value => [.b b3 45 [I (q.k : Int), sl 4 FRV q.vs], .b b2 45 [I (g.k : Int), sl 4 FRV g.vs], .r y.2 65 3 (asc y.1 (fun s => decide (0 < (rCounts g).getD s 0) && decide ((rCounts q).getD s 0 = 0))).length (((asc y.1 (fun s => decide (0 < (rCounts g).getD s 0) && decide ((rCounts q).getD s 0 = 0))).map un).flatMap FX)]) (fun y => [(8, I (y.1 : Int)), (7, val y.2), (6, sl 1 FI (rCounts q)), (5, sl 1 FI (rCounts g))]) (fun y => y.1 ≤ (rCounts g).length ∧ y.2.oneCell' = true) (fun y => (rCounts g).length - y.1) (0, nilS) ⟨Nat.zero_le _, rfl⟩ (Sub.ofD 0 rfl (Sub.cons rfl (imp_eq rfl) (Sub.cons rfl (imp _) (Sub.cons rfl (imp _) (Sub.cons rfl (imp _) Sub.nil))))) (fun y hi => ?_)
  obtain ⟨i, u⟩ := y
  replace hi : i ≤ (rCounts g).length ∧ u.oneCell' = true := hi
  show WP _ _ _ _ [.b b3 45 [I (q.k : Int), sl 4 FRV q.vs], .b b2 45 [I (g.k : Int), sl 4 FRV g.vs], .r u 65 3 (asc i (fun s => decide (0 < (rCounts g).getD s 0) && decide ((rCounts q).getD s 0 = 0))).length (((asc i (fun s => decide (0 < (rCounts g).getD s 0) && decide ((rCounts q).getD s 0 = 0))).map un).flatMap FX)] [(8, I (i : Int)), (7, val u), (6, sl 1 FI (rCounts q)), (5, sl 1 FI (rCounts g))] _ _
  refine WP.seq ?_
  refine WP.seq ?_
  refine WP.region ?_
  refine WL.op (mv (ot rfl)) (by decide) ?_
  refine WL.op (mv (ot rfl)) (by decide) ?_
  refine WL.op (len_ us_ef34_Counts (ot rfl)) (by decide) ?_
  refine WL.op (lss (ot rfl) (ot rfl)) (by decide) ?_
  refine WL.nl (.thn ?_)
  refine WP.cond rfl (fun hc => ?_) (fun hc => ?_)
  · skip
    have hc1 : i < (rCounts g).length := by have := of_decide_eq_true hc; omega
    have hal := asc_le i (fun s => decide (0 < (rCounts g).getD s 0) && decide ((rCounts q).getD s 0 = 0))
    refine WP.sk (.thn ?_)
    refine WP.seq ?_
    refine WP.block ?_
    refine WP.seq ?_
    refine WP.region ?_
    refine WL.op (mv (ot rfl)) (by decide) ?_
    refine WL.op (mv (ot rfl)) (by decide) ?_
    refine WL.op (ixd el_ef34_Counts (ot rfl) (ot rfl) (by omega) (by omega)) (by decide) ?_
    refine WL.op (ld sc_int (ot rfl)) (by decide) ?_
    refine WL.op (gtr (ot rfl) (oc _)) (by decide) ?_
    refine WL.op (mv (ot rfl)) (by decide) ?_
    refine WL.gd rfl rfl (Tells.v _ _) (fun hg => mv (ot rfl)) (by decide) ?_
    refine WL.gd rfl rfl (Tells.v _ _) (fun hg => mv (ot rfl)) (by decide) ?_
    refine WL.gd rfl rfl (Tells.v _ _) (fun hg => ixd el_ef34_Counts (og rfl hg) (og rfl hg) (by omega) (by omega)) (by decide) ?_
    refine WL.gd rfl rfl (Tells.v _ _) (fun hg => ld sc_int (og rfl hg)) (by decide) ?_
    refine WL.gd rfl rfl (Tells.v _ _) (fun hg => eql (og rfl hg) (oc _)) (by decide) ?_
    refine WL.op (and_ (ot rfl) (ot rfl)) (by decide) ?_
    refine WL.nl (.thn ?_)
    refine WP.cond rfl (fun hc => ?_) (fun hc => ?_)
    · skip
      have hz0 : (decide (0 < (rCounts g).getD i 0) && decide ((rCounts q).getD i 0 = 0)) = true := by rw [← getI hc1, ← getI (L := rCounts q) (by omega)]; exact hc
      refine WP.region ?_
      refine WL.op (mv (ot rfl)) (by decide) ?_
      refine WL.op (mv (ot rfl)) (by decide) ?_
      refine WL.op (bld zr_Extent rfl ps_Extent (.c (oc _) (.leaf (.val rfl)) pl_Extent_1 rfl (le_ rfl) (.c (ot rfl) (.leaf (.val rfl)) pl_Extent_2 rfl (le_ rfl) .n))) (by decide) ?_
      refine WL.op (bsl1 (f := FX) (el := un (i : Int)) ei_s_api_Extent (ot rfl) (.agg _) rfl (by decide) (by decide)) (by decide) ?_
      refine WL.app 2 rfl ei_s_api_Extent (by decide) (ot rfl) (ot rfl) (by simp) (fun _ => rfl) (by simp only [List.length_singleton]; omega) (by simp only [List.length_singleton]; omega) (by decide) fun v35 h35 => ?_
      refine WL.op (asg (ot rfl)) (by decide) ?_
      refine WL.nl (.blk (.thn ?_))
      refine WP.region ?_
      refine WL.op (mv (ot rfl)) (by decide) ?_
      refine WL.op (add (ot rfl) (oc _) (by omega)) (by decide) ?_
      refine WL.op (asg (ot rfl)) (by decide) ?_
      exact WL.nl (.again (i + 1, v35) ⟨hc1, h35⟩ (by show (rCounts g).length - (i + 1) < (rCounts g).length - i; omega) (Sub.ofD 0 (Eq.trans (b := [.b b3 45 [I (q.k : Int), sl 4 FRV q.vs], .b b2 45 [I (g.k : Int), sl 4 FRV g.vs], .r v35 65 3 ((asc i (fun s => decide (0 < (rCounts g).getD s 0) && decide ((rCounts q).getD s 0 = 0))).length + 1) (((asc i (fun s => decide (0 < (rCounts g).getD s 0) && decide ((rCounts q).getD s 0 = 0))).map un).flatMap FX ++ [un (i : Int)].flatMap FX)]) rfl (appF ((fz_step _ _ i).trans (congrArg (_ ++ ·) (if_pos hz0))))) (Sub.cons rfl (imp_eq (congrArg I (by omega))) (Sub.cons rfl (imp _) (Sub.cons rfl (imp _) (Sub.cons rfl (imp _) Sub.nil))))))
    · skip
      have hz0 : ¬ (decide (0 < (rCounts g).getD i 0) && decide ((rCounts q).getD i 0 = 0)) = true := by rw [← getI hc1, ← getI (L := rCounts q) (by omega)]; rw [show (decide (0 < (rCounts g).getD i default) && decide ((rCounts q).getD i default = 0)) = false from hc]; exact Bool.false_ne_true
      refine WP.sk (.blk (.thn ?_))
      refine WP.region ?_
      refine WL.op (mv (ot rfl)) (by decide) ?_
      refine WL.op (add (ot rfl) (oc _) (by omega)) (by decide) ?_
      refine WL.op (asg (ot rfl)) (by decide) ?_
      exact WL.nl (.again (i + 1, u) ⟨hc1, hi.2⟩ (by show (rCounts g).length - (i + 1) < (rCounts g).length - i; omega) (Sub.ofD 0 (by dsimp only; rw [fz_step, if_neg hz0, List.append_nil]; rfl) (Sub.cons rfl (imp_eq (congrArg I (by omega))) (Sub.cons rfl (imp _) (Sub.cons rfl (imp _) (Sub.cons rfl (imp _) Sub.nil))))))
  · skip
    have hc1 : ¬ i < (rCounts g).length := by have := of_decide_eq_false hc; omega
    have hi1 := hi.1
    have hal := asc_le i (fun s => decide (0 < (rCounts g).getD s 0) && decide ((rCounts q).getD s 0 = 0))
    refine WP.xt (.xthn (.xthn (.xin (.thn ?_))))
    refine WP.freeze 2 7 FX ((asc i (fun s => decide (0 < (rCounts g).getD s 0) && decide ((rCounts q).getD s 0 = 0))).map un) rfl (fun _ => rfl) (List.length_map ..).symm rfl rfl ?_
    refine WP.seq  ?_
    refine WP.region ?_
    refine WL.op (mv (ot rfl)) (by decide) ?_
    refine WL.op (call (c_r32_Runs (xs := (asc i (fun s => decide (0 < (rCounts g).getD s 0) && decide ((rCounts q).getD s 0 = 0))).map un) (Ua.of (asc_lt _ _) fun u hu => by have := asc_mem.1 hu; omega) (by rw [List.length_map]; omega)) (.c (ot rfl) .n)) (by decide) ?_
    refine WL.op (asg (ot rfl)) (by decide) ?_
    refine WL.nl (.thn ?_)
    exact WP.rt (.r1 rfl rfl (imp_eq (by unfold rFreed fz; rw [show i = (rCounts g).length from by omega])))
end Go.Proofs.YtjglgfnhgehpeaaGreat

/- ExtreePersists: what it computes. -/
import Derived.Test.YtjglgfnhgehpeaaLawD
set_option linter.unusedVariables false
set_option linter.unusedSimpArgs false
set_option maxRecDepth 4000
namespace Go.Proofs.Ytjglgfnhgehpeaa
open Go.RowKit Go.Fw Go.Xt

def FT (t : Tr) : List Rp := [tree t]
def FL (t : Tr) : List Rp := [sl 3 FX t.list]
theorem flat1 {g : Tr → Rp} {ts : List Tr} {k : Nat} (hk : k < ts.length) : (ts.flatMap fun t => [g t])[k * 1]? = some (g (ts.getD k .nil)) := by
  have h := flat_at (sz := 1) (f := fun t => [g t]) (fun _ => rfl) ts k ts[k] (List.getElem?_eq_getElem hk)
  have h2 : ([g ts[k]])[0]? = (((ts.flatMap fun t => [g t]).drop (k * 1)).take 1)[0]? := by rw [h]
  rw [List.getElem?_take, if_pos (by decide), List.getElem?_drop] at h2
  rw [List.getD_eq_getElem?_getD, List.getElem?_eq_getElem hk]
  exact h2.symm
theorem flatT {ts : List Tr} {k : Nat} (hk : k < ts.length) : ((ts.flatMap FT).drop (k * 1)).take 1 = FT (ts.getD k .nil) := by
  have h := flat_at (sz := 1) (f := FT) (fun _ => rfl) ts k ts[k] (List.getElem?_eq_getElem hk)
  rw [h, List.getD_eq_getElem?_getD, List.getElem?_eq_getElem hk]; rfl
theorem flatT_len (ts : List Tr) : (ts.flatMap FT).length = ts.length := by rw [flat_len (sz := 1) (f := FT) (fun _ => rfl)]; omega
theorem getT {p : Tr → Prop} {ts : List Tr} (h : ∀ t ∈ ts, p t) {k : Nat} (hk : k < ts.length) : p (ts.getD k .nil) := by
  rw [List.getD_eq_getElem?_getD, List.getElem?_eq_getElem hk]
  exact h _ (List.getElem_mem hk)

theorem c_w33_ExtreePersists {xs : List Sp} (hU : ∀ x ∈ xs, U8 x) : PureC Try.prog 5 [sl 4 FS xs] (val (.bool true)) := by
  refine PureC.of_wp Try.func5 (by kernel_rfl) rfl Try.ntmps5 (le_ rfl) (fun w0 M0 => ?_)
  refine WP.seq ?_
  -- region 0 law.go:167
  refine WP.region ?_
  refine WL.op (asg (oc _)) (by decide) ?_
  refine WL.nl (.thn ?_)
  refine WP.seq ?_
  refine WP.seq ?_
  -- region 1 law.go:168
  refine WP.region ?_
  refine WL.op (call c_w33_awake .n) (by decide) ?_
  refine WL.op (not_ (ot rfl)) (by decide) ?_
  refine WL.nl (.thn ?_)
  -- law.go:168
  refine WP.condF rfl ?_
  refine WP.sk (.thn ?_)
  refine WP.seq ?_
  refine WP.seq ?_
  -- region 3 law.go:171
  refine WP.region ?_
  refine WL.op (mv (ot rfl)) (by decide) ?_
  refine WL.op (len_ us_s_tegularef33_Step (ot rfl)) (by decide) ?_
  refine WL.op (gtr (ot rfl) (oc _)) (by decide) ?_
  refine WL.nl (.thn ?_)
  -- law.go:171
  refine WP.cond rfl (fun hc => ?_) (fun hc => ?_)
  · skip
    refine WP.seq ?_
    -- region 4 law.go:172
    refine WP.region ?_
    refine WL.op (asg (oc _)) (by decide) ?_
    refine WL.nl (.thn ?_)
    exact WP.rt (.rthn (.r1 rfl rfl (imp _)))
  · skip
    have hle : xs.length ≤ 40 := by have := of_decide_eq_false hc; omega
    refine WP.sk (.thn ?_)
    refine WP.seq ?_
    -- region 5 law.go:174
    refine WP.region ?_
    refine WL.op (call c_x_New .n) (by decide) ?_
    refine WL.mkr (OpN.bsl (rs := [Tr.nil].flatMap FT) ei_s_extree_Tree (ot rfl) (.agg _) rfl (by decide) (by decide)) (by decide) fun v20 h20 => ?_
    refine WL.op (asg (ot rfl)) (by decide) ?_
    refine WL.nl (.thn ?_)
    refine WP.seq ?_
    -- region 6 law.go:175
    refine WP.region ?_
    refine WL.mkr (OpN.bsl (R := sl 3 FX ([] : List X)) (rs := [Tr.nil].flatMap FL) ei_s_s_api_Extent (fun σ w M h => sl_nil _ _ _ (oc _ σ w M h)) (.leaf (.sl _ _ _)) rfl (by decide) (by decide)) (by decide) fun v21 h21 => ?_
    refine WL.op (asg (ot rfl)) (by decide) ?_
    refine WL.nl (.thn ?_)
    refine WP.seq ?_
    refine WP.seq ?_
    -- region 7 law.go:176
    refine WP.region ?_
    refine WL.op (asg (oc _)) (by decide) ?_
    refine WL.nl (.thn ?_)
    refine WP.block ?_
    refine WP.loop (fun y : Nat × List Tr × Value × Value => [.r y.2.2.2 33 1 y.2.1.length (y.2.1.flatMap FL), .r y.2.2.1 26 1 y.2.1.length (y.2.1.flatMap FT)]) (fun y => [(5, I (y.1 : Int)), (3, val y.2.2.1), (4, val y.2.2.2), (0, sl 4 FS xs)]) (fun y => y.1 ≤ xs.length ∧ 1 ≤ y.2.1.length ∧ y.2.1.length ≤ y.1 + 1 ∧ (∀ t ∈ y.2.1, Wt t ∧ Low t.list) ∧ y.2.2.1.oneCell' = true ∧ y.2.2.2.oneCell' = true) (fun y => xs.length - y.1) (0, [.nil], v20, v21) ⟨Nat.zero_le _, Nat.le_refl _, Nat.le_refl _, fun t ht => by rw [List.mem_singleton.1 ht]; exact ⟨wt_nil, low_nil⟩, h20, h21⟩ (Sub.ofD 0 rfl (Sub.cons rfl (imp_eq rfl) (Sub.cons rfl (imp _) (Sub.cons rfl (imp _) (Sub.cons rfl (imp _) Sub.nil))))) (fun y hi => ?_)
    obtain ⟨i, ts, v, w⟩ := y
    replace hi : i ≤ xs.length ∧ 1 ≤ ts.length ∧ ts.length ≤ i + 1 ∧ (∀ t ∈ ts, Wt t ∧ Low t.list) ∧ v.oneCell' = true ∧ w.oneCell' = true := hi
    show WP _ _ _ _ [.r w 33 1 ts.length (ts.flatMap FL), .r v 26 1 ts.length (ts.flatMap FT)] [(5, I (i : Int)), (3, val v), (4, val w), (0, sl 4 FS xs)] _ _
    refine WP.seq ?_
    refine WP.seq ?_
    -- region 8 law.go:176
    refine WP.region ?_
    refine WL.op (mv (ot rfl)) (by decide) ?_
    refine WL.op (mv (ot rfl)) (by decide) ?_
    refine WL.op (len_ us_s_tegularef33_Step (ot rfl)) (by decide) ?_
    refine WL.op (lss (ot rfl) (ot rfl)) (by decide) ?_
    refine WL.nl (.thn ?_)
    -- law.go:176
    refine WP.cond rfl (fun hc => ?_) (fun hc => ?_)
    · skip
      have hc1 : i < xs.length := by have := of_decide_eq_true hc; omega
      have hu := getD_all hU hc1
      obtain ⟨hil, ht1, ht2, hts, hv, hw⟩ := hi
      have hk0 := Int.emod_nonneg (xs.getD (i : Int).toNat default).s (b := (ts.length : Int)) (by omega)
      have hk1 := Int.emod_lt_of_pos (xs.getD (i : Int).toNat default).s (b := (ts.length : Int)) (by omega)
      obtain ⟨wk, lk⟩ := getT hts (k := ((xs.getD (i : Int).toNat default).s % (ts.length : Int)).toNat) (by omega)
      have hlen := low_600 wk lk
      have K := step_like wk (xs.getD (i : Int).toNat default)
      have hlo2 := step_low wk lk hu
      unfold U8 at hu
      refine WP.sk (.thn ?_)
      refine WP.seq ?_
      refine WP.block ?_
      refine WP.seq ?_
      -- region 10 law.go:178
      refine WP.region ?_
      refine WL.op (mv (ot rfl)) (by decide) ?_
      refine WL.op (mv (ot rfl)) (by decide) ?_
      refine WL.op (ixd el_s_tegularef33_Step (ot rfl) (ot rfl) (by omega) (by omega)) (by decide) ?_
      refine WL.op (fa fo_ef33_Step_3 (ot rfl)) (by decide) ?_
      refine WL.op (ld sc_uint8 (ot rfl)) (by decide) ?_
      refine WL.op (cv un_uint8 un_int (ot rfl) (IntWalk.i64_in _ (by omega))) (by decide) ?_
      refine WL.op (mv (ot rfl)) (by decide) ?_
      refine WL.op (lenr 1 rfl us_s_extree_Tree (ot rfl)) (by decide) ?_
      refine WL.op (rem_ (ot rfl) (ot rfl) (by omega) (by omega)) (by decide) ?_
      refine WL.op (asg (ot rfl)) (by decide) ?_
      refine WL.nl (.thn ?_)
      refine WP.seq ?_
      -- region 11 draws law.go:179
      refine WP.rowAt' 0 rfl fun gw cw hw0 => ?_
      refine WP.draws ?_
      refine RG.op (mv (ot rfl)) ?_
      refine RG.op (mv (ot rfl)) ?_
      refine RG.op (ixr' (hw0 (by omega)) el_s_s_api_Extent (ot rfl) (ot rfl) (by omega) (by omega)) ?_
      refine RG.op (lr' 0 (hw0 (by omega)) rfl sc_s_api_Extent (ot rfl) (flat1 (g := fun t => sl 3 FX t.list) (by omega))) ?_
      refine RG.op (mv (ot rfl)) ?_
      refine RG.op (mv (ot rfl)) ?_
      refine RG.op (ixd el_s_tegularef33_Step (ot rfl) (ot rfl) (by omega) (by omega)) ?_
      refine RG.op (ls ag_ef33_Step (ot rfl) (le_ rfl)) ?_
      refine RG.op (call (c_r33_Apply (xs := (ts.getD ((xs.getD (i : Int).toNat default).s % (ts.length : Int)).toNat .nil).list) (s := (xs.getD (i : Int).toNat default)) (by omega) wk.2.1 (getD_all hU hc1)) (.c (ot rfl) (.c (ot rfl) .n))) ?_
      refine RG.op (mv (ot rfl)) ?_
      refine RG.op (ex (ot rfl) rfl) ?_
      refine RG.op (ex (ot rfl) rfl) ?_
      refine RG.op (ex (ot rfl) rfl) ?_
      refine RG.op (asg (ot rfl)) ?_
      refine RG.op (asg (ot rfl)) ?_
      refine RG.op (asg (ot rfl)) ?_
      refine RG.fin HM (by kernel_rfl) ?_
      show WL _ _ _ _ _ _ _ _ _
      refine WL.nl (.thn ?_)
      refine WP.seq ?_
      refine WP.seq ?_
      -- region 12 law.go:180
      refine WP.region ?_
      refine WL.op (mv (ot rfl)) (by decide) ?_
      refine WL.op (neq  (ot rfl) (oc _)) (by decide) ?_
      refine WL.nl (.thn ?_)
      -- law.go:180
      refine WP.cond rfl (fun hc => ?_) (fun hc => ?_)
      · skip
        refine WP.xt (.xthn (.xin (.thn ?_)))
        -- region 9 law.go:176
        refine WP.region ?_
        refine WL.op (mv (ot rfl)) (by decide) ?_
        refine WL.op (add (ot rfl) (oc _) (by omega)) (by decide) ?_
        refine WL.op (asg (ot rfl)) (by decide) ?_
        exact WL.nl (.again (i + 1, ts, v, w) ⟨hc1, ht1, by show ts.length ≤ i + 1 + 1; omega, hts, hv, hw⟩ (by show xs.length - (i + 1) < xs.length - i; omega) (Sub.ofD 0 rfl (Sub.cons rfl (imp_eq (congrArg I (by omega))) (Sub.cons rfl (imp _) (Sub.cons rfl (imp _) (Sub.cons rfl (imp _) Sub.nil))))))
      · skip
        have he : (rApply (ts.getD ((xs.getD (i : Int).toNat default).s % (ts.length : Int)).toNat .nil).list (xs.getD (i : Int).toNat default)).2.2 = 0 := by simpa using hc
        refine WP.sk (.thn ?_)
        refine WP.seq ?_
        -- region 13 draws law.go:183
        refine WP.rowAt' 1 rfl fun gv cv hv0 => ?_
        refine WP.draws ?_
        refine RG.op (mv (ot rfl)) ?_
        refine RG.op (mv (ot rfl)) ?_
        refine RG.op (ixr' (hv0 (by omega)) el_s_extree_Tree (ot rfl) (ot rfl) (by omega) (by omega)) ?_
        refine RG.op (OpG.weak (lrs' 1 (hv0 (by omega)) rfl ag_Tree (ot rfl) (by rw [flatT_len]; omega)) (imp_eq (congrArg agg (flatT (by omega))))) ?_
        refine RG.op (mv (ot rfl)) ?_
        refine RG.op (mv (ot rfl)) ?_
        refine RG.op (ixd el_s_tegularef33_Step (ot rfl) (ot rfl) (by omega) (by omega)) ?_
        refine RG.op (ls ag_ef33_Step (ot rfl) (le_ rfl)) ?_
        refine RG.op (call (c_w33_step (t := (ts.getD ((xs.getD (i : Int).toNat default).s % (ts.length : Int)).toNat .nil)) (s := (xs.getD (i : Int).toNat default)) wk (getD_all hU hc1)) (.c (ot rfl) (.c (ot rfl) .n))) ?_
        refine RG.op (mv (ot rfl)) ?_
        refine RG.op (ex (ot rfl) rfl) ?_
        refine RG.op (ex (ot rfl) rfl) ?_
        refine RG.op (ex (ot rfl) rfl) ?_
        refine RG.bx (.alloc zr_Tree rfl) ?_
        refine RG.ox 13 rfl rfl (OpO.store (ot rfl) (.agg _) sz_Tree rfl rfl) ?_
        refine RG.op (asg (ot rfl)) ?_
        refine RG.op (asg (ot rfl)) ?_
        refine RG.fin HM (by kernel_rfl) ?_
        intro b10
        show WL _ _ _ _ _ _ _ _ _
        refine WL.nl (.thn ?_)
        refine WP.seq ?_
        refine WP.seq ?_
        -- region 14 law.go:184
        refine WP.region ?_
        refine WL.op (mv (ot rfl)) (by decide) ?_
        refine WL.op (OpG.weak (R' := val (.bool false)) (neq  (ot rfl) (oc _)) (imp_eq (congrArg (fun b => val (.bool b)) (by rw [decide_eq_true (K.e.trans he)]; rfl)))) (by decide) ?_
        refine WL.nl (.thn ?_)
        -- law.go:184
        refine WP.condF rfl ?_
        refine WP.sk (.thn ?_)
        -- region 16 law.go:187
        refine WP.region ?_
        refine WL.op (mv (ot rfl)) (by decide) ?_
        refine WL.op (lbs 0 rfl ag_Tree (ot rfl) (le_ rfl)) (by decide) ?_
        refine WL.op (bsl1 (f := FT) (el := (tStep (ts.getD ((xs.getD (i : Int).toNat default).s % (ts.length : Int)).toNat .nil) (xs.getD (i : Int).toNat default)).1) ei_s_extree_Tree (ot rfl) (.agg _) rfl (by decide) (by decide)) (by decide) ?_
        refine WL.app 2 rfl ei_s_extree_Tree (by decide) (ot rfl) (ot rfl) (by simp) (fun _ => rfl) (by simp only [List.length_singleton]; omega) (by simp only [List.length_singleton]; omega) (by decide) fun v70 h70 => ?_
        refine WL.op (mv (ot rfl)) (by decide) ?_
        refine WL.op (mv (ot rfl)) (by decide) ?_
        refine WL.op (bsl1 (R := sl 3 FX (tStep (ts.getD ((xs.getD (i : Int).toNat default).s % (ts.length : Int)).toNat .nil) (xs.getD (i : Int).toNat default)).1.list) (f := FL) (el := (tStep (ts.getD ((xs.getD (i : Int).toNat default).s % (ts.length : Int)).toNat .nil) (xs.getD (i : Int).toNat default)).1) ei_s_s_api_Extent (by rw [K.list]; exact ot rfl) (.leaf (.sl _ _ _)) rfl (by decide) (by decide)) (by decide) ?_
        refine WL.app 1 rfl ei_s_s_api_Extent (by decide) (ot rfl) (ot rfl) (by simp) (fun _ => rfl) (by simp only [List.length_singleton]; omega) (by simp only [List.length_singleton]; omega) (by decide) fun v74 h74 => ?_
        refine WL.op (asg (ot rfl)) (by decide) ?_
        refine WL.op (asg (ot rfl)) (by decide) ?_
        refine WL.nl (.blk (.thn ?_))
        -- region 9 law.go:176
        refine WP.region ?_
        refine WL.op (mv (ot rfl)) (by decide) ?_
        refine WL.op (add (ot rfl) (oc _) (by omega)) (by decide) ?_
        refine WL.op (asg (ot rfl)) (by decide) ?_
        exact WL.nl (.again (i + 1, ts ++ [(tStep (ts.getD ((xs.getD (i : Int).toNat default).s % (ts.length : Int)).toNat .nil) (xs.getD (i : Int).toNat default)).1], v70, v74) ⟨hc1, by simp, by simp; omega, fun t ht => (List.mem_append.1 ht).elim (hts t) fun h => by rw [List.mem_singleton.1 h]; exact ⟨K.wt, hlo2⟩, h70, h74⟩ (by show xs.length - (i + 1) < xs.length - i; omega) (Sub.ofD 1 (Eq.trans (b := [.r v74 33 1 (ts.length + 1) (ts.flatMap FL ++ [(tStep (ts.getD ((xs.getD (i : Int).toNat default).s % (ts.length : Int)).toNat .nil) (xs.getD (i : Int).toNat default)).1].flatMap FL), .r v70 26 1 (ts.length + 1) (ts.flatMap FT ++ [(tStep (ts.getD ((xs.getD (i : Int).toNat default).s % (ts.length : Int)).toNat .nil) (xs.getD (i : Int).toNat default)).1].flatMap FT)]) rfl (by rw [List.flatMap_append, List.flatMap_append, List.length_append]; rfl)) (Sub.cons rfl (imp_eq (congrArg I (by omega))) (Sub.cons rfl (imp _) (Sub.cons rfl (imp _) (Sub.cons rfl (imp _) Sub.nil))))))
    · skip
      have hc1 : ¬ i < xs.length := by have := of_decide_eq_false hc; omega
      obtain ⟨hil, ht1, ht2, hts, hv, hw⟩ := hi
      refine WP.xt (.xthn (.xthn (.xin (.thn ?_))))
      refine WP.seq ?_
      refine WP.seq ?_
      -- region 17 law.go:189
      refine WP.region ?_
      refine WL.op (asg (oc _)) (by decide) ?_
      refine WL.nl (.thn ?_)
      refine WP.block ?_
      refine WP.loop (fun z : Nat => [.r w 33 1 ts.length (ts.flatMap FL), .r v 26 1 ts.length (ts.flatMap FT)]) (fun z => [(13, I (z : Int)), (3, val v), (4, val w)]) (fun z => z ≤ ts.length) (fun z => ts.length - z) 0 (Nat.zero_le _) (Sub.ofD 0 rfl (Sub.cons rfl (imp_eq rfl) (Sub.cons rfl (imp _) (Sub.cons rfl (imp _) Sub.nil)))) (fun j hj => ?_)
      replace hj : j ≤ ts.length := hj
      show WP _ _ _ _ [.r w 33 1 ts.length (ts.flatMap FL), .r v 26 1 ts.length (ts.flatMap FT)] [(13, I (j : Int)), (3, val v), (4, val w)] _ _
      refine WP.seq ?_
      refine WP.seq ?_
      -- region 18 law.go:189
      refine WP.region ?_
      refine WL.op (mv (ot rfl)) (by decide) ?_
      refine WL.op (mv (ot rfl)) (by decide) ?_
      refine WL.op (lenr 1 rfl us_s_extree_Tree (ot rfl)) (by decide) ?_
      refine WL.op (lss (ot rfl) (ot rfl)) (by decide) ?_
      refine WL.nl (.thn ?_)
      -- law.go:189
      refine WP.cond rfl (fun hc => ?_) (fun hc => ?_)
      · skip
        have hj1 : j < ts.length := by have := of_decide_eq_true hc; omega
        obtain ⟨wj, lj⟩ := getT hts (k := (j : Int).toNat) (by omega)
        have hlen := low_600 wj lj
        refine WP.sk (.thn ?_)
        refine WP.seq ?_
        refine WP.block ?_
        refine WP.seq ?_
        -- region 20 draws law.go:190
        refine WP.rowAt' 0 rfl fun gw cw hw0 => ?_
        refine WP.rowAt' 1 rfl fun gv cv hv0 => ?_
        refine WP.draws ?_
        refine RG.op (mv (ot rfl)) ?_
        refine RG.op (mv (ot rfl)) ?_
        refine RG.op (ixr' (hv0 (by omega)) el_s_extree_Tree (ot rfl) (ot rfl) (by omega) (by omega)) ?_
        refine RG.op (OpG.weak (lrs' 1 (hv0 (by omega)) rfl ag_Tree (ot rfl) (by rw [flatT_len]; omega)) (imp_eq (congrArg agg (flatT (by omega))))) ?_
        refine RG.op (call (c_w33_all (t := (ts.getD (j : Int).toNat .nil)) (by omega)) (.c (ot rfl) .n)) ?_
        refine RG.op (mv (ot rfl)) ?_
        refine RG.op (mv (ot rfl)) ?_
        refine RG.op (ixr' (hw0 (by omega)) el_s_s_api_Extent (ot rfl) (ot rfl) (by omega) (by omega)) ?_
        refine RG.op (lr' 0 (hw0 (by omega)) rfl sc_s_api_Extent (ot rfl) (flat1 (g := fun t => sl 3 FX t.list) (by omega))) ?_
        refine RG.op (OpG.weak (R' := val (.bool true)) (call (c_r32_Same (ts.getD (j : Int).toNat .nil).list (ts.getD (j : Int).toNat .nil).list (by omega) (by omega)) (.c (ot rfl) (.c (ot rfl) .n))) (imp_eq (congrArg (fun b => val (.bool b)) (decide_eq_true rfl)))) ?_
        refine RG.op (not_ (ot rfl)) ?_
        refine RG.fin HM (by kernel_rfl) ?_
        show WL _ _ _ _ _ _ _ _ _
        refine WL.nl (.thn ?_)
        -- law.go:190
        refine WP.condF rfl ?_
        refine WP.sk (.blk (.thn ?_))
        -- region 19 law.go:189
        refine WP.region ?_
        refine WL.op (mv (ot rfl)) (by decide) ?_
        refine WL.op (add (ot rfl) (oc _) (by omega)) (by decide) ?_
        refine WL.op (asg (ot rfl)) (by decide) ?_
        exact WL.nl (.again (j + 1) hj1 (by omega) (Sub.ofD 0 rfl (Sub.cons rfl (imp_eq (congrArg I (by omega))) (Sub.cons rfl (imp _) (Sub.cons rfl (imp _) Sub.nil)))))
      · skip
        refine WP.xt (.xthn (.xthn (.xin (.thn ?_))))
        refine WP.seq ?_
        -- region 22 law.go:194
        refine WP.region ?_
        refine WL.op (asg (oc _)) (by decide) ?_
        refine WL.nl (.thn ?_)
        exact WP.rt (.r1 rfl rfl (imp _))
end Go.Proofs.Ytjglgfnhgehpeaa

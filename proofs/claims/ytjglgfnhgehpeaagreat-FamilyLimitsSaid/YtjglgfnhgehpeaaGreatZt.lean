/- Parts: FmD. -/
import Derived.Test.YtjglgfnhgehpeaaGreatZs
/- Families: what is asked of them. -/
set_option linter.unusedVariables false
set_option linter.unusedSimpArgs false
set_option maxRecDepth 4000
namespace Go.Proofs.YtjglgfnhgehpeaaGreat
open Go.RowKit Go.Fw Go.Xt
/-- the slots below i whose count is 0 -/
def zs (cs : List Int) (i : Nat) : List Int := ((List.range i).filter fun s => decide (cs.getD s 0 = 0)).map fun (s : Nat) => (s : Int)
theorem zs_step (cs : List Int) (i : Nat) : zs cs (i + 1) = zs cs i ++ (if cs.getD i 0 = 0 then [(i : Int)] else []) := by
  unfold zs
  rw [List.range_succ, List.filter_append, List.map_append]
  congr 1
  by_cases h : cs.getD i 0 = 0
  · rw [if_pos h, List.filter_cons_of_pos (by exact decide_eq_true h), List.filter_nil]; rfl
  · rw [if_neg h, List.filter_cons_of_neg (by simp only [decide_eq_true_eq]; exact h), List.filter_nil]; rfl
theorem zs_le (cs : List Int) (i : Nat) : (zs cs i).length ≤ i := by
  unfold zs
  rw [List.length_map]
  exact Nat.le_trans (List.length_filter_le _ _) (by simp)
theorem zs_mem {cs : List Int} {i : Nat} {u : Int} : u ∈ zs cs i ↔ 0 ≤ u ∧ u < i ∧ cs.getD u.toNat 0 = 0 := by
  unfold zs
  simp only [List.mem_map, List.mem_filter, List.mem_range, decide_eq_true_eq]
  constructor
  · rintro ⟨s, ⟨h1, h2⟩, rfl⟩; exact ⟨by omega, by omega, h2⟩
  · rintro ⟨h1, h2, h3⟩; exact ⟨u.toNat, ⟨by omega, h3⟩, by omega⟩
theorem app2 {A B : List Int} {s : Int} {b1 : Box} {v : Value} {T : TypeId} (h : B = A ++ [s]) : [.r v T 3 (A.length + 1) ((A.map un).flatMap FX ++ [un s].flatMap FX), b1] = [.r v T 3 B.length ((B.map un).flatMap FX), b1] := by
  subst h; simp

theorem c_refcount_Counts_Slots {cs : List Int} : PureC Tryz.prog 74 [eC cs] (I (cs.length : Int)) := by
  refine PureC.of_wp Tryz.func74 (by kernel_rfl) rfl Tryz.ntmps74 (le_ rfl) (fun w0 M0 => ?_)
  refine WP.seq ?_
  refine WP.region ?_
  refine WL.box (ot rfl) (.agg _) (by decide) fun b1 => ?_
  refine WL.op (asg (oc _)) (by decide) ?_
  refine WL.nl (.thn ?_)
  refine WP.seq ?_
  refine WP.region ?_
  refine WL.op (fv fo_refcount_Counts_0 (ot rfl)) (by decide) ?_
  refine WL.op (lb 0 rfl sc_s_int (ot rfl) rfl) (by decide) ?_
  refine WL.op (len_ us_s_int (ot rfl)) (by decide) ?_
  refine WL.op (asg (ot rfl)) (by decide) ?_
  refine WL.nl (.thn ?_)
  exact WP.rt (.r1 rfl rfl (imp _))
theorem c_family_Family_Slots {f : Fam} : PureC Tryz.prog 28 [eF f] (I (f.cs.length : Int)) := by
  refine PureC.of_wp Tryz.func28 (by kernel_rfl) rfl Tryz.ntmps28 (le_ rfl) (fun w0 M0 => ?_)
  refine WP.seq ?_
  refine WP.region ?_
  refine WL.box (ot rfl) (.agg _) (by decide) fun b1 => ?_
  refine WL.op (asg (oc _)) (by decide) ?_
  refine WL.nl (.thn ?_)
  refine WP.seq ?_
  refine WP.region ?_
  refine WL.op (fv fo_family_Family_0 (ot rfl)) (by decide) ?_
  refine WL.op (lbs 0 rfl ag_refcount_Counts (ot rfl) (le_ rfl)) (by decide) ?_
  refine WL.op (call c_refcount_Counts_Slots (.c (ot rfl) .n)) (by decide) ?_
  refine WL.op (asg (ot rfl)) (by decide) ?_
  refine WL.nl (.thn ?_)
  exact WP.rt (.r1 rfl rfl (imp _))
theorem c_refcount_Counts_Zero {cs : List Int} (hc0 : cs.length ≤ 65536) : PureC Tryz.prog 76 [eC cs] (sl 3 FX (mruns ((srt (zs cs cs.length)).map un))) := by
  refine PureC.of_wp Tryz.func76 (by kernel_rfl) rfl Tryz.ntmps76 (le_ rfl) (fun w0 M0 => ?_)
  refine WP.seq ?_
  refine WP.region ?_
  refine WL.box (ot rfl) (.agg _) (by decide) fun b1 => ?_
  refine WL.op (asg (oc _)) (by decide) ?_
  refine WL.nl (.thn ?_)
  refine WP.seq ?_
  refine WP.region ?_
  refine WL.op (asg (oc _)) (by decide) ?_
  refine WL.nl (.thn ?_)
  refine WP.seq ?_
  refine WP.seq ?_
  refine WP.region ?_
  refine WL.op (fv fo_refcount_Counts_0 (ot rfl)) (by decide) ?_
  refine WL.op (lb 0 rfl sc_s_int (ot rfl) rfl) (by decide) ?_
  refine WL.op (len_ us_s_int (ot rfl)) (by decide) ?_
  refine WL.op (mv (oc _)) (by decide) ?_
  refine WL.nl (.thn ?_)
  refine WP.nilrow 65 3 ?_
  refine WP.block  ?_
  refine WP.loop (fun y : Nat × Value => [.r y.2 65 3 (zs cs y.1).length (((zs cs y.1).map un).flatMap FX), .b b1 25 [sl 1 FI cs]]) (fun y => [(9, I (y.1 : Int)), (8, I (cs.length : Int)), (7, sl 1 FI cs), (3, val y.2)]) (fun y => y.1 ≤ cs.length ∧ y.2.oneCell' = true) (fun y => cs.length - y.1) (0, nilS) ⟨Nat.zero_le _, rfl⟩ (Sub.ofD 0 rfl (Sub.cons rfl (imp_eq rfl) (Sub.cons rfl (imp _) (Sub.cons rfl (imp _) (Sub.cons rfl (imp _) Sub.nil))))) (fun y hi => ?_)
  obtain ⟨i, v⟩ := y
  replace hi : i ≤ cs.length ∧ v.oneCell' = true := hi
  show WP _ _ _ _ [.r v 65 3 (zs cs i).length (((zs cs i).map un).flatMap FX), .b b1 25 [sl 1 FI cs]] [(9, I (i : Int)), (8, I (cs.length : Int)), (7, sl 1 FI cs), (3, val v)] _ _
  refine WP.seq ?_
  refine WP.region ?_
  refine WL.op (lss (ot rfl) (ot rfl)) (by decide) ?_
  refine WL.nl (.thn ?_)
  refine WP.seq ?_
  refine WP.cond rfl (fun hc => ?_) (fun hc => ?_)
  · skip
    have hc1 : i < cs.length := by have := of_decide_eq_true hc; omega
    have hzl := zs_le cs i
    refine WP.sk (.thn ?_)
    refine WP.seq ?_
    refine WP.block ?_
    refine WP.seq ?_
    refine WP.region ?_
    refine WL.op (mv (ot rfl)) (by decide) ?_
    refine WL.op (ixd el_s_int (ot rfl) (ot rfl) (by omega) (by omega)) (by decide) ?_
    refine WL.op (ld sc_int (ot rfl)) (by decide) ?_
    refine WL.op (asg (ot rfl)) (by decide) ?_
    refine WL.op (asg (ot rfl)) (by decide) ?_
    refine WL.nl (.thn ?_)
    refine WP.seq ?_
    refine WP.region ?_
    refine WL.op (mv (ot rfl)) (by decide) ?_
    refine WL.op (eql (ot rfl) (oc _)) (by decide) ?_
    refine WL.nl (.thn ?_)
    refine WP.cond rfl (fun hc => ?_) (fun hc => ?_)
    · skip
      have hz0 : cs.getD i 0 = 0 := by have := of_decide_eq_true hc; rw [show ((i : Nat) : Int).toNat = i from by omega, getI hc1] at this; exact this
      refine WP.region ?_
      refine WL.op (mv (ot rfl)) (by decide) ?_
      refine WL.op (mv (ot rfl)) (by decide) ?_
      refine WL.op (bld zr_Extent rfl ps_Extent (.c (oc _) (.leaf (.val rfl)) pl_Extent_1 rfl (le_ rfl) (.c (ot rfl) (.leaf (.val rfl)) pl_Extent_2 rfl (le_ rfl) .n))) (by decide) ?_
      refine WL.op (bsl1 (f := FX) (el := un (i : Int)) ei_s_api_Extent (ot rfl) (.agg _) rfl (by decide) (by decide)) (by decide) ?_
      refine WL.app 0 rfl ei_s_api_Extent (by decide) (ot rfl) (ot rfl) (by simp) (fun _ => rfl) (by simp only [List.length_singleton]; omega) (by simp only [List.length_singleton]; omega) (by decide) fun v20 h20 => ?_
      refine WL.op (asg (ot rfl)) (by decide) ?_
      refine WL.nl (.blk (.thn ?_))
      refine WP.region ?_
      refine WL.op (add (ot rfl) (oc _) (by omega)) (by decide) ?_
      refine WL.op (mv (ot rfl)) (by decide) ?_
      exact WL.nl (.again (i + 1, v20) ⟨hc1, h20⟩ (by show cs.length - (i + 1) < cs.length - i; omega) (Sub.ofD 0 (Eq.trans (b := [.r v20 65 3 ((zs cs i).length + 1) (((zs cs i).map un).flatMap FX ++ [un (i : Int)].flatMap FX), .b b1 25 [sl 1 FI cs]]) rfl (app2 ((zs_step cs i).trans (congrArg (_ ++ ·) (if_pos hz0))))) (Sub.cons rfl (imp_eq (congrArg I (by omega))) (Sub.cons rfl (imp _) (Sub.cons rfl (imp _) (Sub.cons rfl (imp _) Sub.nil))))))
    · skip
      have hz0 : ¬ cs.getD i 0 = 0 := by have := of_decide_eq_false hc; rw [show ((i : Nat) : Int).toNat = i from by omega, getI hc1] at this; exact this
      refine WP.sk (.blk (.thn ?_))
      refine WP.region ?_
      refine WL.op (add (ot rfl) (oc _) (by omega)) (by decide) ?_
      refine WL.op (mv (ot rfl)) (by decide) ?_
      exact WL.nl (.again (i + 1, v) ⟨hc1, hi.2⟩ (by show cs.length - (i + 1) < cs.length - i; omega) (Sub.ofD 0 (by dsimp only; rw [zs_step, if_neg hz0, List.append_nil]; rfl) (Sub.cons rfl (imp_eq (congrArg I (by omega))) (Sub.cons rfl (imp _) (Sub.cons rfl (imp _) (Sub.cons rfl (imp _) Sub.nil))))))
  · skip
    have hc1 : ¬ i < cs.length := by have := of_decide_eq_false hc; omega
    have hi1 := hi.1
    refine WP.xt (.xthn (.xthn (.xin (.thn ?_))))
    have hL2 : zs cs i = zs cs cs.length := by rw [show i = cs.length from by omega]
    refine WP.freeze 0 3 FX ((zs cs i).map un) rfl (fun _ => rfl) (List.length_map ..).symm rfl rfl ?_
    refine WP.seq ?_
    refine WP.region ?_
    refine WL.op (mv (ot rfl)) (by decide) ?_
    refine WL.op (call (c_extent_Runs (U := zs cs i) (by have := zs_le cs i; omega) (fun u hu => by have := zs_mem.1 hu; omega) sortC) (.c (ot rfl) .n)) (by decide) ?_
    refine WL.op (asg (ot rfl)) (by decide) ?_
    refine WL.nl (.thn ?_)
    exact WP.rt (.r1 rfl rfl (imp_eq (by rw [hL2])))
theorem c_family_Family_Free {f : Fam} (h : Fw0 f) : PureC Tryz.prog 30 [eF f] (sl 3 FX (mruns ((srt (zs f.cs f.cs.length)).map un))) := by
  refine PureC.of_wp Tryz.func30 (by kernel_rfl) rfl Tryz.ntmps30 (le_ rfl) (fun w0 M0 => ?_)
  refine WP.seq ?_
  refine WP.region ?_
  refine WL.box (ot rfl) (.agg _) (by decide) fun b1 => ?_
  refine WL.op (asg (oc _)) (by decide) ?_
  refine WL.nl (.thn ?_)
  refine WP.seq ?_
  refine WP.region ?_
  refine WL.op (fv fo_family_Family_0 (ot rfl)) (by decide) ?_
  refine WL.op (lbs 0 rfl ag_refcount_Counts (ot rfl) (le_ rfl)) (by decide) ?_
  refine WL.op (call (c_refcount_Counts_Zero h.len) (.c (ot rfl) .n)) (by decide) ?_
  refine WL.op (asg (ot rfl)) (by decide) ?_
  refine WL.nl (.thn ?_)
  exact WP.rt (.r1 rfl rfl (imp _))
theorem c_family_Family_Names {f : Fam} (h : f.vs.length ≤ 1000) (hk : ∀ x ∈ f.vs, x.1.size ≤ 1000) : PureC Tryz.prog 22 [eF f] (sl 1 FSt (sortK f.vs)) := by
  refine PureC.of_wp Tryz.func22 (by kernel_rfl) rfl Tryz.ntmps22 (le_ rfl) (fun w0 M0 => ?_)
  refine WP.seq ?_
  refine WP.region ?_
  refine WL.box (ot rfl) (.agg _) (by decide) fun b1 => ?_
  refine WL.op (asg (oc _)) (by decide) ?_
  refine WL.nl (.thn ?_)
  refine WP.seq ?_
  refine WP.region ?_
  refine WL.op (fv fo_family_Family_1 (ot rfl)) (by decide) ?_
  refine WL.op (lb 0 rfl sc_m_string_family_volume (ot rfl) rfl) (by decide) ?_
  refine WL.op (call c_maps_Keys (.c (ot rfl) .n)) (by decide) ?_
  refine WL.op (call (c_slices_Sorted h hk) (.c (ot rfl) .n)) (by decide) ?_
  refine WL.op (asg (ot rfl)) (by decide) ?_
  refine WL.nl (.thn ?_)
  exact WP.rt (.r1 rfl rfl (imp _))
theorem c_family_Family_Lookup {f : Fam} {s : ByteArray} {a : Int} (h : Fw0 f) : PureC Tryz.prog 36 [eF f, val (.string s), I a] (tup [I (fLookup f s a).1, val (.bool (fLookup f s a).2.1), I (fLookup f s a).2.2]) := by
  have hq := h.find s a 1
  refine PureC.of_wp Tryz.func36 (by kernel_rfl) rfl Tryz.ntmps36 (le_ rfl) (fun w0 M0 => ?_)
  refine WP.seq ?_
  refine WP.region ?_
  refine WL.box (ot rfl) (.agg _) (by decide) fun b3 => ?_
  refine WL.op (asg (oc _)) (by decide) ?_
  refine WL.op (asg (oc _)) (by decide) ?_
  refine WL.op (asg (oc _)) (by decide) ?_
  refine WL.nl (.thn ?_)
  refine WP.seq ?_
  refine WP.region ?_
  refine WL.op (lbs 0 rfl ag_family_Family (ot rfl) (le_ rfl)) (by decide) ?_
  refine WL.op (mv (ot rfl)) (by decide) ?_
  refine WL.op (mv (ot rfl)) (by decide) ?_
  refine WL.op (call (c_family_Family_find h) (.c (ot rfl) (.c (ot rfl) (.c (ot rfl) (.c (oc _) .n))))) (by decide) ?_
  refine WL.op (mv (ot rfl)) (by decide) ?_
  refine WL.op (ex (ot rfl) rfl) (by decide) ?_
  refine WL.op (ex (ot rfl) rfl) (by decide) ?_
  refine WL.alloc zr_family_volume rfl (by decide) fun b9 => ?_
  refine WL.store 0 rfl (ot rfl) (ot rfl) (.agg _) sz_family_volume rfl (le_ rfl) ?_
  refine WL.op (asg (ot rfl)) (by decide) ?_
  refine WL.nl (.thn ?_)
  refine WP.seq ?_
  refine WP.seq ?_
  refine WP.region ?_
  refine WL.op (mv (ot rfl)) (by decide) ?_
  refine WL.op (neq (ot rfl) (oc _)) (by decide) ?_
  refine WL.nl (.thn ?_)
  refine WP.cond rfl (fun hc => ?_) (fun hc => ?_)
  · skip
    have e1 : ¬ (fFind f s a 1).2 = 0 := by simpa using hc
    refine WP.seq ?_
    refine WP.region ?_
    refine WL.op (mv (ot rfl)) (by decide) ?_
    refine WL.op (asg (oc _)) (by decide) ?_
    refine WL.op (asg (oc _)) (by decide) ?_
    refine WL.op (asg (ot rfl)) (by decide) ?_
    refine WL.nl (.thn ?_)
    exact WP.rt (.rthn (.rN rfl (.cons (.tm rfl) (.cons (.tm rfl) (.cons (.tm rfl) .nil))) (le_ rfl) (by rw [show fLookup f s a = (0, false, (fFind f s a 1).2) from if_neg e1]; exact imp  _)))
  · skip
    have e1 : (fFind f s a 1).2 = 0 := by simpa using hc
    refine WP.sk (.thn ?_)
    refine WP.seq ?_
    refine WP.region ?_
    refine WL.op (fv fo_family_volume_1 (ot rfl)) (by decide) ?_
    refine WL.op (lbs 0 rfl ag_Tree (ot rfl) (le_ rfl)) (by decide) ?_
    refine WL.op (mv (ot rfl)) (by decide) ?_
    refine WL.op (call (c_x_Tree_Find (t := (fFind f s a 1).1.t) hq.1.2.1) (.c (ot rfl) (.c (ot rfl) .n))) (by decide) ?_
    refine WL.op (mv (ot rfl)) (by decide) ?_
    refine WL.op (ex (ot rfl) rfl) (by decide) ?_
    refine WL.op (ex (ot rfl) rfl) (by decide) ?_
    refine WL.op (asg (ot rfl)) (by decide) ?_
    refine WL.op (asg (ot rfl)) (by decide) ?_
    refine WL.nl (.thn ?_)
    refine WP.seq ?_
    refine WP.region ?_
    refine WL.op (mv (ot rfl)) (by decide) ?_
    refine WL.op (mv (ot rfl)) (by decide) ?_
    refine WL.op (asg (ot rfl)) (by decide) ?_
    refine WL.op (asg (ot rfl)) (by decide) ?_
    refine WL.op (asg (oc _)) (by decide) ?_
    refine WL.nl (.thn ?_)
    exact WP.rt (.rN rfl (.cons (.tm rfl) (.cons (.tm rfl) (.cons (.tm rfl) .nil))) (le_ rfl) (by rw [show fLookup f s a = ((sem (fFind f s a 1).1.t.list a).getD 0, (sem (fFind f s a 1).1.t.list a).isSome, 0) from if_pos e1]; exact imp  _))
theorem c_family_Family_Range {f : Fam} {s : ByteArray} {a n : Int} (h : Fw0 f) : PureC Tryz.prog 26 [eF f, val (.string s), I a, I n] (tup [sl 3 FX (fRange f s a n).1, I (fRange f s a n).2]) := by
  have hq := h.find s a n
  refine PureC.of_wp Tryz.func26 (by kernel_rfl) rfl Tryz.ntmps26 (le_ rfl) (fun w0 M0 => ?_)
  refine WP.seq ?_
  refine WP.region ?_
  refine WL.box (ot rfl) (.agg _) (by decide) fun b4 => ?_
  refine WL.op (asg (oc _)) (by decide) ?_
  refine WL.op (asg (oc _)) (by decide) ?_
  refine WL.nl (.thn ?_)
  refine WP.seq ?_
  refine WP.region ?_
  refine WL.op (lbs 0 rfl ag_family_Family (ot rfl) (le_ rfl)) (by decide) ?_
  refine WL.op (mv (ot rfl)) (by decide) ?_
  refine WL.op (mv (ot rfl)) (by decide) ?_
  refine WL.op (mv (ot rfl)) (by decide) ?_
  refine WL.op (call (c_family_Family_find h) (.c (ot rfl) (.c (ot rfl) (.c (ot rfl) (.c (ot rfl) .n))))) (by decide) ?_
  refine WL.op (mv (ot rfl)) (by decide) ?_
  refine WL.op (ex (ot rfl) rfl) (by decide) ?_
  refine WL.op (ex (ot rfl) rfl) (by decide) ?_
  refine WL.alloc zr_family_volume rfl (by decide) fun b10 => ?_
  refine WL.store 0 rfl (ot rfl) (ot rfl) (.agg _) sz_family_volume rfl (le_ rfl) ?_
  refine WL.op (asg (ot rfl)) (by decide) ?_
  refine WL.nl (.thn ?_)
  refine WP.seq ?_
  refine WP.region ?_
  refine WL.op (fv fo_family_volume_1 (ot rfl)) (by decide) ?_
  refine WL.op (lbs 0 rfl ag_Tree (ot rfl) (le_ rfl)) (by decide) ?_
  refine WL.op (mv (ot rfl)) (by decide) ?_
  refine WL.op (mv (ot rfl)) (by decide) ?_
  refine WL.op (call (c_x_Tree_Range (t := (fFind f s a n).1.t) hq.1) (.c (ot rfl) (.c (ot rfl) (.c (ot rfl) .n)))) (by decide) ?_
  refine WL.op (mv (ot rfl)) (by decide) ?_
  refine WL.op (asg (ot rfl)) (by decide) ?_
  refine WL.op (asg (ot rfl)) (by decide) ?_
  refine WL.nl (.thn ?_)
  exact WP.rt (.rN rfl (.cons (.tm rfl) (.cons (.tm rfl) .nil)) (le_ rfl) (imp _))
end Go.Proofs.YtjglgfnhgehpeaaGreat

/- Parts: FmB, FmC, LawJ, KeyL. -/
import Derived.Test.YtjglgfnhgehpeaaGreatYo
import Derived.Test.YtjglgfnhgehpeaaGreatYn
import Derived.Shelf.SlGeneric
import Derived.Shelf.SlIter.Nil
import Derived.Shelf.SortM.Plain
import Derived.Shelf.SortM.SortNone
import Derived.Test.YtjglgfnhgehpeaaGreatProg
/- Families: changes. -/
set_option linter.unusedVariables false
set_option linter.unusedSimpArgs false
set_option maxRecDepth 4000
namespace Go.Proofs.YtjglgfnhgehpeaaGreat
open Go.RowKit Go.Fw Go.Xt
theorem eF0 : ∀ v w M, (agg [val nilS, val (.map none)]).h v w M → (eF default).h v w M := impA (.c sl_nil (.c mp_nil .n))
theorem mps_arg {f : Fam} {s : ByteArray} {v : Vol} (hl : lookK s f.vs = some v) : ∀ u w M, (eF f).h u w M → (agg [sl 1 FI f.cs, mps FV f.vs]).h u w M := fun u w M hu => by
  obtain ⟨us, rfl, hus⟩ := hu
  match us, hus with
  | [x, y], ⟨k1, ⟨k2, k3⟩, _⟩ =>
    rcases k2 with ⟨_, k2⟩ | k2
    · rw [k2] at hl; cases hl
    · exact ⟨_, rfl, k1, ⟨k2, k3⟩, trivial⟩
theorem c_family_Family_Create {f : Fam} {s : ByteArray} {n r : Int} (hs : s.size ≤ 9223372036854775807) : PureC Tryz.prog 19 [eF f, val (.string s), I n, I r] (tup [eF (fCreate f s n r).1, I (fCreate f s n r).2]) := by
  refine PureC.of_wp Tryz.func19 (by kernel_rfl) rfl Tryz.ntmps19 (le_ rfl) (fun w0 M0 => ?_)
  refine WP.seq ?_
  refine WP.region ?_
  refine WL.box (ot rfl) (.agg _) (by decide) fun b4 => ?_
  refine WL.alloc zr_family_Family rfl (by decide) fun b8 => ?_
  refine WL.op (asg (oc _)) (by decide) ?_
  refine WL.nl (.thn ?_)
  refine WP.seq ?_
  refine WP.seq ?_
  refine WP.region ?_
  refine WL.op (mv (ot rfl)) (by decide) ?_
  refine WL.op (call (c_family_Name hs) (.c (ot rfl) .n)) (by decide) ?_
  refine WL.op (not_ (ot rfl)) (by decide) ?_
  refine WL.op (mv (ot rfl)) (by decide) ?_
  refine WL.gd rfl rfl (Tells.v _ _) (fun hg => mv (ot rfl)) (by decide) ?_
  refine WL.gd rfl rfl (Tells.v _ _) (fun hg => lss (og rfl hg) (oc _)) (by decide) ?_
  refine WL.op (or_ (ot rfl) (ot rfl)) (by decide) ?_
  refine WL.op (mv (ot rfl)) (by decide) ?_
  refine WL.gd rfl rfl (Tells.v _ _) (fun hg => mv (ot rfl)) (by decide) ?_
  refine WL.gd rfl rfl (Tells.v _ _) (fun hg => gtr (og rfl hg) (oc _)) (by decide) ?_
  refine WL.op (or_ (ot rfl) (ot rfl)) (by decide) ?_
  refine WL.op (mv (ot rfl)) (by decide) ?_
  refine WL.gd rfl rfl (Tells.v _ _) (fun hg => mv (ot rfl)) (by decide) ?_
  refine WL.gd rfl rfl (Tells.v _ _) (fun hg => lss (og rfl hg) (oc _)) (by decide) ?_
  refine WL.op (or_ (ot rfl) (ot rfl)) (by decide) ?_
  refine WL.op (mv (ot rfl)) (by decide) ?_
  refine WL.gd rfl rfl (Tells.v _ _) (fun hg => mv (ot rfl)) (by decide) ?_
  refine WL.gd rfl rfl (Tells.v _ _) (fun hg => mv (ot rfl)) (by decide) ?_
  refine WL.gd rfl rfl (Tells.v _ _) (fun hg => gtr (og rfl hg) (og rfl hg)) (by decide) ?_
  refine WL.op (or_ (ot rfl) (ot rfl)) (by decide) ?_
  refine WL.nl (.thn ?_)
  refine WP.cond rfl (fun hc => ?_) (fun hc => ?_)
  · skip
    have hb : badN s n r := by simpa only [badN, Bool.or_eq_true, Bool.not_eq_true', decide_eq_true_eq, or_assoc] using hc
    refine WP.seq ?_
    refine WP.region ?_
    refine WL.op (bld zr_family_Family rfl ps_family_Family .n) (by decide) ?_
    refine WL.store 0 rfl (ot rfl) (ot rfl) (.agg _) sz_family_Family rfl (le_ rfl) ?_
    refine WL.op (asg (oc _)) (by decide) ?_
    refine WL.nl (.thn ?_)
    exact WP.rt (.rthn (.rN rfl (.cons (.bx 0 rfl rfl ag_family_Family) (.cons (.tm rfl) .nil)) (le_ rfl) (by rw [show fCreate f s n r = (default, 1) from if_pos hb]; exact impT (.c eF0 (.c (imp  _) .n)))))
  · skip
    have hb : ¬ badN s n r := fun hb => by
      unfold badN at hb
      simp only [Bool.or_eq_false_iff, Bool.not_eq_false', decide_eq_false_iff_not] at hc
      obtain ⟨⟨⟨⟨h1, h2⟩, h3⟩, h4⟩, h5⟩ := hc
      rw [h1] at hb
      rcases hb with h | h | h | h | h
      · cases h
      all_goals omega
    refine WP.sk (.thn ?_)
    refine WP.seq ?_
    refine WP.seq ?_
    refine WP.region ?_
    refine WL.op (lbs 1 rfl ag_family_Family (ot rfl) (le_ rfl)) (by decide) ?_
    refine WL.op (mv (ot rfl)) (by decide) ?_
    refine WL.op (call c_family_Family_vacant (.c (ot rfl) (.c (ot rfl) .n))) (by decide) ?_
    refine WL.op (asg (ot rfl)) (by decide) ?_
    refine WL.nl (.thn ?_)
    refine WP.seq ?_
    refine WP.region ?_
    refine WL.op (mv (ot rfl)) (by decide) ?_
    refine WL.op (neq (ot rfl) (oc _)) (by decide) ?_
    refine WL.nl (.thn ?_)
    refine WP.cond rfl (fun hc => ?_) (fun hc => ?_)
    · skip
      have hv : ¬ vac f s = 0 := by simpa using hc
      refine WP.seq ?_
      refine WP.region ?_
      refine WL.op (bld zr_family_Family rfl ps_family_Family .n) (by decide) ?_
      refine WL.op (mv (ot rfl)) (by decide) ?_
      refine WL.store 0 rfl (ot rfl) (ot rfl) (.agg _) sz_family_Family rfl (le_ rfl) ?_
      refine WL.op (asg (ot rfl)) (by decide) ?_
      refine WL.nl (.thn ?_)
      exact WP.rt (.rthn (.rN rfl (.cons (.bx 0 rfl rfl ag_family_Family) (.cons (.tm rfl) .nil)) (le_ rfl) (by rw [show fCreate f s n r = (default, vac f s) from (if_neg hb).trans (if_neg hv)]; exact impT (.c eF0 (.c (imp  _) .n)))))
    · skip
      have hv : vac f s = 0 := by simpa using hc
      refine WP.sk (.thn ?_)
      refine WP.seq ?_
      refine WP.region ?_
      refine WL.op (lbs 1 rfl ag_family_Family (ot rfl) (le_ rfl)) (by decide) ?_
      refine WL.op (fv fo_family_Family_0 (ot rfl)) (by decide) ?_
      refine WL.op (lbs 1 rfl ag_refcount_Counts (ot rfl) (le_ rfl)) (by decide) ?_
      refine WL.op (mv (ot rfl)) (by decide) ?_
      refine WL.op (mv (ot rfl)) (by decide) ?_
      refine WL.op (mv (ot rfl)) (by decide) ?_
      refine WL.op (bld zr_family_size rfl ps_family_size (.c (ot rfl) (.leaf (.val rfl)) pl_family_size_0 rfl (le_ rfl) (.c (ot rfl) (.leaf (.val rfl)) pl_family_size_1 rfl (le_ rfl) .n))) (by decide) ?_
      refine WL.op (bld zr_family_volume rfl ps_family_volume (.c (ot rfl) (.agg _) pl_family_volume_0 rfl (le_ rfl) .n)) (by decide) ?_
      refine WL.op (call (c_family_Family_with (v := ⟨n, r, .nil⟩)) (.c (ot rfl) (.c (ot rfl) (.c (ot rfl) (.c (ot rfl) .n))))) (by decide) ?_
      refine WL.store 0 rfl (ot rfl) (ot rfl) (.agg _) sz_family_Family rfl (le_ rfl) ?_
      refine WL.op (asg (oc _)) (by decide) ?_
      refine WL.nl (.thn ?_)
      exact WP.rt (.rN rfl (.cons (.bx 0 rfl rfl ag_family_Family) (.cons (.tm rfl) .nil)) (le_ rfl) (by rw [show fCreate f s n r = (⟨f.cs, putK s ⟨n, r, .nil⟩ f.vs⟩, 0) from (if_neg hb).trans (if_pos hv)]; exact imp  _))
theorem c_Delete_none {f : Fam} {s : ByteArray} (hl : lookK s f.vs = none) : PureC Tryz.prog 32 [eF f, val (.string s)] (tup [eF (fDelete f s).1, sl 3 FX (fDelete f s).2.1, I (fDelete f s).2.2]) := by
  refine PureC.of_wp Tryz.func32 (by kernel_rfl) rfl Tryz.ntmps32 (le_ rfl) (fun w0 M0 => ?_)
  refine WP.seq ?_
  refine WP.region ?_
  refine WL.box (ot rfl) (.agg _) (by decide) fun b2 => ?_
  refine WL.alloc zr_family_Family rfl (by decide) fun b4 => ?_
  refine WL.op (asg (oc _)) (by decide) ?_
  refine WL.op (asg (oc _)) (by decide) ?_
  refine WL.nl (.thn ?_)
  refine WP.seq ?_
  refine WP.region ?_
  refine WL.op (fv fo_family_Family_1 (ot rfl)) (by decide) ?_
  refine WL.op (lb 1 rfl sc_m_string_family_volume (ot rfl) rfl) (by decide) ?_
  refine WL.op (mv (ot rfl)) (by decide) ?_
  refine WL.op (lkN um_m_string_family_volume un_string zg_family_volume rfl (ot rfl) (ot rfl) hl) (by decide) ?_
  refine WL.op (mv (ot rfl)) (by decide) ?_
  refine WL.op (ex (ot rfl) rfl) (by decide) ?_
  refine WL.op (ex (ot rfl) rfl) (by decide) ?_
  refine WL.alloc zr_family_volume rfl (by decide) fun b7 => ?_
  refine WL.store 0 rfl (ot rfl) (ot rfl) (.agg _) sz_family_volume rfl (le_ rfl) ?_
  refine WL.op (asg (ot rfl)) (by decide) ?_
  refine WL.nl (.thn ?_)
  refine WP.seq ?_
  refine WP.seq ?_
  refine WP.region ?_
  refine WL.op (mv (ot rfl)) (by decide) ?_
  refine WL.op (not_ (ot rfl)) (by decide) ?_
  refine WL.nl (.thn ?_)
  refine WP.condT rfl ?_
  refine WP.seq ?_
  refine WP.region ?_
  refine WL.op (bld zr_family_Family rfl ps_family_Family .n) (by decide) ?_
  refine WL.store 1 rfl (ot rfl) (ot rfl) (.agg _) sz_family_Family rfl (le_ rfl) ?_
  refine WL.op (asg (oc _)) (by decide) ?_
  refine WL.op (asg (oc _)) (by decide) ?_
  refine WL.nl (.thn ?_)
  exact WP.rt (.rthn (.rN rfl (.cons (.bx 1 rfl rfl ag_family_Family) (.cons (.tm rfl) (.cons (.tm rfl) .nil))) (le_ rfl) (by rw [show fDelete f s = (default, [], 9) from by rw [fDelete, hl]]; exact impT (.c eF0 (.c sl_nil (.c (imp  _) .n))))))
theorem c_Delete_some {f : Fam} {s : ByteArray} {v : Vol} (h : Fw0 f) (hl : lookK s f.vs = some v) : PureC Tryz.prog 32 [agg [sl 1 FI f.cs, mps FV f.vs], val (.string s)] (tup [eF (fDelete f s).1, sl 3 FX (fDelete f s).2.1, I (fDelete f s).2.2]) := by
  have hv : Wt v.t ∧ 0 ≤ v.n ∧ v.n ≤ 65536 ∧ permB f.cs.length v.t.list = true := h.vol _ (lookK_mem hl)
  refine PureC.of_wp Tryz.func32 (by kernel_rfl) rfl Tryz.ntmps32 (le_ rfl) (fun w0 M0 => ?_)
  refine WP.seq ?_
  refine WP.region ?_
  refine WL.box (ot rfl) (.agg _) (by decide) fun b2 => ?_
  refine WL.alloc zr_family_Family rfl (by decide) fun b4 => ?_
  refine WL.op (asg (oc _)) (by decide) ?_
  refine WL.op (asg (oc _)) (by decide) ?_
  refine WL.nl (.thn ?_)
  refine WP.seq ?_
  refine WP.region ?_
  refine WL.op (fv fo_family_Family_1 (ot rfl)) (by decide) ?_
  refine WL.op (lb 1 rfl sc_m_string_family_volume (ot rfl) rfl) (by decide) ?_
  refine WL.op (mv (ot rfl)) (by decide) ?_
  refine WL.op (lkS um_m_string_family_volume un_string zg_family_volume rfl (OF.weak (ot rfl) mps_mp) (ot rfl) hl) (by decide) ?_
  refine WL.op (mv (ot rfl)) (by decide) ?_
  refine WL.op (ex (ot rfl) rfl) (by decide) ?_
  refine WL.op (ex (ot rfl) rfl) (by decide) ?_
  refine WL.alloc zr_family_volume rfl (by decide) fun b7 => ?_
  refine WL.store 0 rfl (ot rfl) (ot rfl) (.agg _) sz_family_volume rfl (le_ rfl) ?_
  refine WL.op (asg (ot rfl)) (by decide) ?_
  refine WL.nl (.thn ?_)
  refine WP.seq ?_
  refine WP.seq ?_
  refine WP.region ?_
  refine WL.op (mv (ot rfl)) (by decide) ?_
  refine WL.op (not_ (ot rfl)) (by decide) ?_
  refine WL.nl (.thn ?_)
  refine WP.condF rfl ?_
  refine WP.sk (.thn ?_)
  refine WP.seq ?_
  refine WP.draws ?_
  refine RG.op (fv fo_family_Family_0 (ot rfl)) ?_
  refine RG.op (lbs 2 rfl ag_refcount_Counts (ot rfl) (le_ rfl)) ?_
  refine RG.op (lbs 0 rfl ag_family_volume (ot rfl) (le_ rfl)) ?_
  refine RG.op (call (c_family_volume_extents (v := v) (by have := ok_len hv.1.2.1; omega)) (.c (ot rfl) .n)) ?_
  refine RG.op (call (c_refcount_Counts_Drop sortC h.Cb (by have := ok_len hv.1.2.1; omega) (frd_ok hv.1.2.1)) (.c (ot rfl) (.c (ot rfl) .n))) ?_
  refine RG.op (mv (ot rfl)) ?_
  refine RG.op (ex (ot rfl) rfl) ?_
  refine RG.op (ex (ot rfl) rfl) ?_
  refine RG.op (ex (ot rfl) rfl) ?_
  refine RG.bx (.alloc zr_refcount_Counts rfl) ?_
  refine RG.ox 9 rfl rfl (OpO.store (ot rfl) (.agg _) sz_refcount_Counts rfl rfl) ?_
  refine RG.op (asg (ot rfl)) ?_
  refine RG.op (asg (ot rfl)) ?_
  refine RG.fin HM (by kernel_rfl) ?_
  intro b9
  show WL _ _ _ _ _ _ _ _ _
  refine WL.nl (.thn ?_)
  refine WP.seq ?_
  refine WP.seq ?_
  refine WP.region ?_
  refine WL.op (mv (ot rfl)) (by decide) ?_
  refine WL.op (neq (ot rfl) (oc _)) (by decide) ?_
  refine WL.nl (.thn ?_)
  refine WP.cond rfl (fun hc => ?_) (fun hc => ?_)
  · skip
    have e1 : ¬ (dropE f.cs v.t.list).2.2 = 0 := by simpa using hc
    refine WP.seq ?_
    refine WP.region ?_
    refine WL.op (bld zr_family_Family rfl ps_family_Family .n) (by decide) ?_
    refine WL.op (mv (ot rfl)) (by decide) ?_
    refine WL.store 2 rfl (ot rfl) (ot rfl) (.agg _) sz_family_Family rfl (le_ rfl) ?_
    refine WL.op (asg (oc _)) (by decide) ?_
    refine WL.op (asg (ot rfl)) (by decide) ?_
    refine WL.nl (.thn ?_)
    exact WP.rt (.rthn (.rN rfl (.cons (.bx 2 rfl rfl ag_family_Family) (.cons (.tm rfl) (.cons (.tm rfl) .nil))) (le_ rfl) (by rw [show fDelete f s = (default, [], (dropE f.cs v.t.list).2.2) from by simp only [fDelete, hl]; exact if_neg e1]; exact impT (.c eF0 (.c sl_nil (.c (imp  _) .n))))))
  · skip
    have e1 : (dropE f.cs v.t.list).2.2 = 0 := by simpa using hc
    refine WP.sk (.thn ?_)
    refine WP.seq ?_
    refine WP.region ?_
    refine WL.op (fv fo_family_Family_1 (ot rfl)) (by decide) ?_
    refine WL.op (lb 3 rfl sc_m_string_family_volume (ot rfl) rfl) (by decide) ?_
    refine WL.cloneM c_maps_Clone (ot rfl) (by decide) fun g38 => ?_
    refine WL.op (asg (ot rfl)) (by decide) ?_
    refine WL.nl (.thn ?_)
    refine WP.seq ?_
    refine WP.region ?_
    refine WL.op (mv (ot rfl)) (by decide) ?_
    refine WL.op (mv (ot rfl)) (by decide) ?_
    refine WL.mapDel 0 rfl um_m_string_family_volume un_string (ot rfl) (ot rfl) ?_
    refine WL.nl (.thn ?_)
    refine WP.freezeM 0 12 FV (delK s f.vs) rfl (delK_map FV s f.vs) rfl ?_
    refine WP.seq ?_
    refine WP.region ?_
    refine WL.op (lbs 1 rfl ag_refcount_Counts (ot rfl) (le_ rfl)) (by decide) ?_
    refine WL.op (mv (ot rfl)) (by decide) ?_
    refine WL.op (bld zr_family_Family rfl ps_family_Family (.c (ot rfl) (.agg _) pl_family_Family_0 rfl (le_ rfl) (.c (ot rfl) (.leaf leaf_mp) pl_family_Family_1 rfl (le_ rfl) .n))) (by decide) ?_
    refine WL.op (mv (ot rfl)) (by decide) ?_
    refine WL.store 3 rfl (ot rfl) (ot rfl) (.agg _) sz_family_Family rfl (le_ rfl) ?_
    refine WL.op (asg (ot rfl)) (by decide) ?_
    refine WL.op (asg (oc _)) (by decide) ?_
    refine WL.nl (.thn ?_)
    exact WP.rt (.rN rfl (.cons (.bx 3 rfl rfl ag_family_Family) (.cons (.tm rfl) (.cons (.tm rfl) .nil))) (le_ rfl) (by rw [show fDelete f s = (⟨(dropE f.cs v.t.list).1, delK s f.vs⟩, (dropE f.cs v.t.list).2.1, 0) from by simp only [fDelete, hl]; exact if_pos e1]; exact imp  _))
theorem c_family_Family_Delete {f : Fam} {s : ByteArray} (h : Fw0 f) : PureC Tryz.prog 32 [eF f, val (.string s)] (tup [eF (fDelete f s).1, sl 3 FX (fDelete f s).2.1, I (fDelete f s).2.2]) := by
  cases hl : lookK s f.vs with
  | none => exact c_Delete_none hl
  | some v => exact PureC.imp1 (mps_arg hl) (c_Delete_some h hl)
theorem c_Clone_none {f : Fam} {s o : ByteArray} (hl : lookK s f.vs = none) : PureC Tryz.prog 21 [eF f, val (.string s), val (.string o)] (tup [eF (fClone f s o).1, I (fClone f s o).2]) := by
  refine PureC.of_wp Tryz.func21 (by kernel_rfl) rfl Tryz.ntmps21 (le_ rfl) (fun w0 M0 => ?_)
  refine WP.seq ?_
  refine WP.region ?_
  refine WL.box (ot rfl) (.agg _) (by decide) fun b3 => ?_
  refine WL.alloc zr_family_Family rfl (by decide) fun b6 => ?_
  refine WL.op (asg (oc _)) (by decide) ?_
  refine WL.nl (.thn ?_)
  refine WP.seq ?_
  refine WP.region ?_
  refine WL.op (fv fo_family_Family_1 (ot rfl)) (by decide) ?_
  refine WL.op (lb 1 rfl sc_m_string_family_volume (ot rfl) rfl) (by decide) ?_
  refine WL.op (mv (ot rfl)) (by decide) ?_
  refine WL.op (lkN um_m_string_family_volume un_string zg_family_volume rfl (ot rfl) (ot rfl) hl) (by decide) ?_
  refine WL.op (mv (ot rfl)) (by decide) ?_
  refine WL.op (ex (ot rfl) rfl) (by decide) ?_
  refine WL.op (ex (ot rfl) rfl) (by decide) ?_
  refine WL.alloc zr_family_volume rfl (by decide) fun b8 => ?_
  refine WL.store 0 rfl (ot rfl) (ot rfl) (.agg _) sz_family_volume rfl (le_ rfl) ?_
  refine WL.op (asg (ot rfl)) (by decide) ?_
  refine WL.nl (.thn ?_)
  refine WP.seq ?_
  refine WP.block ?_
  refine WP.seq ?_
  refine WP.region ?_
  refine WL.op (mv (ot rfl)) (by decide) ?_
  refine WL.op (not_ (ot rfl)) (by decide) ?_
  refine WL.op (asg (ot rfl)) (by decide) ?_
  refine WL.nl (.thn ?_)
  refine WP.condT rfl ?_
  refine WP.seq ?_
  refine WP.region ?_
  refine WL.op (bld zr_family_Family rfl ps_family_Family .n) (by decide) ?_
  refine WL.store 1 rfl (ot rfl) (ot rfl) (.agg _) sz_family_Family rfl (le_ rfl) ?_
  refine WL.op (asg (oc _)) (by decide) ?_
  refine WL.nl (.thn ?_)
  exact WP.rt (.rblk (.rthn (.rN rfl (.cons (.bx 1 rfl rfl ag_family_Family) (.cons (.tm rfl) .nil)) (le_ rfl) (by rw [show fClone f s o = (default, 9) from by rw [fClone, hl]]; exact impT (.c eF0 (.c (imp  _) .n))))))
theorem c_Clone_some {f : Fam} {s o : ByteArray} {v : Vol} (ho : o.size ≤ 9223372036854775807) (h : Fw0 f) (hl : lookK s f.vs = some v) : PureC Tryz.prog 21 [eF f, val (.string s), val (.string o)] (tup [eF (fClone f s o).1, I (fClone f s o).2]) := by
  have hv : Wt v.t ∧ 0 ≤ v.n ∧ v.n ≤ 65536 ∧ permB f.cs.length v.t.list = true := h.vol _ (lookK_mem hl)
  refine PureC.of_wp Tryz.func21 (by kernel_rfl) rfl Tryz.ntmps21 (le_ rfl) (fun w0 M0 => ?_)
  refine WP.seq ?_
  refine WP.region ?_
  refine WL.box (ot rfl) (.agg _) (by decide) fun b3 => ?_
  refine WL.alloc zr_family_Family rfl (by decide) fun b6 => ?_
  refine WL.op (asg (oc _)) (by decide) ?_
  refine WL.nl (.thn ?_)
  refine WP.seq ?_
  refine WP.region ?_
  refine WL.op (fv fo_family_Family_1 (ot rfl)) (by decide) ?_
  refine WL.op (lb 1 rfl sc_m_string_family_volume (ot rfl) rfl) (by decide) ?_
  refine WL.op (mv (ot rfl)) (by decide) ?_
  refine WL.op (lkS um_m_string_family_volume un_string zg_family_volume rfl (ot rfl) (ot rfl) hl) (by decide) ?_
  refine WL.op (mv (ot rfl)) (by decide) ?_
  refine WL.op (ex (ot rfl) rfl) (by decide) ?_
  refine WL.op (ex (ot rfl) rfl) (by decide) ?_
  refine WL.alloc zr_family_volume rfl (by decide) fun b8 => ?_
  refine WL.store 0 rfl (ot rfl) (ot rfl) (.agg _) sz_family_volume rfl (le_ rfl) ?_
  refine WL.op (asg (ot rfl)) (by decide) ?_
  refine WL.nl (.thn ?_)
  refine WP.seq ?_
  refine WP.block ?_
  refine WP.seq ?_
  refine WP.region ?_
  refine WL.op (mv (ot rfl)) (by decide) ?_
  refine WL.op (not_ (ot rfl)) (by decide) ?_
  refine WL.op (asg (ot rfl)) (by decide) ?_
  refine WL.nl (.thn ?_)
  refine WP.condF rfl ?_
  refine WP.seq ?_
  refine WP.region ?_
  refine WL.op (mv (ot rfl)) (by decide) ?_
  refine WL.op (call (c_family_Name ho) (.c (ot rfl) .n)) (by decide) ?_
  refine WL.op (not_ (ot rfl)) (by decide) ?_
  refine WL.op (asg (ot rfl)) (by decide) ?_
  refine WL.nl (.thn ?_)
  refine WP.cond rfl (fun hc => ?_) (fun hc => ?_)
  · skip
    have hb : nameE o = false := by simpa using hc
    refine WP.seq ?_
    refine WP.region ?_
    refine WL.op (bld zr_family_Family rfl ps_family_Family .n) (by decide) ?_
    refine WL.store 1 rfl (ot rfl) (ot rfl) (.agg _) sz_family_Family rfl (le_ rfl) ?_
    refine WL.op (asg (oc _)) (by decide) ?_
    refine WL.nl (.thn ?_)
    exact WP.rt (.rblk (.rthn (.rN rfl (.cons (.bx 1 rfl rfl ag_family_Family) (.cons (.tm rfl) .nil)) (le_ rfl) (by rw [show fClone f s o = (default, 1) from by simp only [fClone, hl]; exact if_pos hb]; exact impT (.c eF0 (.c (imp  _) .n))))))
  · skip
    have hb : ¬ nameE o = false := by simpa using hc
    refine WP.sk (.blk (.thn ?_))
    refine WP.seq ?_
    refine WP.seq ?_
    refine WP.region ?_
    refine WL.op (lbs 2 rfl ag_family_Family (ot rfl) (le_ rfl)) (by decide) ?_
    refine WL.op (mv (ot rfl)) (by decide) ?_
    refine WL.op (call c_family_Family_vacant (.c (ot rfl) (.c (ot rfl) .n))) (by decide) ?_
    refine WL.op (asg (ot rfl)) (by decide) ?_
    refine WL.nl (.thn ?_)
    refine WP.seq ?_
    refine WP.region ?_
    refine WL.op (mv (ot rfl)) (by decide) ?_
    refine WL.op (neq (ot rfl) (oc _)) (by decide) ?_
    refine WL.nl (.thn ?_)
    refine WP.cond rfl (fun hc => ?_) (fun hc => ?_)
    · skip
      have hc2 : ¬ vac f o = 0 := by simpa using hc
      refine WP.seq ?_
      refine WP.region ?_
      refine WL.op (bld zr_family_Family rfl ps_family_Family .n) (by decide) ?_
      refine WL.op (mv (ot rfl)) (by decide) ?_
      refine WL.store 1 rfl (ot rfl) (ot rfl) (.agg _) sz_family_Family rfl (le_ rfl) ?_
      refine WL.op (asg (ot rfl)) (by decide) ?_
      refine WL.nl (.thn ?_)
      exact WP.rt (.rthn (.rN rfl (.cons (.bx 1 rfl rfl ag_family_Family) (.cons (.tm rfl) .nil)) (le_ rfl) (by rw [show fClone f s o = (default, vac f o) from by simp only [fClone, hl]; exact (if_neg hb).trans (if_neg hc2)]; exact impT (.c eF0 (.c (imp  _) .n)))))
    · skip
      have hc2 : vac f o = 0 := by simpa using hc
      refine WP.sk (.thn ?_)
      refine WP.seq ?_
      refine WP.draws ?_
      refine RG.op (fv fo_family_Family_0 (ot rfl)) ?_
      refine RG.op (lbs 2 rfl ag_refcount_Counts (ot rfl) (le_ rfl)) ?_
      refine RG.op (lbs 0 rfl ag_family_volume (ot rfl) (le_ rfl)) ?_
      refine RG.op (call (c_family_volume_extents (v := v) (by have := ok_len hv.1.2.1; omega)) (.c (ot rfl) .n)) ?_
      refine RG.op (call (c_refcount_Counts_Add h.Cb (by have := ok_len hv.1.2.1; omega)) (.c (ot rfl) (.c (ot rfl) .n))) ?_
      refine RG.op (mv (ot rfl)) ?_
      refine RG.op (ex (ot rfl) rfl) ?_
      refine RG.op (ex (ot rfl) rfl) ?_
      refine RG.bx (.alloc zr_refcount_Counts rfl) ?_
      refine RG.ox 8 rfl rfl (OpO.store (ot rfl) (.agg _) sz_refcount_Counts rfl rfl) ?_
      refine RG.op (asg (ot rfl)) ?_
      refine RG.fin HM (by kernel_rfl) ?_
      intro b11
      show WL _ _ _ _ _ _ _ _ _
      refine WL.nl (.thn ?_)
      refine WP.seq ?_
      refine WP.seq ?_
      refine WP.region ?_
      refine WL.op (mv (ot rfl)) (by decide) ?_
      refine WL.op (neq (ot rfl) (oc _)) (by decide) ?_
      refine WL.nl (.thn ?_)
      refine WP.cond rfl (fun hc => ?_) (fun hc => ?_)
      · skip
        have e1 : ¬ (addE f.cs v.t.list).2 = 0 := by simpa using hc
        refine WP.seq ?_
        refine WP.region ?_
        refine WL.op (bld zr_family_Family rfl ps_family_Family .n) (by decide) ?_
        refine WL.op (mv (ot rfl)) (by decide) ?_
        refine WL.store 2 rfl (ot rfl) (ot rfl) (.agg _) sz_family_Family rfl (le_ rfl) ?_
        refine WL.op (asg (ot rfl)) (by decide) ?_
        refine WL.nl (.thn ?_)
        exact WP.rt (.rthn (.rN rfl (.cons (.bx 2 rfl rfl ag_family_Family) (.cons (.tm rfl) .nil)) (le_ rfl) (by rw [show fClone f s o = (default, (addE f.cs v.t.list).2) from by simp only [fClone, hl]; exact (if_neg hb).trans ((if_pos hc2).trans (if_neg e1))]; exact impT (.c eF0 (.c (imp  _) .n)))))
      · skip
        have e1 : (addE f.cs v.t.list).2 = 0 := by simpa using hc
        refine WP.sk (.thn ?_)
        refine WP.seq ?_
        refine WP.region ?_
        refine WL.op (fv fo_family_volume_0 (ot rfl)) (by decide) ?_
        refine WL.op (fv fo_family_size_1 (ot rfl)) (by decide) ?_
        refine WL.store 1 rfl (ot rfl) (oc _) (.leaf (.val rfl)) sz_int rfl (le_ rfl) ?_
        refine WL.nl (.thn ?_)
        refine WP.seq ?_
        refine WP.region ?_
        refine WL.op (lbs 3 rfl ag_family_Family (ot rfl) (le_ rfl)) (by decide) ?_
        refine WL.op (lbs 0 rfl ag_refcount_Counts (ot rfl) (le_ rfl)) (by decide) ?_
        refine WL.op (mv (ot rfl)) (by decide) ?_
        refine WL.op (lbs 1 rfl ag_family_volume (ot rfl) (le_ rfl)) (by decide) ?_
        refine WL.op (call (c_family_Family_with (v := ⟨v.n, 0, v.t⟩)) (.c (ot rfl) (.c (ot rfl) (.c (ot rfl) (.c (ot rfl) .n))))) (by decide) ?_
        refine WL.store 2 rfl (ot rfl) (ot rfl) (.agg _) sz_family_Family rfl (le_ rfl) ?_
        refine WL.op (asg (oc _)) (by decide) ?_
        refine WL.nl (.thn ?_)
        exact WP.rt (.rN rfl (.cons (.bx 2 rfl rfl ag_family_Family) (.cons (.tm rfl) .nil)) (le_ rfl) (by rw [show fClone f s o = (⟨(addE f.cs v.t.list).1, putK o ⟨v.n, 0, v.t⟩ f.vs⟩, 0) from by simp only [fClone, hl]; exact (if_neg hb).trans ((if_pos hc2).trans (if_pos e1))]; exact imp  _))
theorem c_family_Family_Clone {f : Fam} {s o : ByteArray} (ho : o.size ≤ 9223372036854775807) (h : Fw0 f) : PureC Tryz.prog 21 [eF f, val (.string s), val (.string o)] (tup [eF (fClone f s o).1, I (fClone f s o).2]) := by
  cases hl : lookK s f.vs with
  | none => exact c_Clone_none hl
  | some v => exact c_Clone_some ho h hl
end Go.Proofs.YtjglgfnhgehpeaaGreat

/- Families: mapping, what is told. -/
set_option linter.unusedVariables false
set_option linter.unusedSimpArgs false
set_option maxRecDepth 4000
namespace Go.Proofs.YtjglgfnhgehpeaaGreat
open Go.RowKit Go.Fw Go.Xt
theorem c_family_Family_Assign {f : Fam} {s : ByteArray} {x : X} (h : Fw0 f) : PureC Tryz.prog 60 [eF f, val (.string s), ext x] (tup [eF (fAssign f s x).1, sl 3 FX (fAssign f s x).2.1, I (fAssign f s x).2.2]) := by
  have hq := h.find s x.a x.n
  refine PureC.of_wp Tryz.func60 (by kernel_rfl) rfl Tryz.ntmps60 (le_ rfl) (fun w0 M0 => ?_)
  refine WP.seq ?_
  refine WP.region ?_
  refine WL.box (ot rfl) (.agg _) (by decide) fun b3 => ?_
  refine WL.box (ot rfl) (.agg _) (by decide) fun b5 => ?_
  refine WL.alloc zr_family_Family rfl (by decide) fun b6 => ?_
  refine WL.op (asg (oc _)) (by decide) ?_
  refine WL.op (asg (oc _)) (by decide) ?_
  refine WL.nl (.thn ?_)
  refine WP.seq ?_
  refine WP.region ?_
  refine WL.op (lbs 2 rfl ag_family_Family (ot rfl) (le_ rfl)) (by decide) ?_
  refine WL.op (mv (ot rfl)) (by decide) ?_
  refine WL.op (fv fo_Extent_0 (ot rfl)) (by decide) ?_
  refine WL.op (lb 1 rfl sc_int (ot rfl) rfl) (by decide) ?_
  refine WL.op (fv fo_Extent_1 (ot rfl)) (by decide) ?_
  refine WL.op (lb 1 rfl sc_int (ot rfl) rfl) (by decide) ?_
  refine WL.op (call (c_family_Family_find h) (.c (ot rfl) (.c (ot rfl) (.c (ot rfl) (.c (ot rfl) .n))))) (by decide) ?_
  refine WL.op (mv (ot rfl)) (by decide) ?_
  refine WL.op (ex (ot rfl) rfl) (by decide) ?_
  refine WL.op (ex (ot rfl) rfl) (by decide) ?_
  refine WL.alloc zr_family_volume rfl (by decide) fun b9 => ?_
  refine WL.store 0 rfl (ot rfl) (ot rfl) (.agg _) sz_family_volume rfl (le_ rfl) ?_
  refine WL.op (asg (ot rfl)) (by decide) ?_
  refine WL.nl (.thn ?_)
  refine WP.seq ?_
  refine WP.seq ?_
  refine WP.region ?_
  refine WL.op (mv (ot rfl)) (by decide) ?_
  refine WL.op (neq (ot rfl) (oc _)) (by decide) ?_
  refine WL.nl (.thn ?_)
  refine WP.cond rfl (fun hc => ?_) (fun hc => ?_)
  · skip
    have e1 : ¬ (fFind f s x.a x.n).2 = 0 := by simpa using hc
    refine WP.seq ?_
    refine WP.region ?_
    refine WL.op (bld zr_family_Family rfl ps_family_Family .n) (by decide) ?_
    refine WL.op (mv (ot rfl)) (by decide) ?_
    refine WL.store 1 rfl (ot rfl) (ot rfl) (.agg _) sz_family_Family rfl (le_ rfl) ?_
    refine WL.op (asg (oc _)) (by decide) ?_
    refine WL.op (asg (ot rfl)) (by decide) ?_
    refine WL.nl (.thn ?_)
    exact WP.rt (.rthn (.rN rfl (.cons (.bx 1 rfl rfl ag_family_Family) (.cons (.tm rfl) (.cons (.tm rfl) .nil))) (le_ rfl) (by rw [show fAssign f s x = (default, [], (fFind f s x.a x.n).2) from if_neg e1]; exact impT (.c eF0 (.c sl_nil (.c (imp  _) .n))))))
  · skip
    have e1 : (fFind f s x.a x.n).2 = 0 := by simpa using hc
    refine WP.sk (.thn ?_)
    refine WP.seq ?_
    refine WP.region ?_
    refine WL.op (fv fo_family_Family_0 (ot rfl)) (by decide) ?_
    refine WL.op (lbs 3 rfl ag_refcount_Counts (ot rfl) (le_ rfl)) (by decide) ?_
    refine WL.op (lbs 2 rfl ag_Extent (ot rfl) (le_ rfl)) (by decide) ?_
    refine WL.op (bsl1 (f := FX) (el := x) ei_s_api_Extent (ot rfl) (.agg _) rfl (by decide) (by decide)) (by decide) ?_
    refine WL.op (call (c_refcount_Counts_Add (xs := [x]) h.Cb (by simp)) (.c (ot rfl) (.c (ot rfl) .n))) (by decide) ?_
    refine WL.op (mv (ot rfl)) (by decide) ?_
    refine WL.op (ex (ot rfl) rfl) (by decide) ?_
    refine WL.op (ex (ot rfl) rfl) (by decide) ?_
    refine WL.alloc zr_refcount_Counts rfl (by decide) fun b11 => ?_
    refine WL.store 0 rfl (ot rfl) (ot rfl) (.agg _) sz_refcount_Counts rfl (le_ rfl) ?_
    refine WL.op (asg (ot rfl)) (by decide) ?_
    refine WL.nl (.thn ?_)
    refine WP.seq ?_
    refine WP.seq ?_
    refine WP.region ?_
    refine WL.op (mv (ot rfl)) (by decide) ?_
    refine WL.op (neq (ot rfl) (oc _)) (by decide) ?_
    refine WL.nl (.thn ?_)
    refine WP.cond rfl (fun hc => ?_) (fun hc => ?_)
    · skip
      have e2 : ¬ (addE f.cs [x]).2 = 0 := by simpa using hc
      refine WP.seq ?_
      refine WP.region ?_
      refine WL.op (bld zr_family_Family rfl ps_family_Family .n) (by decide) ?_
      refine WL.store 2 rfl (ot rfl) (ot rfl) (.agg _) sz_family_Family rfl (le_ rfl) ?_
      refine WL.op (asg (oc _)) (by decide) ?_
      refine WL.op (asg (oc _)) (by decide) ?_
      refine WL.nl (.thn ?_)
      exact WP.rt (.rthn (.rN rfl (.cons (.bx 2 rfl rfl ag_family_Family) (.cons (.tm rfl) (.cons (.tm rfl) .nil))) (le_ rfl) (by rw [show fAssign f s x = (default, [], 2) from (if_pos e1).trans (if_neg e2)]; exact impT (.c eF0 (.c sl_nil (.c (imp  _) .n))))))
    · skip
      have e2 : (addE f.cs [x]).2 = 0 := by simpa using hc
      refine WP.sk (.thn ?_)
      refine WP.seq ?_
      refine WP.region ?_
      refine WL.op (fv fo_family_volume_1 (ot rfl)) (by decide) ?_
      refine WL.op (lbs 1 rfl ag_Tree (ot rfl) (le_ rfl)) (by decide) ?_
      refine WL.op (lbs 3 rfl ag_Extent (ot rfl) (le_ rfl)) (by decide) ?_
      refine WL.op (call (c_x_PutT (t := (fFind f s x.a x.n).1.t) hq.1) (.c (ot rfl) (.c (ot rfl) .n))) (by decide) ?_
      refine WL.op (mv (ot rfl)) (by decide) ?_
      refine WL.op (ex (ot rfl) rfl) (by decide) ?_
      refine WL.op (ex (ot rfl) rfl) (by decide) ?_
      refine WL.op (ex (ot rfl) rfl) (by decide) ?_
      refine WL.alloc zr_Tree rfl (by decide) fun b12 => ?_
      refine WL.store 0 rfl (ot rfl) (ot rfl) (.agg _) sz_Tree rfl (le_ rfl) ?_
      refine WL.op (asg (ot rfl)) (by decide) ?_
      refine WL.op (asg (ot rfl)) (by decide) ?_
      refine WL.nl (.thn ?_)
      refine WP.seq ?_
      refine WP.seq ?_
      refine WP.region ?_
      refine WL.op (mv (ot rfl)) (by decide) ?_
      refine WL.op (neq (ot rfl) (oc _)) (by decide) ?_
      refine WL.nl (.thn ?_)
      refine WP.cond rfl (fun hc => ?_) (fun hc => ?_)
      · skip
        have e3 : ¬ (tPut (fFind f s x.a x.n).1.t x).2.2 = 0 := by simpa using hc
        refine WP.seq ?_
        refine WP.region ?_
        refine WL.op (bld zr_family_Family rfl ps_family_Family .n) (by decide) ?_
        refine WL.store 3 rfl (ot rfl) (ot rfl) (.agg _) sz_family_Family rfl (le_ rfl) ?_
        refine WL.op (asg (oc _)) (by decide) ?_
        refine WL.op (asg (oc _)) (by decide) ?_
        refine WL.nl (.thn ?_)
        exact WP.rt (.rthn (.rN rfl (.cons (.bx 3 rfl rfl ag_family_Family) (.cons (.tm rfl) (.cons (.tm rfl) .nil))) (le_ rfl) (by rw [show fAssign f s x = (default, [], 2) from (if_pos e1).trans ((if_pos e2).trans (if_neg e3))]; exact impT (.c eF0 (.c sl_nil (.c (imp  _) .n))))))
      · skip
        have e3 : (tPut (fFind f s x.a x.n).1.t x).2.2 = 0 := by simpa using hc
        refine WP.sk (.thn ?_)
        refine WP.seq ?_
        refine WP.region ?_
        refine WL.op (lbs 0 rfl ag_Tree (ot rfl) (le_ rfl)) (by decide) ?_
        refine WL.op (fv fo_family_volume_1 (ot rfl)) (by decide) ?_
        refine WL.store 2 rfl (ot rfl) (ot rfl) (.agg _) sz_Tree rfl (le_ rfl) ?_
        refine WL.nl (.thn ?_)
        refine WP.seq ?_
        refine WP.region ?_
        refine WL.op (lbs 1 rfl ag_refcount_Counts (ot rfl) (le_ rfl)) (by decide) ?_
        refine WL.op (mv (ot rfl)) (by decide) ?_
        refine WL.op (call (c_refcount_Counts_Drop sortC (addE_cb h.len h.cb) (by have := ok_len (tPut_old hq.1 x); omega) (frd_ok (tPut_old hq.1 x))) (.c (ot rfl) (.c (ot rfl) .n))) (by decide) ?_
        refine WL.op (mv (ot rfl)) (by decide) ?_
        refine WL.op (ex (ot rfl) rfl) (by decide) ?_
        refine WL.op (ex (ot rfl) rfl) (by decide) ?_
        refine WL.op (ex (ot rfl) rfl) (by decide) ?_
        refine WL.store 1 rfl (ot rfl) (ot rfl) (.agg _) sz_refcount_Counts rfl (le_ rfl) ?_
        refine WL.op (asg (ot rfl)) (by decide) ?_
        refine WL.op (asg (ot rfl)) (by decide) ?_
        refine WL.nl (.thn ?_)
        refine WP.seq ?_
        refine WP.region ?_
        refine WL.op (lbs 5 rfl ag_family_Family (ot rfl) (le_ rfl)) (by decide) ?_
        refine WL.op (lbs 1 rfl ag_refcount_Counts (ot rfl) (le_ rfl)) (by decide) ?_
        refine WL.op (mv (ot rfl)) (by decide) ?_
        refine WL.op (lbs 2 rfl ag_family_volume (ot rfl) (le_ rfl)) (by decide) ?_
        refine WL.op (call (c_family_Family_with (v := ⟨(fFind f s x.a x.n).1.n, (fFind f s x.a x.n).1.r, (tPut (fFind f s x.a x.n).1.t x).1⟩)) (.c (ot rfl) (.c (ot rfl) (.c (ot rfl) (.c (ot rfl) .n))))) (by decide) ?_
        refine WL.op (mv (ot rfl)) (by decide) ?_
        refine WL.op (mv (ot rfl)) (by decide) ?_
        refine WL.store 3 rfl (ot rfl) (ot rfl) (.agg _) sz_family_Family rfl (le_ rfl) ?_
        refine WL.op (asg (ot rfl)) (by decide) ?_
        refine WL.op (asg (ot rfl)) (by decide) ?_
        refine WL.nl (.thn ?_)
        exact WP.rt (.rN rfl (.cons (.bx 3 rfl rfl ag_family_Family) (.cons (.tm rfl) (.cons (.tm rfl) .nil))) (le_ rfl) (by rw [show fAssign f s x = fAsg f s x (fFind f s x.a x.n).1 from (if_pos e1).trans ((if_pos e2).trans (if_pos e3))]; exact imp  _))
theorem c_family_Family_Unmap {f : Fam} {s : ByteArray} {a n : Int} (h : Fw0 f) : PureC Tryz.prog 61 [eF f, val (.string s), I a, I n] (tup [eF (fUnmap f s a n).1, sl 3 FX (fUnmap f s a n).2.1, I (fUnmap f s a n).2.2]) := by
  have hq := h.find s a n
  refine PureC.of_wp Tryz.func61 (by kernel_rfl) rfl Tryz.ntmps61 (le_ rfl) (fun w0 M0 => ?_)
  refine WP.seq ?_
  refine WP.region ?_
  refine WL.box (ot rfl) (.agg _) (by decide) fun b4 => ?_
  refine WL.alloc zr_family_Family rfl (by decide) fun b8 => ?_
  refine WL.op (asg (oc _)) (by decide) ?_
  refine WL.op (asg (oc _)) (by decide) ?_
  refine WL.nl (.thn ?_)
  refine WP.seq ?_
  refine WP.region ?_
  refine WL.op (lbs 1 rfl ag_family_Family (ot rfl) (le_ rfl)) (by decide) ?_
  refine WL.op (mv (ot rfl)) (by decide) ?_
  refine WL.op (mv (ot rfl)) (by decide) ?_
  refine WL.op (mv (ot rfl)) (by decide) ?_
  refine WL.op (call (c_family_Family_find h) (.c (ot rfl) (.c (ot rfl) (.c (ot rfl) (.c (ot rfl) .n))))) (by decide) ?_
  refine WL.op (mv (ot rfl)) (by decide) ?_
  refine WL.op (ex (ot rfl) rfl) (by decide) ?_
  refine WL.op (ex (ot rfl) rfl) (by decide) ?_
  refine WL.alloc zr_family_volume rfl (by decide) fun b11 => ?_
  refine WL.store 0 rfl (ot rfl) (ot rfl) (.agg _) sz_family_volume rfl (le_ rfl) ?_
  refine WL.op (asg (ot rfl)) (by decide) ?_
  refine WL.nl (.thn ?_)
  refine WP.seq ?_
  refine WP.seq ?_
  refine WP.region ?_
  refine WL.op (mv (ot rfl)) (by decide) ?_
  refine WL.op (neq (ot rfl) (oc _)) (by decide) ?_
  refine WL.nl (.thn ?_)
  refine WP.cond rfl (fun hc => ?_) (fun hc => ?_)
  · skip
    have e1 : ¬ (fFind f s a n).2 = 0 := by simpa using hc
    refine WP.seq ?_
    refine WP.region ?_
    refine WL.op (bld zr_family_Family rfl ps_family_Family .n) (by decide) ?_
    refine WL.op (mv (ot rfl)) (by decide) ?_
    refine WL.store 1 rfl (ot rfl) (ot rfl) (.agg _) sz_family_Family rfl (le_ rfl) ?_
    refine WL.op (asg (oc _)) (by decide) ?_
    refine WL.op (asg (ot rfl)) (by decide) ?_
    refine WL.nl (.thn ?_)
    exact WP.rt (.rthn (.rN rfl (.cons (.bx 1 rfl rfl ag_family_Family) (.cons (.tm rfl) (.cons (.tm rfl) .nil))) (le_ rfl) (by rw [show fUnmap f s a n = (default, [], (fFind f s a n).2) from if_neg e1]; exact impT (.c eF0 (.c sl_nil (.c (imp  _) .n))))))
  · skip
    have e1 : (fFind f s a n).2 = 0 := by simpa using hc
    refine WP.sk (.thn ?_)
    refine WP.seq ?_
    refine WP.region ?_
    refine WL.op (fv fo_family_volume_1 (ot rfl)) (by decide) ?_
    refine WL.op (lbs 0 rfl ag_Tree (ot rfl) (le_ rfl)) (by decide) ?_
    refine WL.op (mv (ot rfl)) (by decide) ?_
    refine WL.op (mv (ot rfl)) (by decide) ?_
    refine WL.op (call (c_x_CutT (t := (fFind f s a n).1.t) hq.1) (.c (ot rfl) (.c (ot rfl) (.c (ot rfl) .n)))) (by decide) ?_
    refine WL.op (mv (ot rfl)) (by decide) ?_
    refine WL.op (ex (ot rfl) rfl) (by decide) ?_
    refine WL.op (ex (ot rfl) rfl) (by decide) ?_
    refine WL.op (ex (ot rfl) rfl) (by decide) ?_
    refine WL.alloc zr_Tree rfl (by decide) fun b13 => ?_
    refine WL.store 0 rfl (ot rfl) (ot rfl) (.agg _) sz_Tree rfl (le_ rfl) ?_
    refine WL.op (asg (ot rfl)) (by decide) ?_
    refine WL.op (asg (ot rfl)) (by decide) ?_
    refine WL.nl (.thn ?_)
    refine WP.seq ?_
    refine WP.seq ?_
    refine WP.region ?_
    refine WL.op (mv (ot rfl)) (by decide) ?_
    refine WL.op (neq (ot rfl) (oc _)) (by decide) ?_
    refine WL.nl (.thn ?_)
    refine WP.cond rfl (fun hc => ?_) (fun hc => ?_)
    · skip
      have e3 : ¬ (tCut (fFind f s a n).1.t a n).2.2 = 0 := by simpa using hc
      refine WP.seq ?_
      refine WP.region ?_
      refine WL.op (bld zr_family_Family rfl ps_family_Family .n) (by decide) ?_
      refine WL.store 2 rfl (ot rfl) (ot rfl) (.agg _) sz_family_Family rfl (le_ rfl) ?_
      refine WL.op (asg (oc _)) (by decide) ?_
      refine WL.op (asg (oc _)) (by decide) ?_
      refine WL.nl (.thn ?_)
      exact WP.rt (.rthn (.rN rfl (.cons (.bx 2 rfl rfl ag_family_Family) (.cons (.tm rfl) (.cons (.tm rfl) .nil))) (le_ rfl) (by rw [show fUnmap f s a n = (default, [], 2) from (if_pos e1).trans (if_neg e3)]; exact impT (.c eF0 (.c sl_nil (.c (imp  _) .n))))))
    · skip
      have e3 : (tCut (fFind f s a n).1.t a n).2.2 = 0 := by simpa using hc
      refine WP.sk (.thn ?_)
      refine WP.seq ?_
      refine WP.region ?_
      refine WL.op (lbs 0 rfl ag_Tree (ot rfl) (le_ rfl)) (by decide) ?_
      refine WL.op (fv fo_family_volume_1 (ot rfl)) (by decide) ?_
      refine WL.store 1 rfl (ot rfl) (ot rfl) (.agg _) sz_Tree rfl (le_ rfl) ?_
      refine WL.nl (.thn ?_)
      refine WP.seq ?_
      refine WP.region ?_
      refine WL.op (fv fo_family_Family_0 (ot rfl)) (by decide) ?_
      refine WL.op (lbs 3 rfl ag_refcount_Counts (ot rfl) (le_ rfl)) (by decide) ?_
      refine WL.op (mv (ot rfl)) (by decide) ?_
      refine WL.op (call (c_refcount_Counts_Drop sortC h.Cb (by have := ok_len (tCut_old hq.1 a n); omega) (frd_ok (tCut_old hq.1 a n))) (.c (ot rfl) (.c (ot rfl) .n))) (by decide) ?_
      refine WL.op (mv (ot rfl)) (by decide) ?_
      refine WL.op (ex (ot rfl) rfl) (by decide) ?_
      refine WL.op (ex (ot rfl) rfl) (by decide) ?_
      refine WL.op (ex (ot rfl) rfl) (by decide) ?_
      refine WL.alloc zr_refcount_Counts rfl (by decide) fun b15 => ?_
      refine WL.store 0 rfl (ot rfl) (ot rfl) (.agg _) sz_refcount_Counts rfl (le_ rfl) ?_
      refine WL.op (asg (ot rfl)) (by decide) ?_
      refine WL.op (asg (ot rfl)) (by decide) ?_
      refine WL.nl (.thn ?_)
      refine WP.seq ?_
      refine WP.region ?_
      refine WL.op (lbs 4 rfl ag_family_Family (ot rfl) (le_ rfl)) (by decide) ?_
      refine WL.op (lbs 0 rfl ag_refcount_Counts (ot rfl) (le_ rfl)) (by decide) ?_
      refine WL.op (mv (ot rfl)) (by decide) ?_
      refine WL.op (lbs 2 rfl ag_family_volume (ot rfl) (le_ rfl)) (by decide) ?_
      refine WL.op (call (c_family_Family_with (v := ⟨(fFind f s a n).1.n, (fFind f s a n).1.r, (tCut (fFind f s a n).1.t a n).1⟩)) (.c (ot rfl) (.c (ot rfl) (.c (ot rfl) (.c (ot rfl) .n))))) (by decide) ?_
      refine WL.op (mv (ot rfl)) (by decide) ?_
      refine WL.op (mv (ot rfl)) (by decide) ?_
      refine WL.store 3 rfl (ot rfl) (ot rfl) (.agg _) sz_family_Family rfl (le_ rfl) ?_
      refine WL.op (asg (ot rfl)) (by decide) ?_
      refine WL.op (asg (ot rfl)) (by decide) ?_
      refine WL.nl (.thn ?_)
      exact WP.rt (.rN rfl (.cons (.bx 3 rfl rfl ag_family_Family) (.cons (.tm rfl) (.cons (.tm rfl) .nil))) (le_ rfl) (by rw [show fUnmap f s a n = fUnm f s a n (fFind f s a n).1 from (if_pos e1).trans (if_pos e3)]; exact imp  _))
theorem c_family_Family_Info {f : Fam} {s : ByteArray} (h : Fw0 f) : PureC Tryz.prog 20 [eF f, val (.string s)] (tup [agg (FInf (fInfo f s).1), I (fInfo f s).2]) := by
  have hq := h.find s 0 0
  refine PureC.of_wp Tryz.func20 (by kernel_rfl) rfl Tryz.ntmps20 (le_ rfl) (fun w0 M0 => ?_)
  refine WP.seq ?_
  refine WP.region ?_
  refine WL.box (ot rfl) (.agg _) (by decide) fun b2 => ?_
  refine WL.alloc zr_VolumeInfo rfl (by decide) fun b4 => ?_
  refine WL.op (asg (oc _)) (by decide) ?_
  refine WL.nl (.thn ?_)
  refine WP.seq ?_
  refine WP.region ?_
  refine WL.op (lbs 1 rfl ag_family_Family (ot rfl) (le_ rfl)) (by decide) ?_
  refine WL.op (mv (ot rfl)) (by decide) ?_
  refine WL.op (call (c_family_Family_find h) (.c (ot rfl) (.c (ot rfl) (.c (oc _) (.c (oc _) .n))))) (by decide) ?_
  refine WL.op (mv (ot rfl)) (by decide) ?_
  refine WL.op (ex (ot rfl) rfl) (by decide) ?_
  refine WL.op (ex (ot rfl) rfl) (by decide) ?_
  refine WL.alloc zr_family_volume rfl (by decide) fun b6 => ?_
  refine WL.store 0 rfl (ot rfl) (ot rfl) (.agg _) sz_family_volume rfl (le_ rfl) ?_
  refine WL.op (asg (ot rfl)) (by decide) ?_
  refine WL.nl (.thn ?_)
  refine WP.seq ?_
  refine WP.seq ?_
  refine WP.region ?_
  refine WL.op (mv (ot rfl)) (by decide) ?_
  refine WL.op (neq (ot rfl) (oc _)) (by decide) ?_
  refine WL.nl (.thn ?_)
  refine WP.cond rfl (fun hc => ?_) (fun hc => ?_)
  · skip
    have e1 : ¬ (fFind f s 0 0).2 = 0 := by simpa using hc
    refine WP.seq ?_
    refine WP.region ?_
    refine WL.op (bld zr_VolumeInfo rfl ps_VolumeInfo .n) (by decide) ?_
    refine WL.op (mv (ot rfl)) (by decide) ?_
    refine WL.store 1 rfl (ot rfl) (ot rfl) (.agg _) sz_VolumeInfo rfl (le_ rfl) ?_
    refine WL.op (asg (ot rfl)) (by decide) ?_
    refine WL.nl (.thn ?_)
    exact WP.rt (.rthn (.rN rfl (.cons (.bx 1 rfl rfl ag_VolumeInfo) (.cons (.tm rfl) .nil)) (le_ rfl) (by rw [show fInfo f s = (default, (fFind f s 0 0).2) from if_neg e1]; exact imp  _)))
  · skip
    have e1 : (fFind f s 0 0).2 = 0 := by simpa using hc
    refine WP.sk (.thn ?_)
    refine WP.seq ?_
    refine WP.draws ?_
    refine RG.op (mv (ot rfl)) ?_
    refine RG.op (fv fo_family_volume_0 (ot rfl)) ?_
    refine RG.op (fv fo_family_size_0 (ot rfl)) ?_
    refine RG.op (lb 0 rfl sc_int (ot rfl) rfl) ?_
    refine RG.op (fv fo_family_volume_0 (ot rfl)) ?_
    refine RG.op (fv fo_family_size_1 (ot rfl)) ?_
    refine RG.op (lb 0 rfl sc_int (ot rfl) rfl) ?_
    refine RG.op (fv fo_family_volume_1 (ot rfl)) ?_
    refine RG.op (lbs 0 rfl ag_Tree (ot rfl) (le_ rfl)) ?_
    refine RG.op (call (c_x_Tree_Blocks (fFind f s 0 0).1.t) (.c (ot rfl) .n)) ?_
    refine RG.op (fv fo_family_Family_0 (ot rfl)) ?_
    refine RG.op (lbs 2 rfl ag_refcount_Counts (ot rfl) (le_ rfl)) ?_
    refine RG.op (lbs 0 rfl ag_family_volume (ot rfl) (le_ rfl)) ?_
    refine RG.op (call (c_family_volume_extents (v := (fFind f s 0 0).1) (by have := ok_len hq.1.2.1; omega)) (.c (ot rfl) .n)) ?_
    refine RG.op (call (c_refcount_Counts_Single h.len (by have := ok_len hq.1.2.1; omega) hq.2.2.2) (.c (ot rfl) (.c (ot rfl) .n))) ?_
    refine RG.op (bld zr_VolumeInfo rfl ps_VolumeInfo (.c (ot rfl) (.leaf (.val rfl)) pl_VolumeInfo_0 rfl (le_ rfl) (.c (ot rfl) (.leaf (.val rfl)) pl_VolumeInfo_1 rfl (le_ rfl) (.c (ot rfl) (.leaf (.val rfl)) pl_VolumeInfo_2 rfl (le_ rfl) (.c (ot rfl) (.leaf (.val rfl)) pl_VolumeInfo_3 rfl (le_ rfl) (.c (ot rfl) (.leaf (.val rfl)) pl_VolumeInfo_4 rfl (le_ rfl) .n)))))) ?_
    refine RG.fin HM (by kernel_rfl) ?_
    show WL _ _ _ _ _ _ _ _ _
    refine WL.store 1 rfl (ot rfl) (ot rfl) (.agg _) sz_VolumeInfo rfl (le_ rfl) ?_
    refine WL.op (asg (oc _)) (by decide) ?_
    refine WL.nl (.thn ?_)
    exact WP.rt (.rN rfl (.cons (.bx 1 rfl rfl ag_VolumeInfo) (.cons (.tm rfl) .nil)) (le_ rfl) (by rw [show fInfo f s = (⟨s, (fFind f s 0 0).1.n, (fFind f s 0 0).1.r, (fFind f s 0 0).1.t.blocks, singleE f.cs (fFind f s 0 0).1.t.list⟩, 0) from if_pos e1]; exact imp  _))
end Go.Proofs.YtjglgfnhgehpeaaGreat

/- The example of the document on families. -/
set_option linter.unusedVariables false
set_option linter.unusedSimpArgs false
set_option maxRecDepth 4000
namespace Go.Proofs.YtjglgfnhgehpeaaGreat
open Go.RowKit Go.Fw Go.Xt
abbrev sa : ByteArray := ⟨#[97]⟩
abbrev sb : ByteArray := ⟨#[98]⟩
def xa : X := ⟨0, 3, 5⟩
def T1 : Tr := (tPut .nil xa).1
def T2 : Tr := (tCut T1 0 1).1
def c2 : List Int := [0, 0, 0, 0, 0, 1, 1, 1, 0, 0]
def c3 : List Int := [0, 0, 0, 0, 0, 2, 2, 2, 0, 0]
def c4 : List Int := [0, 0, 0, 0, 0, 1, 2, 2, 0, 0]
def c5 : List Int := [0, 0, 0, 0, 0, 0, 1, 1, 0, 0]
def A0 : Fam := ⟨List.replicate 10 0, []⟩
def A1 : Fam := ⟨List.replicate 10 0, [(sa, ⟨4, 0, .nil⟩)]⟩
def A2 : Fam := ⟨c2, [(sa, ⟨4, 0, T1⟩)]⟩
def A3 : Fam := ⟨c3, [(sa, ⟨4, 0, T1⟩), (sb, ⟨4, 0, T1⟩)]⟩
def A4 : Fam := ⟨c4, [(sa, ⟨4, 0, T2⟩), (sb, ⟨4, 0, T1⟩)]⟩
def A5 : Fam := ⟨c5, [(sa, ⟨4, 0, T2⟩)]⟩
end Go.Proofs.YtjglgfnhgehpeaaGreat

/- The contracts of maps.Keys, slices.Sorted and slices.Sort lie at this program. -/
namespace Go.Proofs
open Go.Shelf
def Tryz.keysX_ren : Go.Shelf.Ren := ⟨fun | 7 => 72 | 10 => 110 | n => n, fun | 23 => 26 | 26 => 9 | 3 => 114 | 28 => 122 | 0 => 0 | 27 => 121 | 33 => 105 | 4 => 4 | n => n, fun | n => n⟩
theorem Tryz.keysX : Go.Proofs.SlLaysZ.n7 Tryz.prog Tryz.keysX_ren := {
  mixed := by kernel_rfl
  f7 := ⟨Tryz.f72.name, by decide, Tryz.func72.trans (congrArg some (by kernel_rfl))⟩
  f10 := ⟨Tryz.f110.name, by decide, Tryz.func110.trans (congrArg some (by kernel_rfl))⟩
  t0 := Tryz.underlying0
  a0 := Tryz.isAgg0
  z0 := Tryz.sizeOf0
  v0 := Tryz.zeroValue0
  t4 := Tryz.underlying4
  a4 := Tryz.isAgg4
  z4 := Tryz.sizeOf4
  v4 := Tryz.zeroValue4
  t23 := Tryz.underlying26
  a23 := Tryz.isAgg26
  z23 := Tryz.sizeOf26
  v23 := Tryz.zeroValue26
  t26 := Tryz.underlying9
  a26 := Tryz.isAgg9
  z26 := Tryz.sizeOf9
  v26 := Tryz.zeroValue9
  t27 := Tryz.underlying121
  a27 := Tryz.isAgg121
  z27 := Tryz.sizeOf121
  v27 := Tryz.zeroValue121
  t28 := Tryz.underlying122
  a28 := Tryz.isAgg122
  z28 := Tryz.sizeOf122
  v28 := Tryz.zeroValue122
  t33 := Tryz.underlying105
  a33 := Tryz.isAgg105
  z33 := Tryz.sizeOf105
  v33 := Tryz.zeroValue105 }
def Tryz.sortedX_ren : Go.Shelf.Ren := ⟨fun | 6 => 71 | 8 => 108 | 9 => 109 | 11 => 139 | 13 => 141 | 12 => 140 | 23 => 170 | 24 => 171 | 14 => 161 | 15 => 162 | 16 => 163 | 17 => 164 | 18 => 165 | 19 => 166 | 20 => 167 | 21 => 168 | 22 => 169 | 25 => 177 | 26 => 178 | 27 => 179 | 28 => 180 | 29 => 181 | 30 => 182 | 31 => 191 | n => n, fun | 26 => 9 | 28 => 122 | 24 => 39 | 0 => 0 | 3 => 3 | 37 => 187 | 48 => 207 | 50 => 209 | 4 => 4 | 40 => 200 | 39 => 199 | 45 => 133 | 5 => 5 | 9 => 9 | 51 => 212 | 55 => 216 | 57 => 223 | 58 => 224 | 33 => 105 | n => n, fun | n => n⟩
theorem Tryz.sortedX : Go.Proofs.SlLaysZ.n6 Tryz.prog Tryz.sortedX_ren := {
  mixed := by kernel_rfl
  f6 := ⟨Tryz.f71.name, by decide, Tryz.func71.trans (congrArg some (by kernel_rfl))⟩
  f8 := ⟨Tryz.f108.name, by decide, Tryz.func108.trans (congrArg some (by kernel_rfl))⟩
  f11 := ⟨Tryz.f139.name, by decide, Tryz.func139.trans (congrArg some (by kernel_rfl))⟩
  t0 := Tryz.underlying0
  a0 := Tryz.isAgg0
  z0 := Tryz.sizeOf0
  v0 := Tryz.zeroValue0
  t24 := Tryz.underlying39
  a24 := Tryz.isAgg39
  z24 := Tryz.sizeOf39
  v24 := Tryz.zeroValue39
  t26 := Tryz.underlying9
  a26 := Tryz.isAgg9
  z26 := Tryz.sizeOf9
  v26 := Tryz.zeroValue9
  t28 := Tryz.underlying122
  a28 := Tryz.isAgg122
  z28 := Tryz.sizeOf122
  v28 := Tryz.zeroValue122
  i26 := by kernel_rfl }
def Tryz.sortX2_ren : Go.Shelf.Ren := ⟨fun | 6 => 109 | 8 => 141 | 9 => 140 | 19 => 170 | 20 => 171 | 21 => 161 | 22 => 162 | 23 => 163 | 24 => 164 | 25 => 165 | 26 => 166 | 27 => 167 | 28 => 168 | 29 => 169 | 36 => 177 | 31 => 178 | 32 => 179 | 37 => 180 | 38 => 181 | 39 => 182 | 41 => 191 | n => n, fun | 27 => 39 | 29 => 9 | 3 => 3 | 32 => 187 | 26 => 39 | 0 => 0 | 44 => 207 | 46 => 209 | 4 => 4 | 36 => 200 | 35 => 199 | 41 => 133 | 5 => 5 | 9 => 9 | 53 => 212 | 57 => 216 | 63 => 223 | 64 => 224 | n => n, fun | n => n⟩
theorem Tryz.sortX2 : Go.Proofs.SlLaysM.n6 Tryz.prog Tryz.sortX2_ren := {
  mixed := by kernel_rfl
  f6 := ⟨Tryz.f109.name, by decide, Tryz.func109.trans (congrArg some (by kernel_rfl))⟩
  f8 := Tryz.func141.trans (congrArg some (by kernel_rfl))
  f9 := ⟨Tryz.f140.name, by decide, Tryz.func140.trans (congrArg some (by kernel_rfl))⟩
  f19 := Tryz.func170.trans (congrArg some (by kernel_rfl))
  f20 := Tryz.func171.trans (congrArg some (by kernel_rfl))
  f21 := ⟨Tryz.f161.name, by decide, Tryz.func161.trans (congrArg some (by kernel_rfl))⟩
  f22 := ⟨Tryz.f162.name, by decide, Tryz.func162.trans (congrArg some (by kernel_rfl))⟩
  f23 := ⟨Tryz.f163.name, by decide, Tryz.func163.trans (congrArg some (by kernel_rfl))⟩
  f24 := ⟨Tryz.f164.name, by decide, Tryz.func164.trans (congrArg some (by kernel_rfl))⟩
  f25 := ⟨Tryz.f165.name, by decide, Tryz.func165.trans (congrArg some (by kernel_rfl))⟩
  f26 := ⟨Tryz.f166.name, by decide, Tryz.func166.trans (congrArg some (by kernel_rfl))⟩
  f27 := ⟨Tryz.f167.name, by decide, Tryz.func167.trans (congrArg some (by kernel_rfl))⟩
  f28 := ⟨Tryz.f168.name, by decide, Tryz.func168.trans (congrArg some (by kernel_rfl))⟩
  f29 := ⟨Tryz.f169.name, by decide, Tryz.func169.trans (congrArg some (by kernel_rfl))⟩
  f31 := Tryz.func178.trans (congrArg some (by kernel_rfl))
  f32 := Tryz.func179.trans (congrArg some (by kernel_rfl))
  f36 := ⟨Tryz.f177.name, by decide, Tryz.func177.trans (congrArg some (by kernel_rfl))⟩
  f37 := ⟨Tryz.f180.name, by decide, Tryz.func180.trans (congrArg some (by kernel_rfl))⟩
  f38 := ⟨Tryz.f181.name, by decide, Tryz.func181.trans (congrArg some (by kernel_rfl))⟩
  f39 := ⟨Tryz.f182.name, by decide, Tryz.func182.trans (congrArg some (by kernel_rfl))⟩
  f41 := ⟨Tryz.f191.name, by decide, Tryz.func191.trans (congrArg some (by kernel_rfl))⟩
  t0 := Tryz.underlying0
  a0 := Tryz.isAgg0
  z0 := Tryz.sizeOf0
  v0 := Tryz.zeroValue0
  t3 := Tryz.underlying3
  a3 := Tryz.isAgg3
  z3 := Tryz.sizeOf3
  v3 := Tryz.zeroValue3
  t4 := Tryz.underlying4
  a4 := Tryz.isAgg4
  z4 := Tryz.sizeOf4
  v4 := Tryz.zeroValue4
  t5 := Tryz.underlying5
  a5 := Tryz.isAgg5
  z5 := Tryz.sizeOf5
  v5 := Tryz.zeroValue5
  t9 := Tryz.underlying9
  a9 := Tryz.isAgg9
  z9 := Tryz.sizeOf9
  v9 := Tryz.zeroValue9
  t26 := Tryz.underlying39
  a26 := Tryz.isAgg39
  z26 := Tryz.sizeOf39
  v26 := Tryz.zeroValue39
  t27 := Tryz.underlying39
  a27 := Tryz.isAgg39
  z27 := Tryz.sizeOf39
  v27 := Tryz.zeroValue39
  t29 := Tryz.underlying9
  a29 := Tryz.isAgg9
  z29 := Tryz.sizeOf9
  v29 := Tryz.zeroValue9
  t32 := Tryz.underlying187
  a32 := Tryz.isAgg187
  z32 := Tryz.sizeOf187
  v32 := Tryz.zeroValue187
  t35 := Tryz.underlying199
  a35 := Tryz.isAgg199
  z35 := Tryz.sizeOf199
  v35 := Tryz.zeroValue199
  t36 := Tryz.underlying200
  a36 := Tryz.isAgg200
  z36 := Tryz.sizeOf200
  v36 := Tryz.zeroValue200
  t41 := Tryz.underlying133
  a41 := Tryz.isAgg133
  z41 := Tryz.sizeOf133
  v41 := Tryz.zeroValue133
  t44 := Tryz.underlying207
  a44 := Tryz.isAgg207
  z44 := Tryz.sizeOf207
  v44 := Tryz.zeroValue207
  t46 := Tryz.underlying209
  a46 := Tryz.isAgg209
  z46 := Tryz.sizeOf209
  v46 := Tryz.zeroValue209
  t53 := Tryz.underlying212
  a53 := Tryz.isAgg212
  z53 := Tryz.sizeOf212
  v53 := Tryz.zeroValue212
  t57 := Tryz.underlying216
  a57 := Tryz.isAgg216
  z57 := Tryz.sizeOf216
  v57 := Tryz.zeroValue216
  t63 := Tryz.underlying223
  a63 := Tryz.isAgg223
  z63 := Tryz.sizeOf223
  v63 := Tryz.zeroValue223
  t64 := Tryz.underlying224
  a64 := Tryz.isAgg224
  z64 := Tryz.sizeOf224
  v64 := Tryz.zeroValue224 }
end Go.Proofs

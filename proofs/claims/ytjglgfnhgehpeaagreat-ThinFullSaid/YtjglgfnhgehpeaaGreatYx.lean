/- Parts: R36b, R36c, RunP, Lay7. -/
import Derived.Test.YtjglgfnhgehpeaaGreatYw
import Derived.Test.YtjglgfnhgehpeaaGreatYt
import Derived.Test.YtjglgfnhgehpeaaGreatYr
import Derived.Test.YtjglgfnhgehpeaaGreatYu
import Derived.Test.YtjglgfnhgehpeaaGreatYg
import Derived.Test.YtjglgfnhgehpeaaGreatYf
/- The reference of families: its changes. -/
set_option linter.unusedVariables false
set_option linter.unusedSimpArgs false
set_option maxRecDepth 4000
namespace Go.Proofs.YtjglgfnhgehpeaaGreat
open Go.RowKit Go.Fw Go.Xt
theorem ok_spn : ∀ {L : List X} {lo m : Int}, Xt.Ok lo L → (∀ x ∈ L, x.a + x.n ≤ m) → lo ≤ m → sumN L ≤ m - lo
  | [], lo, m, _, _, h => by simp only [sumN]; omega
  | x :: L, lo, m, h, hm, _ => by
    obtain ⟨h1, h2, h3, h4, h5, h6⟩ := h
    have hx := hm x List.mem_cons_self
    have := ok_spn h6 (fun y hy => hm y (List.mem_cons_of_mem _ hy)) hx
    simp only [sumN]; omega
def Sm (g : RF) : Prop := ∀ v ∈ g.vs, v.n ≤ 255
theorem sm_len {k : Nat} {v : RV} (h : VOk k v) (hn : v.n ≤ 255) : v.l.length ≤ 255 := by
  have h1 := ok_spn h.ok (m := v.n) (fun x hx => (h.inn x hx).1) (by have := h.n; omega)
  have h2 := (h.ok.sum (Int.le_refl 0)).1
  omega
theorem eG0 : ∀ v w M, (agg [I 0, val nilS]).h v w M → (eG default).h v w M := impA (.c (imp _) (.c sl_nil .n))
theorem at_ge {vs : List RV} {s : ByteArray} : 0 ≤ rAt vs s ↔ ∃ v, gl s vs = some v := by
  cases h : gl s vs with
  | none => have := (at_none h).1; exact ⟨fun q => by omega, fun ⟨v, q⟩ => by cases q⟩
  | some v => obtain ⟨i, _, h2, _⟩ := at_some h; exact ⟨fun _ => ⟨v, rfl⟩, fun _ => by omega⟩
theorem at_get {vs : List RV} {s : ByteArray} {v : RV} (h : gl s vs = some v) : ∃ i : Nat, i < vs.length ∧ rAt vs s = i ∧ vs.getD (i : Int).toNat default = v := by
  obtain ⟨i, h1, h2, h3, _⟩ := at_some h
  exact ⟨i, h1, h2, by rw [show ((i : Nat) : Int).toNat = i from by omega, List.getD_eq_getElem?_getD, h3]; rfl⟩
theorem asg_test {g : RF} {v : RV} {x : X} : ((((decide (x.n < 1) || !inB v.n x.a x.n) || decide (x.s < 0)) || decide ((g.k : Int) < x.s)) || decide ((g.k : Int) < x.s + x.n)) = !asgOk g v x := by
  unfold asgOk
  generalize inB v.n x.a x.n = bb
  rw [Bool.eq_iff_iff]
  cases bb
  · simp
  · simp only [Bool.or_eq_true, decide_eq_true_eq, Bool.not_eq_true', Bool.and_eq_false_iff, decide_eq_false_iff_not, Bool.not_true, Bool.false_eq_true, or_false, reduceCtorEq]
    omega
theorem sm_with {g : RF} (h : GOk g) (hs : Sm g) {v : RV} (hv : v.n ≤ 255) : Sm (rWith g v) := fun w hw => by
  rcases List.mem_cons.1 ((with_perm h.srt v).subset hw) with rfl | hw
  · exact hv
  · exact hs w (oth_mem.1 hw).1

theorem c_r36_Volume_inside {v : RV} {a n : Int} (hn : 0 ≤ v.n ∧ v.n ≤ 65536) : PureC Tryz.prog 87 [agg (FRV v), I a, I n] (val (.bool (inB v.n a n))) := by
  refine PureC.of_wp Tryz.func87 (by kernel_rfl) rfl Tryz.ntmps87 (le_ rfl) (fun w0 M0 => ?_)
  refine WP.seq ?_
  refine WP.region ?_
  refine WL.box (ot rfl) (.agg _) (by decide) fun b3 => ?_
  refine WL.op (asg (oc _)) (by decide) ?_
  refine WL.nl (.thn ?_)
  refine WP.seq ?_
  refine WP.region ?_
  refine WL.op (mv (ot rfl)) (by decide) ?_
  refine WL.op (geq (ot rfl) (oc _)) (by decide) ?_
  refine WL.op (mv (ot rfl)) (by decide) ?_
  refine WL.gd rfl rfl (Tells.v _ _) (fun hg => mv (ot rfl)) (by decide) ?_
  refine WL.gd rfl rfl (Tells.v _ _) (fun hg => geq (og rfl hg) (oc _)) (by decide) ?_
  refine WL.op (and_ (ot rfl) (ot rfl)) (by decide) ?_
  refine WL.op (mv (ot rfl)) (by decide) ?_
  refine WL.gd rfl rfl (Tells.v _ _) (fun hg => mv (ot rfl)) (by decide) ?_
  refine WL.gd rfl rfl (Tells.v _ _) (fun hg => fv fo_ef36_Volume_1 (ot rfl)) (by decide) ?_
  refine WL.gd rfl rfl (Tells.v _ _) (fun hg => lb 0 rfl sc_int (og rfl hg) rfl) (by decide) ?_
  refine WL.gd rfl rfl (Tells.v _ _) (fun hg => leq (og rfl hg) (og rfl hg)) (by decide) ?_
  refine WL.op (and_ (ot rfl) (ot rfl)) (by decide) ?_
  refine WL.op (mv (ot rfl)) (by decide) ?_
  refine WL.gd rfl rfl (Tells.v _ _) (fun hg => mv (ot rfl)) (by decide) ?_
  refine WL.gd rfl rfl (Tells.v _ _) (fun hg => fv fo_ef36_Volume_1 (ot rfl)) (by decide) ?_
  refine WL.gd rfl rfl (Tells.v _ _) (fun hg => lb 0 rfl sc_int (og rfl hg) rfl) (by decide) ?_
  refine WL.gd rfl rfl (Tells.v _ _) (fun hg => leq (og rfl hg) (og rfl hg)) (by decide) ?_
  refine WL.op (and_ (ot rfl) (ot rfl)) (by decide) ?_
  refine WL.op (mv (ot rfl)) (by decide) ?_
  refine WL.gd rfl rfl (Tells.v _ _) (fun hg => mv (ot rfl)) (by decide) ?_
  refine WL.gd rfl rfl (Tells.v _ _) (fun hg => mv (ot rfl)) (by decide) ?_
  refine WL.gd rfl rfl (Tells.v _ _) (fun hg => add (og rfl hg) (og rfl hg) (by simp only [Bool.and_eq_true, decide_eq_true_eq] at hg; omega)) (by decide) ?_
  refine WL.gd rfl rfl (Tells.v _ _) (fun hg => fv fo_ef36_Volume_1 (ot rfl)) (by decide) ?_
  refine WL.gd rfl rfl (Tells.v _ _) (fun hg => lb 0 rfl sc_int (og rfl hg) rfl) (by decide) ?_
  refine WL.gd rfl rfl (Tells.v _ _) (fun hg => leq (og rfl hg) (og rfl hg)) (by decide) ?_
  refine WL.op (and_ (ot rfl) (ot rfl)) (by decide) ?_
  refine WL.op (asg (ot rfl)) (by decide) ?_
  refine WL.nl (.thn ?_)
  exact WP.rt (.r1 rfl rfl (imp _))
theorem c_r36_Family_Create {g : RF} {s : ByteArray} {n r : Int} (hs : s.size ≤ 9223372036854775807) (hl0 : g.vs.length ≤ 1000) : PureC Tryz.prog 57 [eG g, val (.string s), I n, I r] (tup [eG (rCreate g s n r).1, I (rCreate g s n r).2]) := by
  refine PureC.of_wp Tryz.func57 (by kernel_rfl) rfl Tryz.ntmps57 (le_ rfl) (fun w0 M0 => ?_)
  refine WP.seq ?_
  refine WP.region ?_
  refine WL.box (ot rfl) (.agg _) (by decide) fun b4 => ?_
  refine WL.alloc zr_ef36_Family rfl (by decide) fun b8 => ?_
  refine WL.op (asg (oc _)) (by decide) ?_
  refine WL.nl (.thn ?_)
  refine WP.seq ?_
  refine WP.block ?_
  refine WP.seq ?_
  refine WP.region ?_
  refine WL.op (mv (ot rfl)) (by decide) ?_
  refine WL.op (call (c_r36_Name hs) (.c (ot rfl) .n)) (by decide) ?_
  refine WL.op (not_ (ot rfl)) (by decide) ?_
  refine WL.op (mv (ot rfl)) (by decide) ?_
  refine WL.gd rfl rfl (Tells.v _ _) (fun hg => mv (ot rfl)) (by decide) ?_
  refine WL.gd rfl rfl (Tells.v _ _) (fun hg => lss (og rfl hg) (oc _)) (by decide) ?_
  refine WL.op (or_ (ot rfl) (ot rfl)) (by decide) ?_
  refine WL.op (mv (ot rfl)) (by decide) ?_
  refine WL.gd rfl rfl (Tells.v _ _) (fun hg => mv (ot rfl)) (by decide) ?_
  refine WL.gd rfl rfl (Tells.v _ _) (fun hg => gtr (og rfl hg) (oc _)) (by decide) ?_
  refine WL.op (or_ (ot rfl) (ot rfl)) (by decide) ?_
  refine WL.op (mv (ot rfl)) (by decide) ?_
  refine WL.gd rfl rfl (Tells.v _ _) (fun hg => mv (ot rfl)) (by decide) ?_
  refine WL.gd rfl rfl (Tells.v _ _) (fun hg => lss (og rfl hg) (oc _)) (by decide) ?_
  refine WL.op (or_ (ot rfl) (ot rfl)) (by decide) ?_
  refine WL.op (mv (ot rfl)) (by decide) ?_
  refine WL.gd rfl rfl (Tells.v _ _) (fun hg => mv (ot rfl)) (by decide) ?_
  refine WL.gd rfl rfl (Tells.v _ _) (fun hg => mv (ot rfl)) (by decide) ?_
  refine WL.gd rfl rfl (Tells.v _ _) (fun hg => gtr (og rfl hg) (og rfl hg)) (by decide) ?_
  refine WL.op (or_ (ot rfl) (ot rfl)) (by decide) ?_
  refine WL.op (asg (ot rfl)) (by decide) ?_
  refine WL.nl (.thn ?_)
  refine WP.cond rfl (fun hc => ?_) (fun hc => ?_)
  · skip
    have hb : badN s n r := by simpa only [badN, Bool.or_eq_true, Bool.not_eq_true', decide_eq_true_eq, or_assoc] using hc
    refine WP.seq ?_
    refine WP.region ?_
    refine WL.op (bld zr_ef36_Family rfl ps_ef36_Family .n) (by decide) ?_
    refine WL.store 0 rfl (ot rfl) (ot rfl) (.agg _) sz_ef36_Family rfl (le_ rfl) ?_
    refine WL.op (asg (oc _)) (by decide) ?_
    refine WL.nl (.thn ?_)
    exact WP.rt (.rblk (.rthn (.rN rfl (.cons (.bx 0 rfl rfl ag_ef36_Family) (.cons (.tm rfl) .nil)) (le_ rfl) (by rw [show rCreate g s n r = (default, 1) from if_pos hb]; exact impT (.c eG0 (.c (imp  _) .n))))))
  · skip
    have hb : ¬ badN s n r := fun hb => by
      unfold badN at hb
      simp only [Bool.or_eq_false_iff, Bool.not_eq_false', decide_eq_false_iff_not] at hc
      obtain ⟨⟨⟨⟨h1, h2⟩, h3⟩, h4⟩, h5⟩ := hc
      rw [h1] at hb
      rcases hb with h | h | h | h | h
      · cases h
      all_goals omega
    refine WP.seq ?_
    refine WP.region ?_
    refine WL.op (lbs 1 rfl ag_ef36_Family (ot rfl) (le_ rfl)) (by decide) ?_
    refine WL.op (mv (ot rfl)) (by decide) ?_
    refine WL.op (call (c_r36_Family_At  hl0) (.c (ot rfl) (.c (ot rfl) .n))) (by decide) ?_
    refine WL.op (geq (ot rfl) (oc _)) (by decide) ?_
    refine WL.op (asg (ot rfl)) (by decide) ?_
    refine WL.nl (.thn ?_)
    refine WP.cond rfl (fun hc => ?_) (fun hc => ?_)
    · skip
      obtain ⟨w, hw⟩ := at_ge.1 (of_decide_eq_true hc)
      refine WP.seq ?_
      refine WP.region ?_
      refine WL.op (bld zr_ef36_Family rfl ps_ef36_Family .n) (by decide) ?_
      refine WL.store 0 rfl (ot rfl) (ot rfl) (.agg _) sz_ef36_Family rfl (le_ rfl) ?_
      refine WL.op (asg (oc _)) (by decide) ?_
      refine WL.nl (.thn ?_)
      exact WP.rt (.rblk (.rthn (.rN rfl (.cons (.bx 0 rfl rfl ag_ef36_Family) (.cons (.tm rfl) .nil)) (le_ rfl) (by rw [show rCreate g s n r = (default, 10) from by unfold rCreate; rw [if_neg hb, hw]]; exact impT (.c eG0 (.c (imp  _) .n))))))
    · skip
      have hw : gl s g.vs = none := by
        cases hg : gl s g.vs with
        | none => rfl
        | some w => exact absurd (at_ge.2 ⟨w, hg⟩) (of_decide_eq_false hc)
      refine WP.seq ?_
      refine WP.region ?_
      refine WL.op (fv fo_ef36_Family_1 (ot rfl)) (by decide) ?_
      refine WL.op (lb 1 rfl sc_s_tegularef36_Volume (ot rfl) rfl) (by decide) ?_
      refine WL.op (len_ us_s_tegularef36_Volume (ot rfl)) (by decide) ?_
      refine WL.op (geq (ot rfl) (oc _)) (by decide) ?_
      refine WL.op (asg (ot rfl)) (by decide) ?_
      refine WL.nl (.thn ?_)
      refine WP.cond rfl (fun hc => ?_) (fun hc => ?_)
      · skip
        have hn32 : 32 ≤ g.vs.length := by have := of_decide_eq_true hc; omega
        refine WP.seq ?_
        refine WP.region ?_
        refine WL.op (bld zr_ef36_Family rfl ps_ef36_Family .n) (by decide) ?_
        refine WL.store 0 rfl (ot rfl) (ot rfl) (.agg _) sz_ef36_Family rfl (le_ rfl) ?_
        refine WL.op (asg (oc _)) (by decide) ?_
        refine WL.nl (.thn ?_)
        exact WP.rt (.rblk (.rthn (.rN rfl (.cons (.bx 0 rfl rfl ag_ef36_Family) (.cons (.tm rfl) .nil)) (le_ rfl) (by rw [show rCreate g s n r = (default, 7) from by unfold rCreate; rw [if_neg hb, hw]; exact if_pos hn32]; exact impT (.c eG0 (.c (imp  _) .n))))))
      · skip
        have hn32 : ¬ 32 ≤ g.vs.length := by have := of_decide_eq_false hc; omega
        refine WP.sk (.blk (.thn ?_))
        refine WP.seq ?_
        refine WP.region ?_
        refine WL.op (lbs 1 rfl ag_ef36_Family (ot rfl) (le_ rfl)) (by decide) ?_
        refine WL.op (mv (ot rfl)) (by decide) ?_
        refine WL.op (mv (ot rfl)) (by decide) ?_
        refine WL.op (mv (ot rfl)) (by decide) ?_
        refine WL.op (bld zr_ef36_Volume rfl ps_ef36_Volume (.c (ot rfl) (.leaf (.val rfl)) pl_ef36_Volume_0 rfl (le_ rfl) (.c (ot rfl) (.leaf (.val rfl)) pl_ef36_Volume_1 rfl (le_ rfl) (.c (ot rfl) (.leaf (.val rfl)) pl_ef36_Volume_2 rfl (le_ rfl) .n)))) (by decide) ?_
        refine WL.op (call (c_r36_Family_with (v := ⟨s, n, r, []⟩) hl0) (.c (ot rfl) (.c (OF.weak (ot rfl) (impA (.c (imp  _) (.c (imp  _) (.c (imp  _) (.c sl_nil .n)))))) .n))) (by decide) ?_
        refine WL.store 0 rfl (ot rfl) (ot rfl) (.agg _) sz_ef36_Family rfl (le_ rfl) ?_
        refine WL.op (asg (oc _)) (by decide) ?_
        refine WL.nl (.thn ?_)
        exact WP.rt (.rN rfl (.cons (.bx 0 rfl rfl ag_ef36_Family) (.cons (.tm rfl) .nil)) (le_ rfl) (by rw [show rCreate g s n r = (rWith g ⟨s, n, r, []⟩, 0) from by unfold rCreate; rw [if_neg hb, hw]; exact if_neg hn32]; exact imp  _))
theorem c_rClone_none {g : RF} {s o : ByteArray} (hl0 : g.vs.length ≤ 1000) (hl : gl s g.vs = none) : PureC Tryz.prog 58 [eG g, val (.string s), val (.string o)] (tup [eG (rClone g s o).1, I (rClone g s o).2]) := by
  refine PureC.of_wp Tryz.func58 (by kernel_rfl) rfl Tryz.ntmps58 (le_ rfl) (fun w0 M0 => ?_)
  refine WP.seq ?_
  refine WP.region ?_
  refine WL.box (ot rfl) (.agg _) (by decide) fun b3 => ?_
  refine WL.alloc zr_ef36_Family rfl (by decide) fun b6 => ?_
  refine WL.op (asg (oc _)) (by decide) ?_
  refine WL.nl (.thn ?_)
  refine WP.seq ?_
  refine WP.region ?_
  refine WL.op (lbs 1 rfl ag_ef36_Family (ot rfl) (le_ rfl)) (by decide) ?_
  refine WL.op (mv (ot rfl)) (by decide) ?_
  refine WL.op (OpG.weak (R' := I (-1)) (call (c_r36_Family_At  hl0) (.c (ot rfl) (.c (ot rfl) .n))) (imp_eq (congrArg I (at_none hl).1))) (by decide) ?_
  refine WL.op (asg (ot rfl)) (by decide) ?_
  refine WL.nl (.thn ?_)
  refine WP.seq ?_
  refine WP.block ?_
  refine WP.seq ?_
  refine WP.region ?_
  refine WL.op (mv (ot rfl)) (by decide) ?_
  refine WL.op (OpG.weak (R' := val (.bool true)) (lss (ot rfl)  (oc _)) (imp_eq (congrArg (fun b => val (.bool b)) (decide_eq_true (by omega))))) (by decide) ?_
  refine WL.op (asg (ot rfl)) (by decide) ?_
  refine WL.nl (.thn ?_)
  refine WP.condT rfl ?_
  refine WP.seq ?_
  refine WP.region ?_
  refine WL.op (bld zr_ef36_Family rfl ps_ef36_Family .n) (by decide) ?_
  refine WL.store 0 rfl (ot rfl) (ot rfl) (.agg _) sz_ef36_Family rfl (le_ rfl) ?_
  refine WL.op (asg (oc _)) (by decide) ?_
  refine WL.nl (.thn ?_)
  exact WP.rt (.rblk (.rthn (.rN rfl (.cons (.bx 0 rfl rfl ag_ef36_Family) (.cons (.tm rfl) .nil)) (le_ rfl) (by rw [show rClone g s o = (default, 9) from by unfold rClone; rw [hl]]; exact impT (.c eG0 (.c (imp  _) .n))))))
theorem c_rClone_some {g : RF} {s o : ByteArray} (ho : o.size ≤ 9223372036854775807) (hl0 : g.vs.length ≤ 1000) {i : Nat} {v : RV} (hi : rAt g.vs s = i) (hil : i < g.vs.length) (hv : g.vs.getD (i : Int).toNat default = v) (hl : gl s g.vs = some v) : PureC Tryz.prog 58 [eG g, val (.string s), val (.string o)] (tup [eG (rClone g s o).1, I (rClone g s o).2]) := by
  refine PureC.of_wp Tryz.func58 (by kernel_rfl) rfl Tryz.ntmps58 (le_ rfl) (fun w0 M0 => ?_)
  refine WP.seq ?_
  refine WP.region ?_
  refine WL.box (ot rfl) (.agg _) (by decide) fun b3 => ?_
  refine WL.alloc zr_ef36_Family rfl (by decide) fun b6 => ?_
  refine WL.op (asg (oc _)) (by decide) ?_
  refine WL.nl (.thn ?_)
  refine WP.seq ?_
  refine WP.region ?_
  refine WL.op (lbs 1 rfl ag_ef36_Family (ot rfl) (le_ rfl)) (by decide) ?_
  refine WL.op (mv (ot rfl)) (by decide) ?_
  refine WL.op (OpG.weak (R' := I (i : Int)) (call (c_r36_Family_At  hl0) (.c (ot rfl) (.c (ot rfl) .n))) (imp_eq (congrArg I hi))) (by decide) ?_
  refine WL.op (asg (ot rfl)) (by decide) ?_
  refine WL.nl (.thn ?_)
  refine WP.seq ?_
  refine WP.block ?_
  refine WP.seq ?_
  refine WP.region ?_
  refine WL.op (mv (ot rfl)) (by decide) ?_
  refine WL.op (OpG.weak (R' := val (.bool false)) (lss (ot rfl)  (oc _)) (imp_eq (congrArg (fun b => val (.bool b)) (decide_eq_false (by omega))))) (by decide) ?_
  refine WL.op (asg (ot rfl)) (by decide) ?_
  refine WL.nl (.thn ?_)
  refine WP.condF rfl ?_
  refine WP.seq ?_
  refine WP.region ?_
  refine WL.op (mv (ot rfl)) (by decide) ?_
  refine WL.op (call (c_r36_Name ho) (.c (ot rfl) .n)) (by decide) ?_
  refine WL.op (not_ (ot rfl)) (by decide) ?_
  refine WL.op (asg (ot rfl)) (by decide) ?_
  refine WL.nl (.thn ?_)
  refine WP.cond rfl (fun hc => ?_) (fun hc => ?_)
  · skip
    have hb : nameE o = false := by simpa using hc
    refine WP.seq ?_
    refine WP.region ?_
    refine WL.op (bld zr_ef36_Family rfl ps_ef36_Family .n) (by decide) ?_
    refine WL.store 0 rfl (ot rfl) (ot rfl) (.agg _) sz_ef36_Family rfl (le_ rfl) ?_
    refine WL.op (asg (oc _)) (by decide) ?_
    refine WL.nl (.thn ?_)
    exact WP.rt (.rblk (.rthn (.rN rfl (.cons (.bx 0 rfl rfl ag_ef36_Family) (.cons (.tm rfl) .nil)) (le_ rfl) (by rw [show rClone g s o = (default, 1) from by unfold rClone; rw [hl]; exact if_pos hb]; exact impT (.c eG0 (.c (imp  _) .n))))))
  · skip
    have hb : ¬ nameE o = false := by simpa using hc
    refine WP.seq ?_
    refine WP.region ?_
    refine WL.op (lbs 1 rfl ag_ef36_Family (ot rfl) (le_ rfl)) (by decide) ?_
    refine WL.op (mv (ot rfl)) (by decide) ?_
    refine WL.op (call (c_r36_Family_At  hl0) (.c (ot rfl) (.c (ot rfl) .n))) (by decide) ?_
    refine WL.op (geq (ot rfl) (oc _)) (by decide) ?_
    refine WL.op (asg (ot rfl)) (by decide) ?_
    refine WL.nl (.thn ?_)
    refine WP.cond rfl (fun hc => ?_) (fun hc => ?_)
    · skip
      obtain ⟨w, hw⟩ := at_ge.1 (of_decide_eq_true hc)
      refine WP.seq ?_
      refine WP.region ?_
      refine WL.op (bld zr_ef36_Family rfl ps_ef36_Family .n) (by decide) ?_
      refine WL.store 0 rfl (ot rfl) (ot rfl) (.agg _) sz_ef36_Family rfl (le_ rfl) ?_
      refine WL.op (asg (oc _)) (by decide) ?_
      refine WL.nl (.thn ?_)
      exact WP.rt (.rblk (.rthn (.rN rfl (.cons (.bx 0 rfl rfl ag_ef36_Family) (.cons (.tm rfl) .nil)) (le_ rfl) (by rw [show rClone g s o = (default, 10) from by unfold rClone; rw [hl]; dsimp only; rw [if_neg hb, hw]]; exact impT (.c eG0 (.c (imp  _) .n))))))
    · skip
      have hw : gl o g.vs = none := by
        cases hg : gl o g.vs with
        | none => rfl
        | some w => exact absurd (at_ge.2 ⟨w, hg⟩) (of_decide_eq_false hc)
      refine WP.seq ?_
      refine WP.region ?_
      refine WL.op (fv fo_ef36_Family_1 (ot rfl)) (by decide) ?_
      refine WL.op (lb 1 rfl sc_s_tegularef36_Volume (ot rfl) rfl) (by decide) ?_
      refine WL.op (len_ us_s_tegularef36_Volume (ot rfl)) (by decide) ?_
      refine WL.op (geq (ot rfl) (oc _)) (by decide) ?_
      refine WL.op (asg (ot rfl)) (by decide) ?_
      refine WL.nl (.thn ?_)
      refine WP.cond rfl (fun hc => ?_) (fun hc => ?_)
      · skip
        have hn32 : 32 ≤ g.vs.length := by have := of_decide_eq_true hc; omega
        refine WP.seq ?_
        refine WP.region ?_
        refine WL.op (bld zr_ef36_Family rfl ps_ef36_Family .n) (by decide) ?_
        refine WL.store 0 rfl (ot rfl) (ot rfl) (.agg _) sz_ef36_Family rfl (le_ rfl) ?_
        refine WL.op (asg (oc _)) (by decide) ?_
        refine WL.nl (.thn ?_)
        exact WP.rt (.rblk (.rthn (.rN rfl (.cons (.bx 0 rfl rfl ag_ef36_Family) (.cons (.tm rfl) .nil)) (le_ rfl) (by rw [show rClone g s o = (default, 7) from by unfold rClone; rw [hl]; dsimp only; rw [if_neg hb, hw]; exact if_pos hn32]; exact impT (.c eG0 (.c (imp  _) .n))))))
      · skip
        have hn32 : ¬ 32 ≤ g.vs.length := by have := of_decide_eq_false hc; omega
        refine WP.sk (.blk (.thn ?_))
        refine WP.seq ?_
        refine WP.region ?_
        refine WL.op (fv fo_ef36_Family_1 (ot rfl)) (by decide) ?_
        refine WL.op (lb 1 rfl sc_s_tegularef36_Volume (ot rfl) rfl) (by decide) ?_
        refine WL.op (mv (ot rfl)) (by decide) ?_
        refine WL.op (OpG.weak (R' := at_ (FRV v)) (ixd el_s_tegularef36_Volume (ot rfl) (ot  rfl) (by omega) (by omega)) (imp_eq (congrArg (fun v => at_ (FRV v)) hv))) (by decide) ?_
        refine WL.op (ls ag_ef36_Volume (ot rfl) (le_ rfl)) (by decide) ?_
        refine WL.alloc zr_ef36_Volume rfl (by decide) fun b9 => ?_
        refine WL.store 0 rfl (ot rfl) (ot rfl) (.agg _) sz_ef36_Volume rfl (le_ rfl) ?_
        refine WL.nl (.thn ?_)
        refine WP.seq ?_
        refine WP.region ?_
        refine WL.op (mv (ot rfl)) (by decide) ?_
        refine WL.op (fv fo_ef36_Volume_0 (ot rfl)) (by decide) ?_
        refine WL.store 0 rfl (ot rfl) (ot rfl) (.leaf (.val rfl)) sz_string rfl (le_ rfl) ?_
        refine WL.op (fv fo_ef36_Volume_2 (ot rfl)) (by decide) ?_
        refine WL.store 0 rfl (ot rfl) (oc _) (.leaf (.val rfl)) sz_int rfl (le_ rfl) ?_
        refine WL.nl (.thn ?_)
        refine WP.seq ?_
        refine WP.region ?_
        refine WL.op (lbs 2 rfl ag_ef36_Family (ot rfl) (le_ rfl)) (by decide) ?_
        refine WL.op (lbs 0 rfl ag_ef36_Volume (ot rfl) (le_ rfl)) (by decide) ?_
        refine WL.op (call (c_r36_Family_with (v := ⟨o, v.n, 0, v.l⟩) hl0) (.c (ot rfl) (.c (ot rfl) .n))) (by decide) ?_
        refine WL.store 1 rfl (ot rfl) (ot rfl) (.agg _) sz_ef36_Family rfl (le_ rfl) ?_
        refine WL.op (asg (oc _)) (by decide) ?_
        refine WL.nl (.thn ?_)
        exact WP.rt (.rN rfl (.cons (.bx 1 rfl rfl ag_ef36_Family) (.cons (.tm rfl) .nil)) (le_ rfl) (by rw [show rClone g s o = (rWith g ⟨o, v.n, 0, v.l⟩, 0) from by unfold rClone; rw [hl]; dsimp only; rw [if_neg hb, hw]; exact if_neg hn32]; exact imp  _))
theorem c_r36_Family_Clone {g : RF} {s o : ByteArray} (ho : o.size ≤ 9223372036854775807) (hl0 : g.vs.length ≤ 1000) : PureC Tryz.prog 58 [eG g, val (.string s), val (.string o)] (tup [eG (rClone g s o).1, I (rClone g s o).2]) := by
  cases hl : gl s g.vs with
  | none => exact c_rClone_none hl0 hl
  | some v => obtain ⟨i, h1, h2, h3⟩ := at_get hl; exact c_rClone_some ho hl0 h2 h1 h3 hl

theorem asg_gok {g : RF} (h : GOk g) {s : ByteArray} {v : RV} {x : X} (hl : gl s g.vs = some v) (hz : asgOk g v x = true) : GOk (rAsg g v x) := by
  obtain ⟨q1, q2, q3, q4⟩ := asg_iff.1 hz
  obtain ⟨q5, q6, q7⟩ := inB_iff.1 q2
  have hvk := h.vol v (gl_mem hl).1
  have hk := h.k
  have hn := hvk.n
  have hms : gl v.s g.vs = some v := by rw [(gl_mem hl).2]; exact hl
  have hpr : Pr x := ⟨q1, ⟨q5, by omega, by omega, by omega⟩, ⟨q3, by omega, by omega, by omega⟩⟩
  unfold rAsg rPut
  rw [if_pos hpr]
  exact gok_with h (vok_put hvk hk q1 q5 q7 q3 q4) (oth_lt h hms).1
theorem unm_gok {g : RF} (h : GOk g) {s : ByteArray} {v : RV} {a n : Int} (hl : gl s g.vs = some v) (hz : inB v.n a n = true) : GOk (rUnm g v a n) := by
  obtain ⟨q5, q6, q7⟩ := inB_iff.1 hz
  have hvk := h.vol v (gl_mem hl).1
  have hn := hvk.n
  have hms : gl v.s g.vs = some v := by rw [(gl_mem hl).2]; exact hl
  unfold rUnm rCut
  rw [if_pos ⟨q5, q6, by omega, by omega⟩]
  exact gok_with h (vok_cut hvk q5 q6 (by omega)) (oth_lt h hms).1
theorem del_gok {g : RF} (h : GOk g) {s : ByteArray} {v : RV} (hl : gl s g.vs = some v) : rDel g (rAt g.vs s).toNat = ⟨g.k, oth s g.vs⟩ ∧ GOk (rDel g (rAt g.vs s).toNat) := by
  obtain ⟨i, i1, i2, i3, i4⟩ := at_some hl
  have e : rDel g (rAt g.vs s).toNat = ⟨g.k, oth s g.vs⟩ := by
    unfold rDel
    rw [i2, Int.toNat_natCast, del_eq h.srt i2 i1]
  refine ⟨e, ?_⟩
  rw [e]
  exact ⟨h.k, h.srt.filter _, fun w hw => h.vol w (oth_mem.1 hw).1, Nat.le_trans oth_len h.num⟩
theorem c_rAssign_none {g : RF} {s : ByteArray} {x : X} (hl0 : g.vs.length ≤ 1000) (hl : gl s g.vs = none) : PureC Tryz.prog 84 [eG g, val (.string s), ext x] (tup [eG (rAssign g s x).1, sl 3 FX (rAssign g s x).2.1, I (rAssign g s x).2.2]) := by
  refine PureC.of_wp Tryz.func84 (by kernel_rfl) rfl Tryz.ntmps84 (le_ rfl) (fun w0 M0 => ?_)
  refine WP.seq ?_
  refine WP.region ?_
  refine WL.box (ot rfl) (.agg _) (by decide) fun b3 => ?_
  refine WL.box (ot rfl) (.agg _) (by decide) fun b5 => ?_
  refine WL.alloc zr_ef36_Family rfl (by decide) fun b6 => ?_
  refine WL.op (asg (oc _)) (by decide) ?_
  refine WL.op (asg (oc _)) (by decide) ?_
  refine WL.nl (.thn ?_)
  refine WP.seq ?_
  refine WP.region ?_
  refine WL.op (lbs 2 rfl ag_ef36_Family (ot rfl) (le_ rfl)) (by decide) ?_
  refine WL.op (mv (ot rfl)) (by decide) ?_
  refine WL.op (OpG.weak (R' := I (-1)) (call (c_r36_Family_At  hl0) (.c (ot rfl) (.c (ot rfl) .n))) (imp_eq (congrArg I (at_none hl).1))) (by decide) ?_
  refine WL.op (asg (ot rfl)) (by decide) ?_
  refine WL.nl (.thn ?_)
  refine WP.seq ?_
  refine WP.seq ?_
  refine WP.region ?_
  refine WL.op (mv (ot rfl)) (by decide) ?_
  refine WL.op (OpG.weak (R' := val (.bool true)) (lss (ot rfl)  (oc _)) (imp_eq (congrArg (fun b => val (.bool b)) (decide_eq_true (by omega))))) (by decide) ?_
  refine WL.nl (.thn ?_)
  refine WP.condT rfl ?_
  refine WP.seq ?_
  refine WP.region ?_
  refine WL.op (bld zr_ef36_Family rfl ps_ef36_Family .n) (by decide) ?_
  refine WL.store 0 rfl (ot rfl) (ot rfl) (.agg _) sz_ef36_Family rfl (le_ rfl) ?_
  refine WL.op (asg (oc _)) (by decide) ?_
  refine WL.op (asg (oc _)) (by decide) ?_
  refine WL.nl (.thn ?_)
  exact WP.rt (.rthn (.rN rfl (.cons (.bx 0 rfl rfl ag_ef36_Family) (.cons (.tm rfl) (.cons (.tm rfl) .nil))) (le_ rfl) (by rw [show rAssign g s x = (default, [], 9) from by unfold rAssign; rw [hl]]; exact impT (.c eG0 (.c sl_nil (.c (imp  _) .n))))))
theorem c_rAssign_some {g : RF} {s : ByteArray} {x : X} (h : GOk g) (hsm : Sm g) {i : Nat} {v : RV} (hi : rAt g.vs s = i) (hil : i < g.vs.length) (hv : g.vs.getD (i : Int).toNat default = v) (hl : gl s g.vs = some v) : PureC Tryz.prog 84 [eG g, val (.string s), ext x] (tup [eG (rAssign g s x).1, sl 3 FX (rAssign g s x).2.1, I (rAssign g s x).2.2]) := by
  have hgk := h.k
  have hl0 : g.vs.length ≤ 1000 := by have := h.num; omega
  have hvk := h.vol v (gl_mem hl).1
  have hvn : 0 ≤ v.n ∧ v.n ≤ 65536 := by have := hvk.n; omega
  have hvl := sm_len hvk (hsm v (gl_mem hl).1)
  refine PureC.of_wp Tryz.func84 (by kernel_rfl) rfl Tryz.ntmps84 (le_ rfl) (fun w0 M0 => ?_)
  refine WP.seq ?_
  refine WP.region ?_
  refine WL.box (ot rfl) (.agg _) (by decide) fun b3 => ?_
  refine WL.box (ot rfl) (.agg _) (by decide) fun b5 => ?_
  refine WL.alloc zr_ef36_Family rfl (by decide) fun b6 => ?_
  refine WL.op (asg (oc _)) (by decide) ?_
  refine WL.op (asg (oc _)) (by decide) ?_
  refine WL.nl (.thn ?_)
  refine WP.seq ?_
  refine WP.region ?_
  refine WL.op (lbs 2 rfl ag_ef36_Family (ot rfl) (le_ rfl)) (by decide) ?_
  refine WL.op (mv (ot rfl)) (by decide) ?_
  refine WL.op (OpG.weak (R' := I (i : Int)) (call (c_r36_Family_At  hl0) (.c (ot rfl) (.c (ot rfl) .n))) (imp_eq (congrArg I hi))) (by decide) ?_
  refine WL.op (asg (ot rfl)) (by decide) ?_
  refine WL.nl (.thn ?_)
  refine WP.seq ?_
  refine WP.seq ?_
  refine WP.region ?_
  refine WL.op (mv (ot rfl)) (by decide) ?_
  refine WL.op (OpG.weak (R' := val (.bool false)) (lss (ot rfl)  (oc _)) (imp_eq (congrArg (fun b => val (.bool b)) (decide_eq_false (by omega))))) (by decide) ?_
  refine WL.nl (.thn ?_)
  refine WP.condF rfl ?_
  refine WP.sk (.thn ?_)
  refine WP.seq ?_
  refine WP.region ?_
  refine WL.op (fv fo_ef36_Family_1 (ot rfl)) (by decide) ?_
  refine WL.op (lb 2 rfl sc_s_tegularef36_Volume (ot rfl) rfl) (by decide) ?_
  refine WL.op (mv (ot rfl)) (by decide) ?_
  refine WL.op (OpG.weak (R' := at_ (FRV v)) (ixd el_s_tegularef36_Volume (ot rfl) (ot  rfl) (by omega) (by omega)) (imp_eq (congrArg (fun v => at_ (FRV v)) hv))) (by decide) ?_
  refine WL.op (ls ag_ef36_Volume (ot rfl) (le_ rfl)) (by decide) ?_
  refine WL.alloc zr_ef36_Volume rfl (by decide) fun b10 => ?_
  refine WL.store 0 rfl (ot rfl) (ot rfl) (.agg _) sz_ef36_Volume rfl (le_ rfl) ?_
  refine WL.nl (.thn ?_)
  refine WP.seq ?_
  refine WP.seq ?_
  refine WP.region ?_
  refine WL.op (fv fo_Extent_1 (ot rfl)) (by decide) ?_
  refine WL.op (lb 2 rfl sc_int (ot rfl) rfl) (by decide) ?_
  refine WL.op (lss (ot rfl) (oc _)) (by decide) ?_
  refine WL.op (mv (ot rfl)) (by decide) ?_
  refine WL.gd rfl rfl (Tells.v _ _) (fun hg => lbs 0 rfl ag_ef36_Volume (ot rfl) (le_ rfl)) (by decide) ?_
  refine WL.gd rfl rfl (Tells.v _ _) (fun hg => fv fo_Extent_0 (ot rfl)) (by decide) ?_
  refine WL.gd rfl rfl (Tells.v _ _) (fun hg => lb 2 rfl sc_int (og rfl hg) rfl) (by decide) ?_
  refine WL.gd rfl rfl (Tells.v _ _) (fun hg => fv fo_Extent_1 (ot rfl)) (by decide) ?_
  refine WL.gd rfl rfl (Tells.v _ _) (fun hg => lb 2 rfl sc_int (og rfl hg) rfl) (by decide) ?_
  refine WL.gd rfl rfl (Tells.v _ _) (fun hg => call (c_r36_Volume_inside (v := v) hvn) (.c (og rfl hg) (.c (og rfl hg) (.c (og rfl hg) .n)))) (by decide) ?_
  refine WL.gd rfl rfl (Tells.v _ _) (fun hg => not_ (og rfl hg)) (by decide) ?_
  refine WL.op (or_ (ot rfl) (ot rfl)) (by decide) ?_
  refine WL.op (mv (ot rfl)) (by decide) ?_
  refine WL.gd rfl rfl (Tells.v _ _) (fun hg => fv fo_Extent_2 (ot rfl)) (by decide) ?_
  refine WL.gd rfl rfl (Tells.v _ _) (fun hg => lb 2 rfl sc_int (og rfl hg) rfl) (by decide) ?_
  refine WL.gd rfl rfl (Tells.v _ _) (fun hg => lss (og rfl hg) (oc _)) (by decide) ?_
  refine WL.op (or_ (ot rfl) (ot rfl)) (by decide) ?_
  refine WL.op (mv (ot rfl)) (by decide) ?_
  refine WL.gd rfl rfl (Tells.v _ _) (fun hg => fv fo_Extent_2 (ot rfl)) (by decide) ?_
  refine WL.gd rfl rfl (Tells.v _ _) (fun hg => lb 2 rfl sc_int (og rfl hg) rfl) (by decide) ?_
  refine WL.gd rfl rfl (Tells.v _ _) (fun hg => fv fo_ef36_Family_0 (ot rfl)) (by decide) ?_
  refine WL.gd rfl rfl (Tells.v _ _) (fun hg => lb 3 rfl sc_int (og rfl hg) rfl) (by decide) ?_
  refine WL.gd rfl rfl (Tells.v _ _) (fun hg => gtr (og rfl hg) (og rfl hg)) (by decide) ?_
  refine WL.op (or_ (ot rfl) (ot rfl)) (by decide) ?_
  refine WL.op (mv (ot rfl)) (by decide) ?_
  refine WL.gd rfl rfl (Tells.v _ _) (fun hg => fv fo_Extent_2 (ot rfl)) (by decide) ?_
  refine WL.gd rfl rfl (Tells.v _ _) (fun hg => lb 2 rfl sc_int (og rfl hg) rfl) (by decide) ?_
  refine WL.gd rfl rfl (Tells.v _ _) (fun hg => fv fo_Extent_1 (ot rfl)) (by decide) ?_
  refine WL.gd rfl rfl (Tells.v _ _) (fun hg => lb 2 rfl sc_int (og rfl hg) rfl) (by decide) ?_
  refine WL.gd rfl rfl (Tells.v _ _) (fun hg => add (og rfl hg) (og rfl hg) (by simp only [Bool.or_eq_false_iff, Bool.not_eq_false', decide_eq_false_iff_not] at hg; obtain ⟨⟨⟨q1, q2⟩, q3⟩, q4⟩ := hg; have := inB_iff.1 q2; omega)) (by decide) ?_
  refine WL.gd rfl rfl (Tells.v _ _) (fun hg => fv fo_ef36_Family_0 (ot rfl)) (by decide) ?_
  refine WL.gd rfl rfl (Tells.v _ _) (fun hg => lb 3 rfl sc_int (og rfl hg) rfl) (by decide) ?_
  refine WL.gd rfl rfl (Tells.v _ _) (fun hg => gtr (og rfl hg) (og rfl hg)) (by decide) ?_
  refine WL.op (or_ (ot rfl) (ot rfl)) (by decide) ?_
  refine WL.nl (.thn ?_)
  refine WP.condB (!asgOk g v x) rfl asg_test (fun hc => ?_) (fun hc => ?_)
  · skip
    have hz : ¬ asgOk g v x = true := by simpa using hc
    refine WP.seq ?_
    refine WP.region ?_
    refine WL.op (bld zr_ef36_Family rfl ps_ef36_Family .n) (by decide) ?_
    refine WL.store 1 rfl (ot rfl) (ot rfl) (.agg _) sz_ef36_Family rfl (le_ rfl) ?_
    refine WL.op (asg (oc _)) (by decide) ?_
    refine WL.op (asg (oc _)) (by decide) ?_
    refine WL.nl (.thn ?_)
    exact WP.rt (.rthn (.rN rfl (.cons (.bx 1 rfl rfl ag_ef36_Family) (.cons (.tm rfl) (.cons (.tm rfl) .nil))) (le_ rfl) (by rw [show rAssign g s x = (default, [], 2) from by unfold rAssign; rw [hl]; exact if_neg hz]; exact impT (.c eG0 (.c sl_nil (.c (imp  _) .n))))))
  · skip
    have hz : asgOk g v x = true := by simpa using hc
    have hq := asg_gok h hl hz
    refine WP.sk (.thn ?_)
    refine WP.seq ?_
    refine WP.region ?_
    refine WL.op (fv fo_ef36_Volume_3 (ot rfl)) (by decide) ?_
    refine WL.op (lb 0 rfl sc_s_api_Extent (ot rfl) rfl) (by decide) ?_
    refine WL.op (lbs 2 rfl ag_Extent (ot rfl) (le_ rfl)) (by decide) ?_
    refine WL.op (call (c_r32_Put (xs := v.l) (x := x) (by omega) hvk.ok) (.c (ot rfl) (.c (ot rfl) .n))) (by decide) ?_
    refine WL.op (mv (ot rfl)) (by decide) ?_
    refine WL.op (ex (ot rfl) rfl) (by decide) ?_
    refine WL.op (ex (ot rfl) rfl) (by decide) ?_
    refine WL.op (ex (ot rfl) rfl) (by decide) ?_
    refine WL.op (fv fo_ef36_Volume_3 (ot rfl)) (by decide) ?_
    refine WL.store 0 rfl (ot rfl) (ot rfl) (.leaf (.sl _ _ _)) sz_s_api_Extent rfl (le_ rfl) ?_
    refine WL.nl (.thn ?_)
    refine WP.seq ?_
    refine WP.region ?_
    refine WL.op (lbs 3 rfl ag_ef36_Family (ot rfl) (le_ rfl)) (by decide) ?_
    refine WL.op (lbs 0 rfl ag_ef36_Volume (ot rfl) (le_ rfl)) (by decide) ?_
    refine WL.op (call (c_r36_Family_with (v := ⟨v.s, v.n, v.r, (rPut v.l x).1⟩) hl0) (.c (ot rfl) (.c (ot rfl) .n))) (by decide) ?_
    refine WL.alloc zr_ef36_Family rfl (by decide) fun b11 => ?_
    refine WL.store 0 rfl (ot rfl) (ot rfl) (.agg _) sz_ef36_Family rfl (le_ rfl) ?_
    refine WL.nl (.thn ?_)
    refine WP.seq ?_
    refine WP.draws ?_
    refine RG.op (lbs 0 rfl ag_ef36_Family (ot rfl) (le_ rfl)) ?_
    refine RG.op (lbs 4 rfl ag_ef36_Family (ot rfl) (le_ rfl)) ?_
    refine RG.op (lbs 0 rfl ag_ef36_Family (ot rfl) (le_ rfl)) ?_
    refine RG.op (call (c_r36_Family_freed (q := rAsg g v x) h hq rfl) (.c (ot rfl) (.c (ot rfl) .n))) ?_
    refine RG.fin HM (by kernel_rfl) ?_
    show WL _ _ _ _ _ _ _ _ _
    refine WL.store 2 rfl (ot rfl) (ot rfl) (.agg _) sz_ef36_Family rfl (le_ rfl) ?_
    refine WL.op (asg (ot rfl)) (by decide) ?_
    refine WL.op (asg (oc _)) (by decide) ?_
    refine WL.nl (.thn ?_)
    exact WP.rt (.rN rfl (.cons (.bx 2 rfl rfl ag_ef36_Family) (.cons (.tm rfl) (.cons (.tm rfl) .nil))) (le_ rfl) (by rw [show rAssign g s x = (rAsg g v x, rFreed g (rAsg g v x), 0) from by unfold rAssign; rw [hl]; exact if_pos hz]; exact imp  _))
theorem c_r36_Family_Assign {g : RF} {s : ByteArray} {x : X} (h : GOk g) (hsm : Sm g) : PureC Tryz.prog 84 [eG g, val (.string s), ext x] (tup [eG (rAssign g s x).1, sl 3 FX (rAssign g s x).2.1, I (rAssign g s x).2.2]) := by
  have hl0 : g.vs.length ≤ 1000 := by have := h.num; omega
  cases hl : gl s g.vs with
  | none => exact c_rAssign_none hl0 hl
  | some v => obtain ⟨i, h1, h2, h3⟩ := at_get hl; exact c_rAssign_some h hsm h2 h1 h3 hl

theorem c_rUnmap_none {g : RF} {s : ByteArray} {a n : Int} (hl0 : g.vs.length ≤ 1000) (hl : gl s g.vs = none) : PureC Tryz.prog 83 [eG g, val (.string s), I a, I n] (tup [eG (rUnmap g s a n).1, sl 3 FX (rUnmap g s a n).2.1, I (rUnmap g s a n).2.2]) := by
  refine PureC.of_wp Tryz.func83 (by kernel_rfl) rfl Tryz.ntmps83 (le_ rfl) (fun w0 M0 => ?_)
  refine WP.seq ?_
  refine WP.region ?_
  refine WL.box (ot rfl) (.agg _) (by decide) fun b4 => ?_
  refine WL.alloc zr_ef36_Family rfl (by decide) fun b8 => ?_
  refine WL.op (asg (oc _)) (by decide) ?_
  refine WL.op (asg (oc _)) (by decide) ?_
  refine WL.nl (.thn ?_)
  refine WP.seq ?_
  refine WP.region ?_
  refine WL.op (lbs 1 rfl ag_ef36_Family (ot rfl) (le_ rfl)) (by decide) ?_
  refine WL.op (mv (ot rfl)) (by decide) ?_
  refine WL.op (OpG.weak (R' := I (-1)) (call (c_r36_Family_At  hl0) (.c (ot rfl) (.c (ot rfl) .n))) (imp_eq (congrArg I (at_none hl).1))) (by decide) ?_
  refine WL.op (asg (ot rfl)) (by decide) ?_
  refine WL.nl (.thn ?_)
  refine WP.seq ?_
  refine WP.seq ?_
  refine WP.region ?_
  refine WL.op (mv (ot rfl)) (by decide) ?_
  refine WL.op (OpG.weak (R' := val (.bool true)) (lss (ot rfl)  (oc _)) (imp_eq (congrArg (fun b => val (.bool b)) (decide_eq_true (by omega))))) (by decide) ?_
  refine WL.nl (.thn ?_)
  refine WP.condT rfl ?_
  refine WP.seq ?_
  refine WP.region ?_
  refine WL.op (bld zr_ef36_Family rfl ps_ef36_Family .n) (by decide) ?_
  refine WL.store 0 rfl (ot rfl) (ot rfl) (.agg _) sz_ef36_Family rfl (le_ rfl) ?_
  refine WL.op (asg (oc _)) (by decide) ?_
  refine WL.op (asg (oc _)) (by decide) ?_
  refine WL.nl (.thn ?_)
  exact WP.rt (.rthn (.rN rfl (.cons (.bx 0 rfl rfl ag_ef36_Family) (.cons (.tm rfl) (.cons (.tm rfl) .nil))) (le_ rfl) (by rw [show rUnmap g s a n = (default, [], 9) from by unfold rUnmap; rw [hl]]; exact impT (.c eG0 (.c sl_nil (.c (imp  _) .n))))))
theorem c_rUnmap_some {g : RF} {s : ByteArray} {a n : Int} (h : GOk g) (hsm : Sm g) {i : Nat} {v : RV} (hi : rAt g.vs s = i) (hil : i < g.vs.length) (hv : g.vs.getD (i : Int).toNat default = v) (hl : gl s g.vs = some v) : PureC Tryz.prog 83 [eG g, val (.string s), I a, I n] (tup [eG (rUnmap g s a n).1, sl 3 FX (rUnmap g s a n).2.1, I (rUnmap g s a n).2.2]) := by
  have hl0 : g.vs.length ≤ 1000 := by have := h.num; omega
  have hvk := h.vol v (gl_mem hl).1
  have hvn : 0 ≤ v.n ∧ v.n ≤ 65536 := by have := hvk.n; omega
  have hvl := sm_len hvk (hsm v (gl_mem hl).1)
  refine PureC.of_wp Tryz.func83 (by kernel_rfl) rfl Tryz.ntmps83 (le_ rfl) (fun w0 M0 => ?_)
  refine WP.seq ?_
  refine WP.region ?_
  refine WL.box (ot rfl) (.agg _) (by decide) fun b4 => ?_
  refine WL.alloc zr_ef36_Family rfl (by decide) fun b8 => ?_
  refine WL.op (asg (oc _)) (by decide) ?_
  refine WL.op (asg (oc _)) (by decide) ?_
  refine WL.nl (.thn ?_)
  refine WP.seq ?_
  refine WP.region ?_
  refine WL.op (lbs 1 rfl ag_ef36_Family (ot rfl) (le_ rfl)) (by decide) ?_
  refine WL.op (mv (ot rfl)) (by decide) ?_
  refine WL.op (OpG.weak (R' := I (i : Int)) (call (c_r36_Family_At  hl0) (.c (ot rfl) (.c (ot rfl) .n))) (imp_eq (congrArg I hi))) (by decide) ?_
  refine WL.op (asg (ot rfl)) (by decide) ?_
  refine WL.nl (.thn ?_)
  refine WP.seq ?_
  refine WP.seq ?_
  refine WP.region ?_
  refine WL.op (mv (ot rfl)) (by decide) ?_
  refine WL.op (OpG.weak (R' := val (.bool false)) (lss (ot rfl)  (oc _)) (imp_eq (congrArg (fun b => val (.bool b)) (decide_eq_false (by omega))))) (by decide) ?_
  refine WL.nl (.thn ?_)
  refine WP.condF rfl ?_
  refine WP.sk (.thn ?_)
  refine WP.seq ?_
  refine WP.region ?_
  refine WL.op (fv fo_ef36_Family_1 (ot rfl)) (by decide) ?_
  refine WL.op (lb 1 rfl sc_s_tegularef36_Volume (ot rfl) rfl) (by decide) ?_
  refine WL.op (mv (ot rfl)) (by decide) ?_
  refine WL.op (OpG.weak (R' := at_ (FRV v)) (ixd el_s_tegularef36_Volume (ot rfl) (ot  rfl) (by omega) (by omega)) (imp_eq (congrArg (fun v => at_ (FRV v)) hv))) (by decide) ?_
  refine WL.op (ls ag_ef36_Volume (ot rfl) (le_ rfl)) (by decide) ?_
  refine WL.alloc zr_ef36_Volume rfl (by decide) fun b12 => ?_
  refine WL.store 0 rfl (ot rfl) (ot rfl) (.agg _) sz_ef36_Volume rfl (le_ rfl) ?_
  refine WL.nl (.thn ?_)
  refine WP.seq ?_
  refine WP.seq ?_
  refine WP.region ?_
  refine WL.op (lbs 0 rfl ag_ef36_Volume (ot rfl) (le_ rfl)) (by decide) ?_
  refine WL.op (mv (ot rfl)) (by decide) ?_
  refine WL.op (mv (ot rfl)) (by decide) ?_
  refine WL.op (call (c_r36_Volume_inside (v := v) hvn) (.c (ot rfl) (.c (ot rfl) (.c (ot rfl) .n)))) (by decide) ?_
  refine WL.op (not_ (ot rfl)) (by decide) ?_
  refine WL.nl (.thn ?_)
  refine WP.cond rfl (fun hc => ?_) (fun hc => ?_)
  · skip
    have hz : ¬ inB v.n a n = true := by simpa using hc
    refine WP.seq ?_
    refine WP.region ?_
    refine WL.op (bld zr_ef36_Family rfl ps_ef36_Family .n) (by decide) ?_
    refine WL.store 1 rfl (ot rfl) (ot rfl) (.agg _) sz_ef36_Family rfl (le_ rfl) ?_
    refine WL.op (asg (oc _)) (by decide) ?_
    refine WL.op (asg (oc _)) (by decide) ?_
    refine WL.nl (.thn ?_)
    exact WP.rt (.rthn (.rN rfl (.cons (.bx 1 rfl rfl ag_ef36_Family) (.cons (.tm rfl) (.cons (.tm rfl) .nil))) (le_ rfl) (by rw [show rUnmap g s a n = (default, [], 2) from by unfold rUnmap; rw [hl]; exact if_neg hz]; exact impT (.c eG0 (.c sl_nil (.c (imp  _) .n))))))
  · skip
    have hz : inB v.n a n = true := by simpa using hc
    have hq := unm_gok h hl hz
    refine WP.sk (.thn ?_)
    refine WP.seq ?_
    refine WP.region ?_
    refine WL.op (fv fo_ef36_Volume_3 (ot rfl)) (by decide) ?_
    refine WL.op (lb 0 rfl sc_s_api_Extent (ot rfl) rfl) (by decide) ?_
    refine WL.op (mv (ot rfl)) (by decide) ?_
    refine WL.op (mv (ot rfl)) (by decide) ?_
    refine WL.op (call (c_r32_Cut (xs := v.l) (by omega) hvk.ok) (.c (ot rfl) (.c (ot rfl) (.c (ot rfl) .n)))) (by decide) ?_
    refine WL.op (mv (ot rfl)) (by decide) ?_
    refine WL.op (ex (ot rfl) rfl) (by decide) ?_
    refine WL.op (ex (ot rfl) rfl) (by decide) ?_
    refine WL.op (ex (ot rfl) rfl) (by decide) ?_
    refine WL.op (fv fo_ef36_Volume_3 (ot rfl)) (by decide) ?_
    refine WL.store 0 rfl (ot rfl) (ot rfl) (.leaf (.sl _ _ _)) sz_s_api_Extent rfl (le_ rfl) ?_
    refine WL.nl (.thn ?_)
    refine WP.seq ?_
    refine WP.region ?_
    refine WL.op (lbs 2 rfl ag_ef36_Family (ot rfl) (le_ rfl)) (by decide) ?_
    refine WL.op (lbs 0 rfl ag_ef36_Volume (ot rfl) (le_ rfl)) (by decide) ?_
    refine WL.op (call (c_r36_Family_with (v := ⟨v.s, v.n, v.r, (rCut v.l a n).1⟩) hl0) (.c (ot rfl) (.c (ot rfl) .n))) (by decide) ?_
    refine WL.alloc zr_ef36_Family rfl (by decide) fun b13 => ?_
    refine WL.store 0 rfl (ot rfl) (ot rfl) (.agg _) sz_ef36_Family rfl (le_ rfl) ?_
    refine WL.nl (.thn ?_)
    refine WP.seq ?_
    refine WP.draws ?_
    refine RG.op (lbs 0 rfl ag_ef36_Family (ot rfl) (le_ rfl)) ?_
    refine RG.op (lbs 3 rfl ag_ef36_Family (ot rfl) (le_ rfl)) ?_
    refine RG.op (lbs 0 rfl ag_ef36_Family (ot rfl) (le_ rfl)) ?_
    refine RG.op (call (c_r36_Family_freed (q := rUnm g v a n) h hq rfl) (.c (ot rfl) (.c (ot rfl) .n))) ?_
    refine RG.fin HM (by kernel_rfl) ?_
    show WL _ _ _ _ _ _ _ _ _
    refine WL.store 2 rfl (ot rfl) (ot rfl) (.agg _) sz_ef36_Family rfl (le_ rfl) ?_
    refine WL.op (asg (ot rfl)) (by decide) ?_
    refine WL.op (asg (oc _)) (by decide) ?_
    refine WL.nl (.thn ?_)
    exact WP.rt (.rN rfl (.cons (.bx 2 rfl rfl ag_ef36_Family) (.cons (.tm rfl) (.cons (.tm rfl) .nil))) (le_ rfl) (by rw [show rUnmap g s a n = (rUnm g v a n, rFreed g (rUnm g v a n), 0) from by unfold rUnmap; rw [hl]; exact if_pos hz]; exact imp  _))
theorem c_r36_Family_Unmap {g : RF} {s : ByteArray} {a n : Int} (h : GOk g) (hsm : Sm g) : PureC Tryz.prog 83 [eG g, val (.string s), I a, I n] (tup [eG (rUnmap g s a n).1, sl 3 FX (rUnmap g s a n).2.1, I (rUnmap g s a n).2.2]) := by
  have hl0 : g.vs.length ≤ 1000 := by have := h.num; omega
  cases hl : gl s g.vs with
  | none => exact c_rUnmap_none hl0 hl
  | some v => obtain ⟨i, h1, h2, h3⟩ := at_get hl; exact c_rUnmap_some h hsm h2 h1 h3 hl

end Go.Proofs.YtjglgfnhgehpeaaGreat

/- The reference of families: Delete, what is asked, steps. -/
set_option linter.unusedVariables false
set_option linter.unusedSimpArgs false
set_option maxRecDepth 4000
namespace Go.Proofs.YtjglgfnhgehpeaaGreat
open Go.RowKit Go.Fw Go.Xt
theorem c_rDelete_none {g : RF} {s : ByteArray} (hl0 : g.vs.length ≤ 1000) (hl : gl s g.vs = none) : PureC Tryz.prog 82 [eG g, val (.string s)] (tup [eG (rDelete g s).1, sl 3 FX (rDelete g s).2.1, I (rDelete g s).2.2]) := by
  refine PureC.of_wp Tryz.func82 (by kernel_rfl) rfl Tryz.ntmps82 (le_ rfl) (fun w0 M0 => ?_)
  refine WP.seq ?_
  refine WP.region ?_
  refine WL.box (ot rfl) (.agg _) (by decide) fun b2 => ?_
  refine WL.alloc zr_ef36_Family rfl (by decide) fun b4 => ?_
  refine WL.op (asg (oc _)) (by decide) ?_
  refine WL.op (asg (oc _)) (by decide) ?_
  refine WL.nl (.thn ?_)
  refine WP.seq ?_
  refine WP.region ?_
  refine WL.op (lbs 1 rfl ag_ef36_Family (ot rfl) (le_ rfl)) (by decide) ?_
  refine WL.op (mv (ot rfl)) (by decide) ?_
  refine WL.op (OpG.weak (R' := I (-1)) (call (c_r36_Family_At  hl0) (.c (ot rfl) (.c (ot rfl) .n))) (imp_eq (congrArg I (at_none hl).1))) (by decide) ?_
  refine WL.op (asg (ot rfl)) (by decide) ?_
  refine WL.nl (.thn ?_)
  refine WP.seq ?_
  refine WP.seq ?_
  refine WP.region ?_
  refine WL.op (mv (ot rfl)) (by decide) ?_
  refine WL.op (OpG.weak (R' := val (.bool true)) (lss (ot rfl)  (oc _)) (imp_eq (congrArg (fun b => val (.bool b)) (decide_eq_true (by omega))))) (by decide) ?_
  refine WL.nl (.thn ?_)
  refine WP.condT rfl ?_
  refine WP.seq ?_
  refine WP.region ?_
  refine WL.op (bld zr_ef36_Family rfl ps_ef36_Family .n) (by decide) ?_
  refine WL.store 0 rfl (ot rfl) (ot rfl) (.agg _) sz_ef36_Family rfl (le_ rfl) ?_
  refine WL.op (asg (oc _)) (by decide) ?_
  refine WL.op (asg (oc _)) (by decide) ?_
  refine WL.nl (.thn ?_)
  exact WP.rt (.rthn (.rN rfl (.cons (.bx 0 rfl rfl ag_ef36_Family) (.cons (.tm rfl) (.cons (.tm rfl) .nil))) (le_ rfl) (by rw [show rDelete g s = (default, [], 9) from by unfold rDelete; rw [hl]]; exact impT (.c eG0 (.c sl_nil (.c (imp  _) .n))))))
def JD (g : RF) (i : Nat) : ChainJ := fun p S B => match p with
  | 0 => S = [] ∧ B = []
  | 1 => ∃ u, u.oneCell' = true ∧ S = [(17, val u)] ∧ B = [.r u 56 4 0 []]
  | 2 => ∃ u v, v.oneCell' = true ∧ S = [(22, val v), (17, val u)] ∧ B = [.r v 56 4 (0 + (g.vs.take (i : Int).toNat).length) ([] ++ (g.vs.take (i : Int).toNat).flatMap FRV)]
  | 3 => ∃ u v x, x.oneCell' = true ∧ S = [(28, val x), (22, val v), (17, val u)] ∧ B = [.r x 56 4 (0 + (g.vs.take (i : Int).toNat).length + (g.vs.drop ((i : Int) + 1).toNat).length) ([] ++ (g.vs.take (i : Int).toNat).flatMap FRV ++ (g.vs.drop ((i : Int) + 1).toNat).flatMap FRV)]
  | _ => ∃ u v x, x.oneCell' = true ∧ S = [(29, agg [I (g.k : Int), val x]), (28, val x), (22, val v), (17, val u)] ∧ B = [.r x 56 4 (0 + (g.vs.take (i : Int).toNat).length + (g.vs.drop ((i : Int) + 1).toNat).length) ([] ++ (g.vs.take (i : Int).toNat).flatMap FRV ++ (g.vs.drop ((i : Int) + 1).toNat).flatMap FRV)]

theorem c_rDelete_some {g : RF} {s : ByteArray} (h : GOk g) {i : Nat} {v : RV} (hi : rAt g.vs s = i) (hil : i < g.vs.length) (hv : g.vs.getD (i : Int).toNat default = v) (hl : gl s g.vs = some v) : PureC Tryz.prog 82 [eG g, val (.string s)] (tup [eG (rDelete g s).1, sl 3 FX (rDelete g s).2.1, I (rDelete g s).2.2]) := by
  have hl0 : g.vs.length ≤ 1000 := by have := h.num; omega
  have hdv : (rDel g (rAt g.vs s).toNat).vs = (g.vs.take (i : Int).toNat) ++ (g.vs.drop ((i : Int) + 1).toNat) := by unfold rDel; rw [hi]; rfl
  have htk : (g.vs.take (i : Int).toNat).length ≤ 1000 := by rw [List.length_take]; omega
  have hdr : (g.vs.drop ((i : Int) + 1).toNat).length ≤ 1000 := by rw [List.length_drop]; omega
  refine PureC.of_wp Tryz.func82 (by kernel_rfl) rfl Tryz.ntmps82 (le_ rfl) (fun w0 M0 => ?_)
  refine WP.seq ?_
  refine WP.region ?_
  refine WL.box (ot rfl) (.agg _) (by decide) fun b2 => ?_
  refine WL.alloc zr_ef36_Family rfl (by decide) fun b4 => ?_
  refine WL.op (asg (oc _)) (by decide) ?_
  refine WL.op (asg (oc _)) (by decide) ?_
  refine WL.nl (.thn ?_)
  refine WP.seq ?_
  refine WP.region ?_
  refine WL.op (lbs 1 rfl ag_ef36_Family (ot rfl) (le_ rfl)) (by decide) ?_
  refine WL.op (mv (ot rfl)) (by decide) ?_
  refine WL.op (OpG.weak (R' := I (i : Int)) (call (c_r36_Family_At  hl0) (.c (ot rfl) (.c (ot rfl) .n))) (imp_eq (congrArg I hi))) (by decide) ?_
  refine WL.op (asg (ot rfl)) (by decide) ?_
  refine WL.nl (.thn ?_)
  refine WP.seq ?_
  refine WP.seq ?_
  refine WP.region ?_
  refine WL.op (mv (ot rfl)) (by decide) ?_
  refine WL.op (OpG.weak (R' := val (.bool false)) (lss (ot rfl)  (oc _)) (imp_eq (congrArg (fun b => val (.bool b)) (decide_eq_false (by omega))))) (by decide) ?_
  refine WL.nl (.thn ?_)
  refine WP.condF rfl ?_
  refine WP.sk (.thn ?_)
  refine WP.seq ?_
  refine WP.drawsC ?_
  refine LG.op (fv fo_ef36_Family_0 (ot rfl)) ?_
  refine LG.op (lb 1 rfl sc_int (ot rfl) rfl) ?_
  refine LG.ld ?_
  refine LG.op (fv fo_ef36_Family_1 (ot rfl)) ?_
  refine LG.op (lb 1 rfl sc_s_tegularef36_Volume (ot rfl) rfl) ?_
  refine LG.op (mv (ot rfl)) ?_
  refine LG.op (slh (T := 43) (by kernel_rfl) el_s_tegularef36_Volume (ot rfl) (ot rfl) (by omega) (by omega)) ?_
  refine LG.ld ?_
  refine LG.op (fv fo_ef36_Family_1 (ot rfl)) ?_
  refine LG.op (lb 1 rfl sc_s_tegularef36_Volume (ot rfl) rfl) ?_
  refine LG.op (mv (ot rfl)) ?_
  refine LG.op (add (ot rfl) (oc _) (by omega)) ?_
  refine LG.op (slt (T := 43) (by kernel_rfl) el_s_tegularef36_Volume (ot rfl) (ot rfl) (by omega) (by omega)) ?_
  refine LG.ld ?_
  refine LG.ld ?_
  refine LG.bx (.alloc zr_ef36_Family rfl) ?_
  refine LG.fin (JD g i) [2, 7, 13, 14] HM (by kernel_rfl) (by kernel_rfl) ⟨rfl, rfl⟩ (.c ?_ (.c ?_ (.c ?_ (.c ?_ .n)))) ?_
  · refine ⟨_, _, _, _, _, [], rfl, .n, fun S D B Bm hJ => ?_⟩
    obtain ⟨rfl, rfl⟩ := hJ
    refine WL.mkr (OpN.bsl0 ei_s_tegularef36_Volume) (by decide) fun u hu => ?_
    exact WL.nil fun a w hok => ⟨_, _, ⟨u, hu, rfl, rfl⟩, hok⟩
  · refine ⟨_, _, _, _, _, [(21, sl 4 FRV (g.vs.take (i : Int).toNat))], rfl, .c 6 rfl (by kernel_rfl) .n, fun S D B Bm hJ => ?_⟩
    obtain ⟨u, hu, rfl, rfl⟩ := hJ
    refine WL.app' (xs := (g.vs.take (i : Int).toNat)) 0 rfl ei_s_tegularef36_Volume (by decide) (ot rfl) (ot rfl) hu (fun _ => rfl) (by omega) (by omega) (by decide) fun v hv => ?_
    exact WL.nil fun a w hok => ⟨_, _, ⟨u, v, hv, rfl, rfl⟩, hok⟩
  · refine ⟨_, _, _, _, _, [(27, sl 4 FRV (g.vs.drop ((i : Int) + 1).toNat))], rfl, .c 12 rfl (by kernel_rfl) .n, fun S D B Bm hJ => ?_⟩
    obtain ⟨u, v, hv, rfl, rfl⟩ := hJ
    refine WL.app' (xs := (g.vs.drop ((i : Int) + 1).toNat)) 0 rfl ei_s_tegularef36_Volume (by decide) (ot rfl) (ot rfl) hv (fun _ => rfl) (by omega) (by omega) (by decide) fun x hx => ?_
    exact WL.nil fun a w hok => ⟨_, _, ⟨u, v, x, hx, rfl, rfl⟩, hok⟩
  · refine ⟨_, _, _, _, _, [(16, I (g.k : Int))], rfl, .c 1 rfl (by kernel_rfl) .n, fun S D B Bm hJ => ?_⟩
    obtain ⟨u, v, x, hx, rfl, rfl⟩ := hJ
    refine WL.op (bld zr_ef36_Family rfl ps_ef36_Family (.c (ot rfl) (.leaf (.val rfl)) pl_ef36_Family_0 rfl (le_ rfl) (.c (ot rfl) (.leaf (.val hx)) pl_ef36_Family_1 rfl (le_ rfl) .n))) (by decide) ?_
    exact WL.nil fun a w hok => ⟨_, _, ⟨u, v, x, hx, rfl, rfl⟩, hok⟩
  intro S B b8 hJ
  obtain ⟨u, v, x, hx, rfl, rfl⟩ := hJ
  refine WL.store 3 rfl (ot rfl) (ot rfl) (.agg _) sz_ef36_Family rfl (le_ rfl) ?_
  refine WL.nl (.thn ?_)
  refine WP.freezeC 0 3 1 FRV (rDel g (rAt g.vs s).toNat).vs rfl rfl rfl (by decide) (fun _ => rfl) (by rw [hdv, List.length_append]; omega) (by rw [hdv, List.flatMap_append, List.nil_append]) ?_
  refine WP.perm (List.perm_append_comm (l₁ := [_, _, _]) (l₂ := [_])) rfl ?_
  show WP _ _ _ _ [_, _, _, _] _ _ _
  refine WP.seq ?_
  refine WP.draws ?_
  refine RG.op (lbs 0 rfl ag_ef36_Family (ot rfl) (le_ rfl)) ?_
  refine RG.op (lbs 3 rfl ag_ef36_Family (ot rfl) (le_ rfl)) ?_
  refine RG.op (lbs 0 rfl ag_ef36_Family (ot rfl) (le_ rfl)) ?_
  refine RG.op (call (c_r36_Family_freed (q := rDel g (rAt g.vs s).toNat) h (del_gok h hl).2 rfl) (.c (ot rfl) (.c (ot rfl) .n))) ?_
  refine RG.fin HM (by kernel_rfl) ?_
  show WL _ _ _ _ _ _ _ _ _
  refine WL.store 2 rfl (ot rfl) (ot rfl) (.agg _) sz_ef36_Family rfl (le_ rfl) ?_
  refine WL.op (asg (ot rfl)) (by decide) ?_
  refine WL.op (asg (oc _)) (by decide) ?_
  refine WL.nl (.thn ?_)
  exact WP.rt (.rN rfl (.cons (.bx 2 rfl rfl ag_ef36_Family) (.cons (.tm rfl) (.cons (.tm rfl) .nil))) (le_ rfl) (by rw [show rDelete g s = (rDel g (rAt g.vs s).toNat, rFreed g (rDel g (rAt g.vs s).toNat), 0) from by unfold rDelete; rw [hl]]; exact imp  _))
theorem c_r36_Family_Delete {g : RF} {s : ByteArray} (h : GOk g) : PureC Tryz.prog 82 [eG g, val (.string s)] (tup [eG (rDelete g s).1, sl 3 FX (rDelete g s).2.1, I (rDelete g s).2.2]) := by
  have hl0 : g.vs.length ≤ 1000 := by have := h.num; omega
  cases hl : gl s g.vs with
  | none => exact c_rDelete_none hl0 hl
  | some v => obtain ⟨i, h1, h2, h3⟩ := at_get hl; exact c_rDelete_some h h2 h1 h3 hl

end Go.Proofs.YtjglgfnhgehpeaaGreat

/- Scripts of families: all stays small; whole scripts. -/
set_option linter.unusedVariables false
set_option linter.unusedSimpArgs false
namespace Go.Proofs.YtjglgfnhgehpeaaGreat
open Go.RowKit Go.Fw Go.Xt
theorem sm_default : Sm default := fun v hv => by cases hv
theorem sm_create {g : RF} (h : GOk g) (hs : Sm g) {s : ByteArray} {n r : Int} (hn : n ≤ 255) : Sm (rCreate g s n r).1 := by
  unfold rCreate
  split
  · exact sm_default
  · split
    · exact sm_default
    · split
      · exact sm_default
      · exact sm_with h hs hn
theorem sm_clone {g : RF} (h : GOk g) (hs : Sm g) {s o : ByteArray} : Sm (rClone g s o).1 := by
  unfold rClone
  cases hl : gl s g.vs with
  | none => exact sm_default
  | some v =>
    dsimp only
    split
    · exact sm_default
    · split
      · exact sm_default
      · split
        · exact sm_default
        · exact sm_with h hs (hs v (gl_mem hl).1)
theorem sm_delete {g : RF} (h : GOk g) (hs : Sm g) {s : ByteArray} : Sm (rDelete g s).1 := by
  unfold rDelete
  cases hl : gl s g.vs with
  | none => exact sm_default
  | some v =>
    dsimp only
    rw [(del_gok h hl).1]
    exact fun w hw => hs w (oth_mem.1 hw).1
theorem sm_unmap {g : RF} (h : GOk g) (hs : Sm g) {s : ByteArray} {a n : Int} : Sm (rUnmap g s a n).1 := by
  unfold rUnmap
  cases hl : gl s g.vs with
  | none => exact sm_default
  | some v =>
    dsimp only
    split
    · exact sm_with h hs (hs v (gl_mem hl).1)
    · exact sm_default
theorem sm_assign {g : RF} (h : GOk g) (hs : Sm g) {s : ByteArray} {x : X} : Sm (rAssign g s x).1 := by
  unfold rAssign
  cases hl : gl s g.vs with
  | none => exact sm_default
  | some v =>
    dsimp only
    split
    · exact sm_with h hs (hs v (gl_mem hl).1)
    · exact sm_default
theorem sm_apply {g : RF} (h : GOk g) (hs : Sm g) {t : St6} (ht : t.U8) : Sm (rApply g t).1 := by
  unfold rApply
  split
  · exact sm_create h hs ht.n.2
  split
  · exact sm_clone h hs
  split
  · exact sm_delete h hs
  split
  · exact sm_unmap h hs
  · exact sm_assign h hs
structure RS (p : Fam × RF) : Prop where
  rel : Rel p.1 p.2
  sm : Sm p.2
theorem ap_rs {p : Fam × RF} (h : RS p) {t : St6} (ht : t.U8) : RS (ap p t) := by
  refine ⟨ap_rel h.rel t, ?_⟩
  unfold ap
  split
  · exact sm_apply h.rel.ok h.sm ht
  · exact h.sm
def run0 (k : Nat) : Fam × RF := (⟨List.replicate k 0, []⟩, ⟨k, []⟩)
def runP (k : Nat) (sc : List St6) : Fam × RF := sc.foldl ap (run0 k)
theorem run0_rs {k : Nat} (hk : k ≤ 65536) : RS (run0 k) := by
  have := (rel_new (k : Int))
  have e1 : rNew (k : Int) = (⟨k, []⟩, 0) := if_pos ⟨by omega, by omega⟩
  have e2 : fNew (k : Int) = (⟨List.replicate k 0, []⟩, 0) := if_pos ⟨by omega, by omega⟩
  rw [e1, e2] at this
  exact ⟨this.2 rfl, fun v hv => by cases hv⟩
end Go.Proofs.YtjglgfnhgehpeaaGreat

/- Sizes and places of this program's types, each asked of the kernel. -/
namespace Go.Proofs.YtjglgfnhgehpeaaGreat
open Go.Fw
theorem ei_s_uint8 : elemInfo Tryz.prog 38 = some (5, 1, 1, 1) := by kernel_rfl
end Go.Proofs.YtjglgfnhgehpeaaGreat

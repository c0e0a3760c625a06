/- Parts: R36d, Lay8. -/
import Derived.Test.YtjglgfnhgehpeaaGreatZA
import Derived.Test.YtjglgfnhgehpeaaGreatZh
import Derived.Test.YtjglgfnhgehpeaaGreatZg
/- The reference of families: what is asked, steps, scripts. -/
set_option linter.unusedVariables false
set_option linter.unusedSimpArgs false
set_option maxRecDepth 4000
namespace Go.Proofs.YtjglgfnhgehpeaaGreat
open Go.RowKit Go.Fw Go.Xt
theorem exE_bd {cs : List Int} {xs : List X} (hp : ∀ x ∈ xs, 1 ≤ x.n ∧ 0 ≤ x.s ∧ x.s + x.n ≤ cs.length) (ho : Xt.Ok 0 xs) (i : Nat) : 0 ≤ exE cs (xs.take i) ∧ exE cs (xs.take i) ≤ 65536 := by
  have hp' : ∀ x ∈ xs.take i, 1 ≤ x.n ∧ 0 ≤ x.s ∧ x.s + x.n ≤ cs.length := fun x hx => hp x (List.mem_of_mem_take hx)
  have ho' : Xt.Ok 0 (xs.take i) := Xt.Ok.append_left (B := xs.drop i) (by rw [List.take_append_drop]; exact ho)
  rw [exE_eq hp']
  have h1 := exH_nn cs (xs.take i)
  have h2 := exH_le hp'
  have h3 := ho'.sum (Int.le_refl 0)
  by_cases q : xs.take i = []
  · rw [q] at h2 ⊢; simp only [sumN] at h2; have := exH_nn cs []; omega
  · have := h3.2.1 q; omega
theorem ex1_step (cs : List Int) (x : X) (k : Nat) : ex1 cs x (k + 1) = ex1 cs x k + (if cs.getD (x.s.toNat + k) 0 = 1 then 1 else 0) := rfl
theorem nm_add {n : Int} (h : 0 ≤ n) (h5 : n % 6 ≠ 5) : IntKind.u8.wrap (97 + n % 6) = (((UInt8.ofNat (97 + (n % 6).toNat)).toNat : Nat) : Int) := by
  have h1 := Int.emod_nonneg n (by decide : (6 : Int) ≠ 0)
  have h2 := Int.emod_lt_of_pos n (by decide : (0 : Int) < 6)
  generalize n % 6 = m at *
  have : m = 0 ∨ m = 1 ∨ m = 2 ∨ m = 3 ∨ m = 4 := by omega
  rcases this with rfl | rfl | rfl | rfl | rfl <;> rfl

theorem c_rLookup_none {g : RF} {s : ByteArray} {a : Int} (hl0 : g.vs.length ≤ 1000) (hl : gl s g.vs = none) : PureC Tryz.prog 37 [eG g, val (.string s), I a] (tup [I (rLookup g s a).1, val (.bool (rLookup g s a).2.1), I (rLookup g s a).2.2]) := by
  refine PureC.of_wp Tryz.func37 (by kernel_rfl) rfl Tryz.ntmps37 (le_ rfl) (fun w0 M0 => ?_)
  refine WP.seq ?_
  refine WP.region ?_
  refine WL.box (ot rfl) (.agg _) (by decide) fun b3 => ?_
  refine WL.op (asg (oc _)) (by decide) ?_
  refine WL.op (asg (oc _)) (by decide) ?_
  refine WL.op (asg (oc _)) (by decide) ?_
  refine WL.nl (.thn ?_)
  refine WP.seq ?_
  refine WP.region ?_
  refine WL.op (lbs 0 rfl ag_ef36_Family (ot rfl) (le_ rfl)) (by decide) ?_
  refine WL.op (mv (ot rfl)) (by decide) ?_
  refine WL.op (OpG.weak (R' := I (-1)) (call (c_r36_Family_At  hl0) (.c (ot rfl) (.c (ot rfl) .n))) (imp_eq (congrArg I (at_none hl).1))) (by decide) ?_
  refine WL.op (asg (ot rfl)) (by decide) ?_
  refine WL.nl (.thn ?_)
  refine WP.seq ?_
  refine WP.seq ?_
  refine WP.region ?_
  refine WL.op (mv (ot rfl)) (by decide) ?_
  refine WL.op (OpG.weak (R' := val (.bool true)) (lss (ot rfl)  (oc _)) (imp_eq (congrArg (fun b => val (.bool b)) (decide_eq_true (by omega))))) (by decide) ?_
  refine WL.nl (.thn ?_)
  refine WP.condT rfl ?_
  refine WP.seq ?_
  refine WP.region ?_
  refine WL.op (asg (oc _)) (by decide) ?_
  refine WL.op (asg (oc _)) (by decide) ?_
  refine WL.op (asg (oc _)) (by decide) ?_
  refine WL.nl (.thn ?_)
  exact WP.rt (.rthn (.rN rfl (.cons (.tm rfl) (.cons (.tm rfl) (.cons (.tm rfl) .nil))) (le_ rfl) (by rw [show rLookup g s a = (0, false, 9) from by unfold rLookup; rw [hl]]; exact imp  _)))
theorem c_rLookup_some {g : RF} {s : ByteArray} {a : Int} (h : GOk g) (hsm : Sm g) {i : Nat} {v : RV} (hi : rAt g.vs s = i) (hil : i < g.vs.length) (hv : g.vs.getD (i : Int).toNat default = v) (hl : gl s g.vs = some v) : PureC Tryz.prog 37 [eG g, val (.string s), I a] (tup [I (rLookup g s a).1, val (.bool (rLookup g s a).2.1), I (rLookup g s a).2.2]) := by
  have hl0 : g.vs.length ≤ 1000 := by have := h.num; omega
  have hvk := h.vol v (gl_mem hl).1
  have hvl := sm_len hvk (hsm v (gl_mem hl).1)
  refine PureC.of_wp Tryz.func37 (by kernel_rfl) rfl Tryz.ntmps37 (le_ rfl) (fun w0 M0 => ?_)
  refine WP.seq ?_
  refine WP.region ?_
  refine WL.box (ot rfl) (.agg _) (by decide) fun b3 => ?_
  refine WL.op (asg (oc _)) (by decide) ?_
  refine WL.op (asg (oc _)) (by decide) ?_
  refine WL.op (asg (oc _)) (by decide) ?_
  refine WL.nl (.thn ?_)
  refine WP.seq ?_
  refine WP.region ?_
  refine WL.op (lbs 0 rfl ag_ef36_Family (ot rfl) (le_ rfl)) (by decide) ?_
  refine WL.op (mv (ot rfl)) (by decide) ?_
  refine WL.op (OpG.weak (R' := I (i : Int)) (call (c_r36_Family_At  hl0) (.c (ot rfl) (.c (ot rfl) .n))) (imp_eq (congrArg I hi))) (by decide) ?_
  refine WL.op (asg (ot rfl)) (by decide) ?_
  refine WL.nl (.thn ?_)
  refine WP.seq ?_
  refine WP.seq ?_
  refine WP.region ?_
  refine WL.op (mv (ot rfl)) (by decide) ?_
  refine WL.op (OpG.weak (R' := val (.bool false)) (lss (ot rfl)  (oc _)) (imp_eq (congrArg (fun b => val (.bool b)) (decide_eq_false (by omega))))) (by decide) ?_
  refine WL.nl (.thn ?_)
  refine WP.condF rfl ?_
  refine WP.sk (.thn ?_)
  refine WP.seq ?_
  refine WP.seq ?_
  refine WP.region ?_
  refine WL.op (mv (ot rfl)) (by decide) ?_
  refine WL.op (lss (ot rfl) (oc _)) (by decide) ?_
  refine WL.op (mv (ot rfl)) (by decide) ?_
  refine WL.gd rfl rfl (Tells.v _ _) (fun hg => mv (ot rfl)) (by decide) ?_
  refine WL.gd rfl rfl (Tells.v _ _) (fun hg => fv fo_ef36_Family_1 (ot rfl)) (by decide) ?_
  refine WL.gd rfl rfl (Tells.v _ _) (fun hg => lb 0 rfl sc_s_tegularef36_Volume (og rfl hg) rfl) (by decide) ?_
  refine WL.gd rfl rfl (Tells.v _ _) (fun hg => mv (ot rfl)) (by decide) ?_
  refine WL.gd rfl rfl (Tells.v _ _) (fun hg => OpG.weak (R' := at_ (FRV v)) (ixd el_s_tegularef36_Volume (og rfl hg) (og rfl hg) (by omega) (by omega)) (imp_eq (congrArg (fun v => at_ (FRV v)) hv))) (by decide) ?_
  refine WL.gd rfl rfl (Tells.v _ _) (fun hg => fa fo_ef36_Volume_1 (og rfl hg)) (by decide) ?_
  refine WL.gd rfl rfl (Tells.v _ _) (fun hg => ld sc_int (og rfl hg)) (by decide) ?_
  refine WL.gd rfl rfl (Tells.v _ _) (fun hg => geq (og rfl hg) (og rfl hg)) (by decide) ?_
  refine WL.op (or_ (ot rfl) (ot rfl)) (by decide) ?_
  refine WL.nl (.thn ?_)
  refine WP.cond rfl (fun hc => ?_) (fun hc => ?_)
  · skip
    have hz : a < 0 ∨ v.n ≤ a := by simpa using hc
    refine WP.seq ?_
    refine WP.region ?_
    refine WL.op (asg (oc _)) (by decide) ?_
    refine WL.op (asg (oc _)) (by decide) ?_
    refine WL.op (asg (oc _)) (by decide) ?_
    refine WL.nl (.thn ?_)
    exact WP.rt (.rthn (.rN rfl (.cons (.tm rfl) (.cons (.tm rfl) (.cons (.tm rfl) .nil))) (le_ rfl) (by rw [show rLookup g s a = (0, false, 2) from by unfold rLookup; rw [hl]; exact if_pos hz]; exact imp  _)))
  · skip
    have hz : ¬ (a < 0 ∨ v.n ≤ a) := by simp only [Bool.or_eq_false_iff, decide_eq_false_iff_not] at hc; omega
    refine WP.sk (.thn ?_)
    refine WP.seq ?_
    refine WP.region ?_
    refine WL.op (fv fo_ef36_Family_1 (ot rfl)) (by decide) ?_
    refine WL.op (lb 0 rfl sc_s_tegularef36_Volume (ot rfl) rfl) (by decide) ?_
    refine WL.op (mv (ot rfl)) (by decide) ?_
    refine WL.op (OpG.weak (R' := at_ (FRV v)) (ixd el_s_tegularef36_Volume (ot rfl) (ot  rfl) (by omega) (by omega)) (imp_eq (congrArg (fun v => at_ (FRV v)) hv))) (by decide) ?_
    refine WL.op (fa fo_ef36_Volume_3 (ot rfl)) (by decide) ?_
    refine WL.op (ld sc_s_api_Extent (ot rfl)) (by decide) ?_
    refine WL.op (mv (ot rfl)) (by decide) ?_
    refine WL.op (call (c_r32_Find v.l a (by omega) hvk.ok) (.c (ot rfl) (.c (ot rfl) .n))) (by decide) ?_
    refine WL.op (mv (ot rfl)) (by decide) ?_
    refine WL.op (ex (ot rfl) rfl) (by decide) ?_
    refine WL.op (ex (ot rfl) rfl) (by decide) ?_
    refine WL.op (asg (ot rfl)) (by decide) ?_
    refine WL.op (asg (ot rfl)) (by decide) ?_
    refine WL.nl (.thn ?_)
    refine WP.seq ?_
    refine WP.region ?_
    refine WL.op (mv (ot rfl)) (by decide) ?_
    refine WL.op (mv (ot rfl)) (by decide) ?_
    refine WL.op (asg (ot rfl)) (by decide) ?_
    refine WL.op (asg (ot rfl)) (by decide) ?_
    refine WL.op (asg (oc _)) (by decide) ?_
    refine WL.nl (.thn ?_)
    exact WP.rt (.rN rfl (.cons (.tm rfl) (.cons (.tm rfl) (.cons (.tm rfl) .nil))) (le_ rfl) (by rw [show rLookup g s a = ((sem v.l a).getD 0, (sem v.l a).isSome, 0) from by unfold rLookup; rw [hl]; exact if_neg hz]; exact imp  _))
theorem c_r36_Family_Lookup {g : RF} {s : ByteArray} {a : Int} (h : GOk g) (hsm : Sm g) : PureC Tryz.prog 37 [eG g, val (.string s), I a] (tup [I (rLookup g s a).1, val (.bool (rLookup g s a).2.1), I (rLookup g s a).2.2]) := by
  have hl0 : g.vs.length ≤ 1000 := by have := h.num; omega
  cases hl : gl s g.vs with
  | none => exact c_rLookup_none hl0 hl
  | some v => obtain ⟨i, h1, h2, h3⟩ := at_get hl; exact c_rLookup_some h hsm h2 h1 h3 hl

theorem c_rRange_none {g : RF} {s : ByteArray} {a n : Int} (hl0 : g.vs.length ≤ 1000) (hl : gl s g.vs = none) : PureC Tryz.prog 38 [eG g, val (.string s), I a, I n] (tup [sl 3 FX (rRange g s a n).1, I (rRange g s a n).2]) := by
  refine PureC.of_wp Tryz.func38 (by kernel_rfl) rfl Tryz.ntmps38 (le_ rfl) (fun w0 M0 => ?_)
  refine WP.seq ?_
  refine WP.region ?_
  refine WL.box (ot rfl) (.agg _) (by decide) fun b4 => ?_
  refine WL.op (asg (oc _)) (by decide) ?_
  refine WL.op (asg (oc _)) (by decide) ?_
  refine WL.nl (.thn ?_)
  refine WP.seq ?_
  refine WP.region ?_
  refine WL.op (lbs 0 rfl ag_ef36_Family (ot rfl) (le_ rfl)) (by decide) ?_
  refine WL.op (mv (ot rfl)) (by decide) ?_
  refine WL.op (OpG.weak (R' := I (-1)) (call (c_r36_Family_At  hl0) (.c (ot rfl) (.c (ot rfl) .n))) (imp_eq (congrArg I (at_none hl).1))) (by decide) ?_
  refine WL.op (asg (ot rfl)) (by decide) ?_
  refine WL.nl (.thn ?_)
  refine WP.seq ?_
  refine WP.seq ?_
  refine WP.region ?_
  refine WL.op (mv (ot rfl)) (by decide) ?_
  refine WL.op (OpG.weak (R' := val (.bool true)) (lss (ot rfl)  (oc _)) (imp_eq (congrArg (fun b => val (.bool b)) (decide_eq_true (by omega))))) (by decide) ?_
  refine WL.nl (.thn ?_)
  refine WP.condT rfl ?_
  refine WP.seq ?_
  refine WP.region ?_
  refine WL.op (asg (oc _)) (by decide) ?_
  refine WL.op (asg (oc _)) (by decide) ?_
  refine WL.nl (.thn ?_)
  exact WP.rt (.rthn (.rN rfl (.cons (.tm rfl) (.cons (.tm rfl) .nil)) (le_ rfl) (by rw [show rRange g s a n = ([], 9) from by unfold rRange; rw [hl]]; exact impT (.c sl_nil (.c (imp  _) .n)))))
theorem c_rRange_some {g : RF} {s : ByteArray} {a n : Int} (h : GOk g) (hsm : Sm g) {i : Nat} {v : RV} (hi : rAt g.vs s = i) (hil : i < g.vs.length) (hv : g.vs.getD (i : Int).toNat default = v) (hl : gl s g.vs = some v) : PureC Tryz.prog 38 [eG g, val (.string s), I a, I n] (tup [sl 3 FX (rRange g s a n).1, I (rRange g s a n).2]) := by
  have hl0 : g.vs.length ≤ 1000 := by have := h.num; omega
  have hvk := h.vol v (gl_mem hl).1
  have hvn : 0 ≤ v.n ∧ v.n ≤ 65536 := by have := hvk.n; omega
  have hvl := sm_len hvk (hsm v (gl_mem hl).1)
  refine PureC.of_wp Tryz.func38 (by kernel_rfl) rfl Tryz.ntmps38 (le_ rfl) (fun w0 M0 => ?_)
  refine WP.seq ?_
  refine WP.region ?_
  refine WL.box (ot rfl) (.agg _) (by decide) fun b4 => ?_
  refine WL.op (asg (oc _)) (by decide) ?_
  refine WL.op (asg (oc _)) (by decide) ?_
  refine WL.nl (.thn ?_)
  refine WP.seq ?_
  refine WP.region ?_
  refine WL.op (lbs 0 rfl ag_ef36_Family (ot rfl) (le_ rfl)) (by decide) ?_
  refine WL.op (mv (ot rfl)) (by decide) ?_
  refine WL.op (OpG.weak (R' := I (i : Int)) (call (c_r36_Family_At  hl0) (.c (ot rfl) (.c (ot rfl) .n))) (imp_eq (congrArg I hi))) (by decide) ?_
  refine WL.op (asg (ot rfl)) (by decide) ?_
  refine WL.nl (.thn ?_)
  refine WP.seq ?_
  refine WP.seq ?_
  refine WP.region ?_
  refine WL.op (mv (ot rfl)) (by decide) ?_
  refine WL.op (OpG.weak (R' := val (.bool false)) (lss (ot rfl)  (oc _)) (imp_eq (congrArg (fun b => val (.bool b)) (decide_eq_false (by omega))))) (by decide) ?_
  refine WL.nl (.thn ?_)
  refine WP.condF rfl ?_
  refine WP.sk (.thn ?_)
  refine WP.seq ?_
  refine WP.seq ?_
  refine WP.region ?_
  refine WL.op (fv fo_ef36_Family_1 (ot rfl)) (by decide) ?_
  refine WL.op (lb 0 rfl sc_s_tegularef36_Volume (ot rfl) rfl) (by decide) ?_
  refine WL.op (mv (ot rfl)) (by decide) ?_
  refine WL.op (OpG.weak (R' := at_ (FRV v)) (ixd el_s_tegularef36_Volume (ot rfl) (ot  rfl) (by omega) (by omega)) (imp_eq (congrArg (fun v => at_ (FRV v)) hv))) (by decide) ?_
  refine WL.op (ls ag_ef36_Volume (ot rfl) (le_ rfl)) (by decide) ?_
  refine WL.op (mv (ot rfl)) (by decide) ?_
  refine WL.op (mv (ot rfl)) (by decide) ?_
  refine WL.op (call (c_r36_Volume_inside (v := v) hvn) (.c (ot rfl) (.c (ot rfl) (.c (ot rfl) .n)))) (by decide) ?_
  refine WL.op (not_ (ot rfl)) (by decide) ?_
  refine WL.nl (.thn ?_)
  refine WP.cond rfl (fun hc => ?_) (fun hc => ?_)
  · skip
    have hz : ¬ inB v.n a n = true := by simpa using hc
    refine WP.seq ?_
    refine WP.region ?_
    refine WL.op (asg (oc _)) (by decide) ?_
    refine WL.op (asg (oc _)) (by decide) ?_
    refine WL.nl (.thn ?_)
    exact WP.rt (.rthn (.rN rfl (.cons (.tm rfl) (.cons (.tm rfl) .nil)) (le_ rfl) (by rw [show rRange g s a n = ([], 2) from by unfold rRange; rw [hl]; exact if_neg hz]; exact impT (.c sl_nil (.c (imp  _) .n)))))
  · skip
    have hz : inB v.n a n = true := by simpa using hc
    refine WP.sk (.thn ?_)
    refine WP.seq ?_
    refine WP.region ?_
    refine WL.op (fv fo_ef36_Family_1 (ot rfl)) (by decide) ?_
    refine WL.op (lb 0 rfl sc_s_tegularef36_Volume (ot rfl) rfl) (by decide) ?_
    refine WL.op (mv (ot rfl)) (by decide) ?_
    refine WL.op (OpG.weak (R' := at_ (FRV v)) (ixd el_s_tegularef36_Volume (ot rfl) (ot  rfl) (by omega) (by omega)) (imp_eq (congrArg (fun v => at_ (FRV v)) hv))) (by decide) ?_
    refine WL.op (fa fo_ef36_Volume_3 (ot rfl)) (by decide) ?_
    refine WL.op (ld sc_s_api_Extent (ot rfl)) (by decide) ?_
    refine WL.op (mv (ot rfl)) (by decide) ?_
    refine WL.op (mv (ot rfl)) (by decide) ?_
    refine WL.op (call (c_r32_Cut (xs := v.l) (by omega) hvk.ok) (.c (ot rfl) (.c (ot rfl) (.c (ot rfl) .n)))) (by decide) ?_
    refine WL.op (mv (ot rfl)) (by decide) ?_
    refine WL.op (ex (ot rfl) rfl) (by decide) ?_
    refine WL.op (ex (ot rfl) rfl) (by decide) ?_
    refine WL.op (ex (ot rfl) rfl) (by decide) ?_
    refine WL.op (asg (ot rfl)) (by decide) ?_
    refine WL.op (asg (ot rfl)) (by decide) ?_
    refine WL.op (asg (ot rfl)) (by decide) ?_
    refine WL.nl (.thn ?_)
    refine WP.seq ?_
    refine WP.region ?_
    refine WL.op (mv (ot rfl)) (by decide) ?_
    refine WL.op (asg (ot rfl)) (by decide) ?_
    refine WL.op (asg (oc _)) (by decide) ?_
    refine WL.nl (.thn ?_)
    exact WP.rt (.rN rfl (.cons (.tm rfl) (.cons (.tm rfl) .nil)) (le_ rfl) (by rw [show rRange g s a n = ((rCut v.l a n).2.1, 0) from by unfold rRange; rw [hl]; exact if_pos hz]; exact imp  _))
theorem c_r36_Family_Range {g : RF} {s : ByteArray} {a n : Int} (h : GOk g) (hsm : Sm g) : PureC Tryz.prog 38 [eG g, val (.string s), I a, I n] (tup [sl 3 FX (rRange g s a n).1, I (rRange g s a n).2]) := by
  have hl0 : g.vs.length ≤ 1000 := by have := h.num; omega
  cases hl : gl s g.vs with
  | none => exact c_rRange_none hl0 hl
  | some v => obtain ⟨i, h1, h2, h3⟩ := at_get hl; exact c_rRange_some h hsm h2 h1 h3 hl

theorem c_rInfo_none {g : RF} {s : ByteArray} (hl0 : g.vs.length ≤ 1000) (hl : gl s g.vs = none) : PureC Tryz.prog 33 [eG g, val (.string s)] (tup [agg (FInf (rInfo g s).1), I (rInfo g s).2]) := by
  refine PureC.of_wp Tryz.func33 (by kernel_rfl) rfl Tryz.ntmps33 (le_ rfl) (fun w0 M0 => ?_)
  refine WP.seq ?_
  refine WP.region ?_
  refine WL.box (ot rfl) (.agg _) (by decide) fun b2 => ?_
  refine WL.alloc zr_VolumeInfo rfl (by decide) fun b4 => ?_
  refine WL.op (asg (oc _)) (by decide) ?_
  refine WL.nl (.thn ?_)
  refine WP.seq ?_
  refine WP.region ?_
  refine WL.op (lbs 1 rfl ag_ef36_Family (ot rfl) (le_ rfl)) (by decide) ?_
  refine WL.op (mv (ot rfl)) (by decide) ?_
  refine WL.op (OpG.weak (R' := I (-1)) (call (c_r36_Family_At  hl0) (.c (ot rfl) (.c (ot rfl) .n))) (imp_eq (congrArg I (at_none hl).1))) (by decide) ?_
  refine WL.op (asg (ot rfl)) (by decide) ?_
  refine WL.nl (.thn ?_)
  refine WP.seq ?_
  refine WP.seq ?_
  refine WP.region ?_
  refine WL.op (mv (ot rfl)) (by decide) ?_
  refine WL.op (OpG.weak (R' := val (.bool true)) (lss (ot rfl)  (oc _)) (imp_eq (congrArg (fun b => val (.bool b)) (decide_eq_true (by omega))))) (by decide) ?_
  refine WL.nl (.thn ?_)
  refine WP.condT rfl ?_
  refine WP.seq ?_
  refine WP.region ?_
  refine WL.op (bld zr_VolumeInfo rfl ps_VolumeInfo .n) (by decide) ?_
  refine WL.store 0 rfl (ot rfl) (ot rfl) (.agg _) sz_VolumeInfo rfl (le_ rfl) ?_
  refine WL.op (asg (oc _)) (by decide) ?_
  refine WL.nl (.thn ?_)
  exact WP.rt (.rthn (.rN rfl (.cons (.bx 0 rfl rfl ag_VolumeInfo) (.cons (.tm rfl) .nil)) (le_ rfl) (by rw [show rInfo g s = (default, 9) from by unfold rInfo; rw [hl]]; exact imp  _)))
theorem c_rInfo_some {g : RF} {s : ByteArray} (h : GOk g) {i : Nat} {v : RV} (hi : rAt g.vs s = i) (hil : i < g.vs.length) (hv : g.vs.getD (i : Int).toNat default = v) (hl : gl s g.vs = some v) : PureC Tryz.prog 33 [eG g, val (.string s)] (tup [agg (FInf (rInfo g s).1), I (rInfo g s).2]) := by
  have hl0 : g.vs.length ≤ 1000 := by have := h.num; omega
  have hgk := h.k
  have hgc := (counts_spec h).1
  have hvk := h.vol v (gl_mem hl).1
  have hvl := ok_len hvk.ok
  have hsl := slots_cs h (gl_mem hl).1
  have hbd := exE_bd hsl hvk.ok
  refine PureC.of_wp Tryz.func33 (by kernel_rfl) rfl Tryz.ntmps33 (le_ rfl) (fun w0 M0 => ?_)
  refine WP.seq ?_
  refine WP.region ?_
  refine WL.box (ot rfl) (.agg _) (by decide) fun b2 => ?_
  refine WL.alloc zr_VolumeInfo rfl (by decide) fun b4 => ?_
  refine WL.op (asg (oc _)) (by decide) ?_
  refine WL.nl (.thn ?_)
  refine WP.seq ?_
  refine WP.region ?_
  refine WL.op (lbs 1 rfl ag_ef36_Family (ot rfl) (le_ rfl)) (by decide) ?_
  refine WL.op (mv (ot rfl)) (by decide) ?_
  refine WL.op (OpG.weak (R' := I (i : Int)) (call (c_r36_Family_At  hl0) (.c (ot rfl) (.c (ot rfl) .n))) (imp_eq (congrArg I hi))) (by decide) ?_
  refine WL.op (asg (ot rfl)) (by decide) ?_
  refine WL.nl (.thn ?_)
  refine WP.seq ?_
  refine WP.seq ?_
  refine WP.region ?_
  refine WL.op (mv (ot rfl)) (by decide) ?_
  refine WL.op (OpG.weak (R' := val (.bool false)) (lss (ot rfl)  (oc _)) (imp_eq (congrArg (fun b => val (.bool b)) (decide_eq_false (by omega))))) (by decide) ?_
  refine WL.nl (.thn ?_)
  refine WP.condF rfl ?_
  refine WP.sk (.thn ?_)
  refine WP.seq ?_
  refine WP.region ?_
  refine WL.op (fv fo_ef36_Family_1 (ot rfl)) (by decide) ?_
  refine WL.op (lb 1 rfl sc_s_tegularef36_Volume (ot rfl) rfl) (by decide) ?_
  refine WL.op (mv (ot rfl)) (by decide) ?_
  refine WL.op (OpG.weak (R' := at_ (FRV v)) (ixd el_s_tegularef36_Volume (ot rfl) (ot  rfl) (by omega) (by omega)) (imp_eq (congrArg (fun v => at_ (FRV v)) hv))) (by decide) ?_
  refine WL.op (ls ag_ef36_Volume (ot rfl) (le_ rfl)) (by decide) ?_
  refine WL.alloc zr_ef36_Volume rfl (by decide) fun b7 => ?_
  refine WL.store 0 rfl (ot rfl) (ot rfl) (.agg _) sz_ef36_Volume rfl (le_ rfl) ?_
  refine WL.nl (.thn ?_)
  refine WP.seq ?_
  refine WP.draws ?_
  refine RG.op (fv fo_ef36_Volume_0 (ot rfl)) ?_
  refine RG.op (lb 0 rfl sc_string (ot rfl) rfl) ?_
  refine RG.op (fv fo_ef36_Volume_1 (ot rfl)) ?_
  refine RG.op (lb 0 rfl sc_int (ot rfl) rfl) ?_
  refine RG.op (fv fo_ef36_Volume_2 (ot rfl)) ?_
  refine RG.op (lb 0 rfl sc_int (ot rfl) rfl) ?_
  refine RG.op (fv fo_ef36_Volume_3 (ot rfl)) ?_
  refine RG.op (lb 0 rfl sc_s_api_Extent (ot rfl) rfl) ?_
  refine RG.op (call (c_r32_Blocks v.l (by omega) hvk.ok) (.c (ot rfl) .n)) ?_
  refine RG.op (bld zr_VolumeInfo rfl ps_VolumeInfo (.c (ot rfl) (.leaf (.val rfl)) pl_VolumeInfo_0 rfl (le_ rfl) (.c (ot rfl) (.leaf (.val rfl)) pl_VolumeInfo_1 rfl (le_ rfl) (.c (ot rfl) (.leaf (.val rfl)) pl_VolumeInfo_2 rfl (le_ rfl) (.c (ot rfl) (.leaf (.val rfl)) pl_VolumeInfo_3 rfl (le_ rfl) .n))))) ?_
  refine RG.bx (.alloc zr_VolumeInfo rfl) ?_
  refine RG.fin HM (by kernel_rfl) ?_
  intro b8
  show WL _ _ _ _ _ _ _ _ _
  refine WL.store 0 rfl (ot rfl) (ot rfl) (.agg _) sz_VolumeInfo rfl (le_ rfl) ?_
  refine WL.nl (.thn ?_)
  refine WP.seq ?_
  refine WP.region ?_
  refine WL.op (lbs 3 rfl ag_ef36_Family (ot rfl) (le_ rfl)) (by decide) ?_
  refine WL.op (call (c_r36_Family_Counts h) (.c (ot rfl) .n)) (by decide) ?_
  refine WL.op (asg (ot rfl)) (by decide) ?_
  refine WL.nl (.thn ?_)
  refine WP.seq ?_
  refine WP.seq ?_
  refine WP.region ?_
  refine WL.op (asg (oc _)) (by decide) ?_
  refine WL.nl (.thn ?_)
  refine WP.block ?_
  refine WP.loop (fun y : Nat => [.b b8 34 (FInf ⟨v.s, v.n, v.r, sumN v.l, exE (rCounts g) (v.l.take y)⟩), .b b7 56 (FRV v), .b b4 34 [val (.string ByteArray.empty), I 0, I 0, I 0, I 0], .b b2 45 [I (g.k : Int), sl 4 FRV g.vs]]) (fun y => [(10, I (y : Int)), (9, sl 1 FI (rCounts g)), (8, val (.pointer (some ⟨b8, 0, none⟩))), (7, val (.pointer (some ⟨b7, 0, none⟩))), (4, val (.pointer (some ⟨b4, 0, none⟩)))]) (fun y => y ≤ v.l.length) (fun y => v.l.length - y) 0 (Nat.zero_le _) (Sub.ofD 0 rfl (Sub.cons rfl (imp_eq rfl) (Sub.cons rfl (imp  _) (Sub.cons rfl (imp  _) (Sub.cons rfl (imp  _) (Sub.cons rfl (imp  _) Sub.nil)))))) (fun k hk => ?_)
  replace hk : k ≤ v.l.length := hk
  show WP _ _ _ _ [.b b8 34 (FInf ⟨v.s, v.n, v.r, sumN v.l, exE (rCounts g) (v.l.take k)⟩), .b b7 56 (FRV v), .b b4 34 [val (.string ByteArray.empty), I 0, I 0, I 0, I 0], .b b2 45 [I (g.k : Int), sl 4 FRV g.vs]] [(10, I (k : Int)), (9, sl 1 FI (rCounts g)), (8, val (.pointer (some ⟨b8, 0, none⟩))), (7, val (.pointer (some ⟨b7, 0, none⟩))), (4, val (.pointer (some ⟨b4, 0, none⟩)))] _ _
  refine WP.seq ?_
  refine WP.seq ?_
  refine WP.region ?_
  refine WL.op (mv (ot rfl)) (by decide) ?_
  refine WL.op (fv fo_ef36_Volume_3 (ot rfl)) (by decide) ?_
  refine WL.op (lb 1 rfl sc_s_api_Extent (ot rfl) rfl) (by decide) ?_
  refine WL.op (len_ us_s_api_Extent (ot rfl)) (by decide) ?_
  refine WL.op (lss (ot rfl) (ot rfl)) (by decide) ?_
  refine WL.nl (.thn ?_)
  refine WP.cond rfl (fun hc => ?_) (fun hc => ?_)
  · skip
    have hc1 : k < v.l.length := by have := of_decide_eq_true hc; omega
    have hx := hsl _ (getX_mem' hc1)
    have hb1 := hbd k
    refine WP.sk (.thn ?_)
    refine WP.seq ?_
    refine WP.block ?_
    refine WP.seq ?_
    refine WP.region ?_
    refine WL.op (fv fo_ef36_Volume_3 (ot rfl)) (by decide) ?_
    refine WL.op (lb 1 rfl sc_s_api_Extent (ot rfl) rfl) (by decide) ?_
    refine WL.op (mv (ot rfl)) (by decide) ?_
    refine WL.op (ixd el_s_api_Extent (ot rfl) (ot rfl) (by omega) (by omega)) (by decide) ?_
    refine WL.op (fa fo_Extent_2 (ot rfl)) (by decide) ?_
    refine WL.op (ld sc_int (ot rfl)) (by decide) ?_
    refine WL.op (asg (ot rfl)) (by decide) ?_
    refine WL.nl (.thn ?_)
    refine WP.block ?_
    refine WP.loop (fun y : Nat => [.b b8 34 (FInf ⟨v.s, v.n, v.r, sumN v.l, exE (rCounts g) (v.l.take k) + ex1 (rCounts g) (v.l.getD (k : Int).toNat default) y⟩), .b b7 56 (FRV v), .b b4 34 [val (.string ByteArray.empty), I 0, I 0, I 0, I 0], .b b2 45 [I (g.k : Int), sl 4 FRV g.vs]]) (fun y => [(11, I ((v.l.getD (k : Int).toNat default).s + y)), (10, I (k : Int)), (9, sl 1 FI (rCounts g)), (8, val (.pointer (some ⟨b8, 0, none⟩))), (7, val (.pointer (some ⟨b7, 0, none⟩))), (4, val (.pointer (some ⟨b4, 0, none⟩)))]) (fun y => (y : Int) ≤ (v.l.getD (k : Int).toNat default).n) (fun y => (v.l.getD (k : Int).toNat default).n.toNat - y) 0 (by omega) (Sub.ofD 0 (by rw [show exE (rCounts g) (v.l.take k) + ex1 (rCounts g) (v.l.getD (k : Int).toNat default) 0 = exE (rCounts g) (v.l.take k) from Int.add_zero _]; rfl) (Sub.cons rfl (imp_eq (congrArg I (by omega))) (Sub.cons rfl (imp  _) (Sub.cons rfl (imp  _) (Sub.cons rfl (imp  _) (Sub.cons rfl (imp  _) (Sub.cons rfl (imp  _) Sub.nil))))))) (fun q hq => ?_)
    replace hq : (q : Int) ≤ (v.l.getD (k : Int).toNat default).n := hq
    show WP _ _ _ _ [.b b8 34 (FInf ⟨v.s, v.n, v.r, sumN v.l, exE (rCounts g) (v.l.take k) + ex1 (rCounts g) (v.l.getD (k : Int).toNat default) q⟩), .b b7 56 (FRV v), .b b4 34 [val (.string ByteArray.empty), I 0, I 0, I 0, I 0], .b b2 45 [I (g.k : Int), sl 4 FRV g.vs]] [(11, I ((v.l.getD (k : Int).toNat default).s + q)), (10, I (k : Int)), (9, sl 1 FI (rCounts g)), (8, val (.pointer (some ⟨b8, 0, none⟩))), (7, val (.pointer (some ⟨b7, 0, none⟩))), (4, val (.pointer (some ⟨b4, 0, none⟩)))] _ _
    refine WP.seq ?_
    refine WP.seq ?_
    refine WP.draws ?_
    refine RG.op (mv (ot rfl)) ?_
    refine RG.op (fv fo_ef36_Volume_3 (ot rfl)) ?_
    refine RG.op (lb 1 rfl sc_s_api_Extent (ot rfl) rfl) ?_
    refine RG.op (mv (ot rfl)) ?_
    refine RG.op (ixd el_s_api_Extent (ot rfl) (ot rfl) (by omega) (by omega)) ?_
    refine RG.op (fa fo_Extent_2 (ot rfl)) ?_
    refine RG.op (ld sc_int (ot rfl)) ?_
    refine RG.op (fv fo_ef36_Volume_3 (ot rfl)) ?_
    refine RG.op (lb 1 rfl sc_s_api_Extent (ot rfl) rfl) ?_
    refine RG.op (mv (ot rfl)) ?_
    refine RG.op (ixd el_s_api_Extent (ot rfl) (ot rfl) (by omega) (by omega)) ?_
    refine RG.op (fa fo_Extent_1 (ot rfl)) ?_
    refine RG.op (ld sc_int (ot rfl)) ?_
    refine RG.op (add (ot rfl) (ot rfl) (by omega)) ?_
    refine RG.op (lss (ot rfl) (ot rfl)) ?_
    refine RG.fin HM (by kernel_rfl) ?_
    show WL _ _ _ _ _ _ _ _ _
    refine WL.nl (.thn ?_)
    refine WP.cond rfl (fun hc => ?_) (fun hc => ?_)
    · skip
      have hq1 : (q : Int) < (v.l.getD (k : Int).toNat default).n := by have := of_decide_eq_true hc; omega
      have hb2 := ex1_bd (rCounts g) (v.l.getD (k : Int).toNat default) q
      refine WP.sk (.thn ?_)
      refine WP.seq ?_
      refine WP.block ?_
      refine WP.seq ?_
      refine WP.region ?_
      refine WL.op (mv (ot rfl)) (by decide) ?_
      refine WL.op (mv (ot rfl)) (by decide) ?_
      refine WL.op (ixd el_ef34_Counts (ot rfl) (ot rfl) (by omega) (by omega)) (by decide) ?_
      refine WL.op (ld sc_int (ot rfl)) (by decide) ?_
      refine WL.op (eql (ot rfl) (oc _)) (by decide) ?_
      refine WL.nl (.thn ?_)
      refine WP.cond rfl (fun hc => ?_) (fun hc => ?_)
      · skip
        have hz0 : (rCounts g).getD ((v.l.getD (k : Int).toNat default).s.toNat + q) 0 = 1 := by have := of_decide_eq_true hc; rwa [getI (by omega), show ((v.l.getD (k : Int).toNat default).s + (q : Int)).toNat = (v.l.getD (k : Int).toNat default).s.toNat + q from by omega] at this
        refine WP.region ?_
        refine WL.op (fv fo_VolumeInfo_4 (ot rfl)) (by decide) ?_
        refine WL.op (lb 0 rfl sc_int (ot rfl) rfl) (by decide) ?_
        refine WL.op (add (ot rfl) (oc _) (by dsimp only; omega)) (by decide) ?_
        refine WL.op (fv fo_VolumeInfo_4 (ot rfl)) (by decide) ?_
        refine WL.store 0 rfl (ot rfl) (ot rfl) (.leaf (.val rfl)) sz_int rfl (le_ rfl) ?_
        refine WL.nl (.blk (.thn ?_))
        refine WP.region ?_
        refine WL.op (mv (ot rfl)) (by decide) ?_
        refine WL.op (add (ot rfl) (oc _) (by omega)) (by decide) ?_
        refine WL.op (asg (ot rfl)) (by decide) ?_
        exact WL.nl (.again (q + 1) (by omega) (by omega) (Sub.ofD 0 (Eq.trans (b := [.b b8 34 (FInf ⟨v.s, v.n, v.r, sumN v.l, exE (rCounts g) (v.l.take k) + ex1 (rCounts g) (v.l.getD (k : Int).toNat default) q + 1⟩), .b b7 56 (FRV v), .b b4 34 [val (.string ByteArray.empty), I 0, I 0, I 0, I 0], .b b2 45 [I (g.k : Int), sl 4 FRV g.vs]]) rfl (by rw [ex1_step, if_pos hz0, ← Int.add_assoc])) (Sub.cons rfl (imp_eq (congrArg I (by omega))) (Sub.cons rfl (imp  _) (Sub.cons rfl (imp  _) (Sub.cons rfl (imp  _) (Sub.cons rfl (imp  _) (Sub.cons rfl (imp  _) Sub.nil))))))))
      · skip
        have hz0 : ¬ (rCounts g).getD ((v.l.getD (k : Int).toNat default).s.toNat + q) 0 = 1 := by have := of_decide_eq_false hc; rwa [getI (by omega), show ((v.l.getD (k : Int).toNat default).s + (q : Int)).toNat = (v.l.getD (k : Int).toNat default).s.toNat + q from by omega] at this
        refine WP.sk (.blk (.thn ?_))
        refine WP.region ?_
        refine WL.op (mv (ot rfl)) (by decide) ?_
        refine WL.op (add (ot rfl) (oc _) (by omega)) (by decide) ?_
        refine WL.op (asg (ot rfl)) (by decide) ?_
        exact WL.nl (.again (q + 1) (by omega) (by omega) (Sub.ofD 0 (by rw [ex1_step, if_neg hz0, Int.add_zero]; rfl) (Sub.cons rfl (imp_eq (congrArg I (by omega))) (Sub.cons rfl (imp  _) (Sub.cons rfl (imp  _) (Sub.cons rfl (imp  _) (Sub.cons rfl (imp  _) (Sub.cons rfl (imp  _) Sub.nil))))))))
    · skip
      have hq1 : ¬ (q : Int) < (v.l.getD (k : Int).toNat default).n := by have := of_decide_eq_false hc; omega
      refine WP.xt (.xthn (.xthn (.xin (.blk (.thn ?_)))))
      refine WP.region ?_
      refine WL.op (mv (ot rfl)) (by decide) ?_
      refine WL.op (add (ot rfl) (oc _) (by omega)) (by decide) ?_
      refine WL.op (asg (ot rfl)) (by decide) ?_
      exact WL.nl (.again (k + 1) (by omega) (by omega) (Sub.ofD 0 (by rw [exE_step hc1, show q = (v.l.getD (k : Int).toNat default).n.toNat from by omega]; rfl) (Sub.cons rfl (imp_eq (congrArg I (by omega))) (Sub.cons rfl (imp  _) (Sub.cons rfl (imp  _) (Sub.cons rfl (imp  _) (Sub.cons rfl (imp  _) Sub.nil)))))))
  · skip
    have hc1 : ¬ k < v.l.length := by have := of_decide_eq_false hc; omega
    refine WP.xt (.xthn (.xthn (.xin (.thn ?_))))
    refine WP.seq ?_
    refine WP.region ?_
    refine WL.op (lbs 0 rfl ag_VolumeInfo (ot rfl) (le_ rfl)) (by decide) ?_
    refine WL.store 2 rfl (ot rfl) (ot rfl) (.agg _) sz_VolumeInfo rfl (le_ rfl) ?_
    refine WL.op (asg (oc _)) (by decide) ?_
    refine WL.nl (.thn ?_)
    exact WP.rt (.rN rfl (.cons (.bx 2 rfl rfl ag_VolumeInfo) (.cons (.tm rfl) .nil)) (le_ rfl) (by rw [show rInfo g s = (⟨v.s, v.n, v.r, sumN v.l, exE (rCounts g) (v.l.take k)⟩, 0) from by unfold rInfo; rw [hl, List.take_of_length_le (by omega)]]; exact imp  _))
theorem c_r36_Family_Info {g : RF} {s : ByteArray} (h : GOk g) : PureC Tryz.prog 33 [eG g, val (.string s)] (tup [agg (FInf (rInfo g s).1), I (rInfo g s).2]) := by
  have hl0 : g.vs.length ≤ 1000 := by have := h.num; omega
  cases hl : gl s g.vs with
  | none => exact c_rInfo_none hl0 hl
  | some v => obtain ⟨i, h1, h2, h3⟩ := at_get hl; exact c_rInfo_some h h2 h1 h3 hl

theorem c_r36_Family_Free {g : RF} (h : GOk g) : PureC Tryz.prog 81 [eG g] (sl 3 FX (rFree g)) := by
  refine PureC.of_wp Tryz.func81 (by kernel_rfl) rfl Tryz.ntmps81 (le_ rfl) (fun w0 M0 => ?_)
  refine WP.seq ?_
  refine WP.region ?_
  refine WL.box (ot rfl) (.agg _) (by decide) fun b1 => ?_
  refine WL.op (asg (oc _)) (by decide) ?_
  refine WL.nl (.thn ?_)
  refine WP.seq ?_
  refine WP.region ?_
  refine WL.op (lbs 0 rfl ag_ef36_Family (ot rfl) (le_ rfl)) (by decide) ?_
  refine WL.op (call (c_r36_Family_Counts h) (.c (ot rfl) .n)) (by decide) ?_
  refine WL.op (call (c_r34_Counts_Zero (by rw [(counts_spec h).1]; exact h.k)) (.c (ot rfl) .n)) (by decide) ?_
  refine WL.op (asg (ot rfl)) (by decide) ?_
  refine WL.nl (.thn ?_)
  exact WP.rt (.r1 rfl rfl (imp _))
theorem c_r36_Names {n : Int} (h : 0 ≤ n ∧ n ≤ 255) : PureC Tryz.prog 25 [val (.int .u8 n)] (val (.string (nm n))) := by
  refine PureC.of_wp Tryz.func25 (by kernel_rfl) rfl Tryz.ntmps25 (le_ rfl) (fun w0 M0 => ?_)
  refine WP.seq ?_
  refine WP.region ?_
  refine WL.op (asg (oc _)) (by decide) ?_
  refine WL.nl (.thn ?_)
  refine WP.seq ?_
  refine WP.seq ?_
  refine WP.region ?_
  refine WL.op (mv (ot rfl)) (by decide) ?_
  refine WL.op (rem_ (ot rfl) (oc _) (by omega) (by omega)) (by decide) ?_
  refine WL.op (eql (ot rfl) (oc _)) (by decide) ?_
  refine WL.nl (.thn ?_)
  refine WP.cond rfl (fun hc => ?_) (fun hc => ?_)
  · skip
    have hz : n % 6 = 5 := of_decide_eq_true hc
    refine WP.seq ?_
    refine WP.region ?_
    refine WL.op (asg (oc _)) (by decide) ?_
    refine WL.nl (.thn ?_)
    exact WP.rt (.rthn (.r1 rfl rfl (imp_eq (congrArg (fun s => val (.string s)) (show _ = nm n by unfold nm; rw [if_pos hz]; rfl)))))
  · skip
    have hz : ¬ n % 6 = 5 := of_decide_eq_false hc
    refine WP.sk (.thn ?_)
    refine WP.seq ?_
    refine WP.region ?_
    refine WL.op (mv (ot rfl)) (by decide) ?_
    refine WL.op (rem_ (ot rfl) (oc _) (by omega) (by omega)) (by decide) ?_
    refine WL.op (OpG.weak (R' := val (.int .u8 (((UInt8.ofNat (97 + (n % 6).toNat)).toNat : Nat) : Int))) (addw (oc _) (ot rfl)) (imp_eq (congrArg (fun z => val (.int .u8 z)) (nm_add h.1 hz)))) (by decide) ?_
    refine WL.op (bsl1 (f := FU) (el := UInt8.ofNat (97 + (n % 6).toNat)) ei_s_uint8 (ot rfl) (.leaf (.val rfl)) rfl (by decide) (by decide)) (by decide) ?_
    refine WL.op (cvbs us_s_uint8 un_uint8 un_string (by simp) (ot rfl)) (by decide) ?_
    refine WL.op (asg (ot rfl)) (by decide) ?_
    refine WL.nl (.thn ?_)
    exact WP.rt (.r1 rfl rfl (imp_eq (congrArg (fun s => val (.string s)) (show _ = nm n by unfold nm; rw [if_neg hz]))))
end Go.Proofs.YtjglgfnhgehpeaaGreat

/- Sizes and places of this program's types, each asked of the kernel. -/
namespace Go.Proofs.YtjglgfnhgehpeaaGreat
open Go.Fw
theorem ag_ef36_Step : aggs Tryz.prog 50 = some 6 := by kernel_rfl
theorem el_s_tegularef36_Step : elemSz Tryz.prog 42 = some 6 := by kernel_rfl
theorem fo_ef36_Step_0 : fieldOff Tryz.prog 50 0 = some 0 := by kernel_rfl
theorem fo_ef36_Step_1 : fieldOff Tryz.prog 50 1 = some 1 := by kernel_rfl
theorem fo_ef36_Step_2 : fieldOff Tryz.prog 50 2 = some 2 := by kernel_rfl
theorem fo_ef36_Step_3 : fieldOff Tryz.prog 50 3 = some 3 := by kernel_rfl
theorem fo_ef36_Step_4 : fieldOff Tryz.prog 50 4 = some 4 := by kernel_rfl
theorem fo_ef36_Step_5 : fieldOff Tryz.prog 50 5 = some 5 := by kernel_rfl
theorem un_int : Tryz.prog.underlying 3 = some (.int .i64) := by kernel_rfl
theorem us_s_tegularef36_Step : Tryz.prog.underlying 42 = some (.slice 50) := by kernel_rfl
end Go.Proofs.YtjglgfnhgehpeaaGreat

/- Parts: R36d, Lay8, R36e, Lay9, L36, L36b, Fwe, RowZ, Lay10, Lay11. -/
import Derived.Test.YtjglgfnhgehpeaaGreatYx
import Derived.Test.YtjglgfnhgehpeaaGreatYg
import Derived.Test.YtjglgfnhgehpeaaGreatYf
import Derived.Test.YtjglgfnhgehpeaaGreatYt
import Derived.Test.YtjglgfnhgehpeaaGreatYq
import Derived.Test.YtjglgfnhgehpeaaGreatYp
import Derived.Test.YtjglgfnhgehpeaaGreatYr
import Derived.Test.YtjglgfnhgehpeaaGreatYl
import Derived.Test.YtjglgfnhgehpeaaGreatYs
/- The reference of families: what is asked, steps, scripts. -/
set_option linter.unusedVariables false
set_option linter.unusedSimpArgs false
set_option maxRecDepth 4000
namespace Go.Proofs.YtjglgfnhgehpeaaGreat
open Go.RowKit Go.Fw Go.Xt
theorem exE_bd {cs : List Int} {xs : List X} (hp : ∀ x ∈ xs, 1 ≤ x.n ∧ 0 ≤ x.s ∧ x.s + x.n ≤ cs.length) (ho : Xt.Ok 0 xs) (i : Nat) : 0 ≤ exE cs (xs.take i) ∧ exE cs (xs.take i) ≤ 65536 := by
  have hp' : ∀ x ∈ xs.take i, 1 ≤ x.n ∧ 0 ≤ x.s ∧ x.s + x.n ≤ cs.length := fun x hx => hp x (List.mem_of_mem_take hx)
  have ho' : Xt.Ok 0 (xs.take i) := Xt.Ok.append_left (B := xs.drop i) (by rw [List.take_append_drop]; exact ho)
  rw [exE_eq hp']
  have h1 := exH_nn cs (xs.take i)
  have h2 := exH_le hp'
  have h3 := ho'.sum (Int.le_refl 0)
  by_cases q : xs.take i = []
  · rw [q] at h2 ⊢; simp only [sumN] at h2; have := exH_nn cs []; omega
  · have := h3.2.1 q; omega
theorem ex1_step (cs : List Int) (x : X) (k : Nat) : ex1 cs x (k + 1) = ex1 cs x k + (if cs.getD (x.s.toNat + k) 0 = 1 then 1 else 0) := rfl
theorem nm_add {n : Int} (h : 0 ≤ n) (h5 : n % 6 ≠ 5) : IntKind.u8.wrap (97 + n % 6) = (((UInt8.ofNat (97 + (n % 6).toNat)).toNat : Nat) : Int) := by
  have h1 := Int.emod_nonneg n (by decide : (6 : Int) ≠ 0)
  have h2 := Int.emod_lt_of_pos n (by decide : (0 : Int) < 6)
  generalize n % 6 = m at *
  have : m = 0 ∨ m = 1 ∨ m = 2 ∨ m = 3 ∨ m = 4 := by omega
  rcases this with rfl | rfl | rfl | rfl | rfl <;> rfl

theorem c_rLookup_none {g : RF} {s : ByteArray} {a : Int} (hl0 : g.vs.length ≤ 1000) (hl : gl s g.vs = none) : PureC Tryz.prog 37 [eG g, val (.string s), I a] (tup [I (rLookup g s a).1, val (.bool (rLookup g s a).2.1), I (rLookup g s a).2.2]) := by
  refine PureC.of_wp Tryz.func37 (by kernel_rfl) rfl Tryz.ntmps37 (le_ rfl) (fun w0 M0 => ?_)
  refine WP.seq ?_
  refine WP.region ?_
  refine WL.box (ot rfl) (.agg _) (by decide) fun b3 => ?_
  refine WL.op (asg (oc _)) (by decide) ?_
  refine WL.op (asg (oc _)) (by decide) ?_
  refine WL.op (asg (oc _)) (by decide) ?_
  refine WL.nl (.thn ?_)
  refine WP.seq ?_
  refine WP.region ?_
  refine WL.op (lbs 0 rfl ag_ef36_Family (ot rfl) (le_ rfl)) (by decide) ?_
  refine WL.op (mv (ot rfl)) (by decide) ?_
  refine WL.op (OpG.weak (R' := I (-1)) (call (c_r36_Family_At  hl0) (.c (ot rfl) (.c (ot rfl) .n))) (imp_eq (congrArg I (at_none hl).1))) (by decide) ?_
  refine WL.op (asg (ot rfl)) (by decide) ?_
  refine WL.nl (.thn ?_)
  refine WP.seq ?_
  refine WP.seq ?_
  refine WP.region ?_
  refine WL.op (mv (ot rfl)) (by decide) ?_
  refine WL.op (OpG.weak (R' := val (.bool true)) (lss (ot rfl)  (oc _)) (imp_eq (congrArg (fun b => val (.bool b)) (decide_eq_true (by omega))))) (by decide) ?_
  refine WL.nl (.thn ?_)
  refine WP.condT rfl ?_
  refine WP.seq ?_
  refine WP.region ?_
  refine WL.op (asg (oc _)) (by decide) ?_
  refine WL.op (asg (oc _)) (by decide) ?_
  refine WL.op (asg (oc _)) (by decide) ?_
  refine WL.nl (.thn ?_)
  exact WP.rt (.rthn (.rN rfl (.cons (.tm rfl) (.cons (.tm rfl) (.cons (.tm rfl) .nil))) (le_ rfl) (by rw [show rLookup g s a = (0, false, 9) from by unfold rLookup; rw [hl]]; exact imp  _)))
theorem c_rLookup_some {g : RF} {s : ByteArray} {a : Int} (h : GOk g) (hsm : Sm g) {i : Nat} {v : RV} (hi : rAt g.vs s = i) (hil : i < g.vs.length) (hv : g.vs.getD (i : Int).toNat default = v) (hl : gl s g.vs = some v) : PureC Tryz.prog 37 [eG g, val (.string s), I a] (tup [I (rLookup g s a).1, val (.bool (rLookup g s a).2.1), I (rLookup g s a).2.2]) := by
  have hl0 : g.vs.length ≤ 1000 := by have := h.num; omega
  have hvk := h.vol v (gl_mem hl).1
  have hvl := sm_len hvk (hsm v (gl_mem hl).1)
  refine PureC.of_wp Tryz.func37 (by kernel_rfl) rfl Tryz.ntmps37 (le_ rfl) (fun w0 M0 => ?_)
  refine WP.seq ?_
  refine WP.region ?_
  refine WL.box (ot rfl) (.agg _) (by decide) fun b3 => ?_
  refine WL.op (asg (oc _)) (by decide) ?_
  refine WL.op (asg (oc _)) (by decide) ?_
  refine WL.op (asg (oc _)) (by decide) ?_
  refine WL.nl (.thn ?_)
  refine WP.seq ?_
  refine WP.region ?_
  refine WL.op (lbs 0 rfl ag_ef36_Family (ot rfl) (le_ rfl)) (by decide) ?_
  refine WL.op (mv (ot rfl)) (by decide) ?_
  refine WL.op (OpG.weak (R' := I (i : Int)) (call (c_r36_Family_At  hl0) (.c (ot rfl) (.c (ot rfl) .n))) (imp_eq (congrArg I hi))) (by decide) ?_
  refine WL.op (asg (ot rfl)) (by decide) ?_
  refine WL.nl (.thn ?_)
  refine WP.seq ?_
  refine WP.seq ?_
  refine WP.region ?_
  refine WL.op (mv (ot rfl)) (by decide) ?_
  refine WL.op (OpG.weak (R' := val (.bool false)) (lss (ot rfl)  (oc _)) (imp_eq (congrArg (fun b => val (.bool b)) (decide_eq_false (by omega))))) (by decide) ?_
  refine WL.nl (.thn ?_)
  refine WP.condF rfl ?_
  refine WP.sk (.thn ?_)
  refine WP.seq ?_
  refine WP.seq ?_
  refine WP.region ?_
  refine WL.op (mv (ot rfl)) (by decide) ?_
  refine WL.op (lss (ot rfl) (oc _)) (by decide) ?_
  refine WL.op (mv (ot rfl)) (by decide) ?_
  refine WL.gd rfl rfl (Tells.v _ _) (fun hg => mv (ot rfl)) (by decide) ?_
  refine WL.gd rfl rfl (Tells.v _ _) (fun hg => fv fo_ef36_Family_1 (ot rfl)) (by decide) ?_
  refine WL.gd rfl rfl (Tells.v _ _) (fun hg => lb 0 rfl sc_s_tegularef36_Volume (og rfl hg) rfl) (by decide) ?_
  refine WL.gd rfl rfl (Tells.v _ _) (fun hg => mv (ot rfl)) (by decide) ?_
  refine WL.gd rfl rfl (Tells.v _ _) (fun hg => OpG.weak (R' := at_ (FRV v)) (ixd el_s_tegularef36_Volume (og rfl hg) (og rfl hg) (by omega) (by omega)) (imp_eq (congrArg (fun v => at_ (FRV v)) hv))) (by decide) ?_
  refine WL.gd rfl rfl (Tells.v _ _) (fun hg => fa fo_ef36_Volume_1 (og rfl hg)) (by decide) ?_
  refine WL.gd rfl rfl (Tells.v _ _) (fun hg => ld sc_int (og rfl hg)) (by decide) ?_
  refine WL.gd rfl rfl (Tells.v _ _) (fun hg => geq (og rfl hg) (og rfl hg)) (by decide) ?_
  refine WL.op (or_ (ot rfl) (ot rfl)) (by decide) ?_
  refine WL.nl (.thn ?_)
  refine WP.cond rfl (fun hc => ?_) (fun hc => ?_)
  · skip
    have hz : a < 0 ∨ v.n ≤ a := by simpa using hc
    refine WP.seq ?_
    refine WP.region ?_
    refine WL.op (asg (oc _)) (by decide) ?_
    refine WL.op (asg (oc _)) (by decide) ?_
    refine WL.op (asg (oc _)) (by decide) ?_
    refine WL.nl (.thn ?_)
    exact WP.rt (.rthn (.rN rfl (.cons (.tm rfl) (.cons (.tm rfl) (.cons (.tm rfl) .nil))) (le_ rfl) (by rw [show rLookup g s a = (0, false, 2) from by unfold rLookup; rw [hl]; exact if_pos hz]; exact imp  _)))
  · skip
    have hz : ¬ (a < 0 ∨ v.n ≤ a) := by simp only [Bool.or_eq_false_iff, decide_eq_false_iff_not] at hc; omega
    refine WP.sk (.thn ?_)
    refine WP.seq ?_
    refine WP.region ?_
    refine WL.op (fv fo_ef36_Family_1 (ot rfl)) (by decide) ?_
    refine WL.op (lb 0 rfl sc_s_tegularef36_Volume (ot rfl) rfl) (by decide) ?_
    refine WL.op (mv (ot rfl)) (by decide) ?_
    refine WL.op (OpG.weak (R' := at_ (FRV v)) (ixd el_s_tegularef36_Volume (ot rfl) (ot  rfl) (by omega) (by omega)) (imp_eq (congrArg (fun v => at_ (FRV v)) hv))) (by decide) ?_
    refine WL.op (fa fo_ef36_Volume_3 (ot rfl)) (by decide) ?_
    refine WL.op (ld sc_s_api_Extent (ot rfl)) (by decide) ?_
    refine WL.op (mv (ot rfl)) (by decide) ?_
    refine WL.op (call (c_r32_Find v.l a (by omega) hvk.ok) (.c (ot rfl) (.c (ot rfl) .n))) (by decide) ?_
    refine WL.op (mv (ot rfl)) (by decide) ?_
    refine WL.op (ex (ot rfl) rfl) (by decide) ?_
    refine WL.op (ex (ot rfl) rfl) (by decide) ?_
    refine WL.op (asg (ot rfl)) (by decide) ?_
    refine WL.op (asg (ot rfl)) (by decide) ?_
    refine WL.nl (.thn ?_)
    refine WP.seq ?_
    refine WP.region ?_
    refine WL.op (mv (ot rfl)) (by decide) ?_
    refine WL.op (mv (ot rfl)) (by decide) ?_
    refine WL.op (asg (ot rfl)) (by decide) ?_
    refine WL.op (asg (ot rfl)) (by decide) ?_
    refine WL.op (asg (oc _)) (by decide) ?_
    refine WL.nl (.thn ?_)
    exact WP.rt (.rN rfl (.cons (.tm rfl) (.cons (.tm rfl) (.cons (.tm rfl) .nil))) (le_ rfl) (by rw [show rLookup g s a = ((sem v.l a).getD 0, (sem v.l a).isSome, 0) from by unfold rLookup; rw [hl]; exact if_neg hz]; exact imp  _))
theorem c_r36_Family_Lookup {g : RF} {s : ByteArray} {a : Int} (h : GOk g) (hsm : Sm g) : PureC Tryz.prog 37 [eG g, val (.string s), I a] (tup [I (rLookup g s a).1, val (.bool (rLookup g s a).2.1), I (rLookup g s a).2.2]) := by
  have hl0 : g.vs.length ≤ 1000 := by have := h.num; omega
  cases hl : gl s g.vs with
  | none => exact c_rLookup_none hl0 hl
  | some v => obtain ⟨i, h1, h2, h3⟩ := at_get hl; exact c_rLookup_some h hsm h2 h1 h3 hl

theorem c_rRange_none {g : RF} {s : ByteArray} {a n : Int} (hl0 : g.vs.length ≤ 1000) (hl : gl s g.vs = none) : PureC Tryz.prog 38 [eG g, val (.string s), I a, I n] (tup [sl 3 FX (rRange g s a n).1, I (rRange g s a n).2]) := by
  refine PureC.of_wp Tryz.func38 (by kernel_rfl) rfl Tryz.ntmps38 (le_ rfl) (fun w0 M0 => ?_)
  refine WP.seq ?_
  refine WP.region ?_
  refine WL.box (ot rfl) (.agg _) (by decide) fun b4 => ?_
  refine WL.op (asg (oc _)) (by decide) ?_
  refine WL.op (asg (oc _)) (by decide) ?_
  refine WL.nl (.thn ?_)
  refine WP.seq ?_
  refine WP.region ?_
  refine WL.op (lbs 0 rfl ag_ef36_Family (ot rfl) (le_ rfl)) (by decide) ?_
  refine WL.op (mv (ot rfl)) (by decide) ?_
  refine WL.op (OpG.weak (R' := I (-1)) (call (c_r36_Family_At  hl0) (.c (ot rfl) (.c (ot rfl) .n))) (imp_eq (congrArg I (at_none hl).1))) (by decide) ?_
  refine WL.op (asg (ot rfl)) (by decide) ?_
  refine WL.nl (.thn ?_)
  refine WP.seq ?_
  refine WP.seq ?_
  refine WP.region ?_
  refine WL.op (mv (ot rfl)) (by decide) ?_
  refine WL.op (OpG.weak (R' := val (.bool true)) (lss (ot rfl)  (oc _)) (imp_eq (congrArg (fun b => val (.bool b)) (decide_eq_true (by omega))))) (by decide) ?_
  refine WL.nl (.thn ?_)
  refine WP.condT rfl ?_
  refine WP.seq ?_
  refine WP.region ?_
  refine WL.op (asg (oc _)) (by decide) ?_
  refine WL.op (asg (oc _)) (by decide) ?_
  refine WL.nl (.thn ?_)
  exact WP.rt (.rthn (.rN rfl (.cons (.tm rfl) (.cons (.tm rfl) .nil)) (le_ rfl) (by rw [show rRange g s a n = ([], 9) from by unfold rRange; rw [hl]]; exact impT (.c sl_nil (.c (imp  _) .n)))))
theorem c_rRange_some {g : RF} {s : ByteArray} {a n : Int} (h : GOk g) (hsm : Sm g) {i : Nat} {v : RV} (hi : rAt g.vs s = i) (hil : i < g.vs.length) (hv : g.vs.getD (i : Int).toNat default = v) (hl : gl s g.vs = some v) : PureC Tryz.prog 38 [eG g, val (.string s), I a, I n] (tup [sl 3 FX (rRange g s a n).1, I (rRange g s a n).2]) := by
  have hl0 : g.vs.length ≤ 1000 := by have := h.num; omega
  have hvk := h.vol v (gl_mem hl).1
  have hvn : 0 ≤ v.n ∧ v.n ≤ 65536 := by have := hvk.n; omega
  have hvl := sm_len hvk (hsm v (gl_mem hl).1)
  refine PureC.of_wp Tryz.func38 (by kernel_rfl) rfl Tryz.ntmps38 (le_ rfl) (fun w0 M0 => ?_)
  refine WP.seq ?_
  refine WP.region ?_
  refine WL.box (ot rfl) (.agg _) (by decide) fun b4 => ?_
  refine WL.op (asg (oc _)) (by decide) ?_
  refine WL.op (asg (oc _)) (by decide) ?_
  refine WL.nl (.thn ?_)
  refine WP.seq ?_
  refine WP.region ?_
  refine WL.op (lbs 0 rfl ag_ef36_Family (ot rfl) (le_ rfl)) (by decide) ?_
  refine WL.op (mv (ot rfl)) (by decide) ?_
  refine WL.op (OpG.weak (R' := I (i : Int)) (call (c_r36_Family_At  hl0) (.c (ot rfl) (.c (ot rfl) .n))) (imp_eq (congrArg I hi))) (by decide) ?_
  refine WL.op (asg (ot rfl)) (by decide) ?_
  refine WL.nl (.thn ?_)
  refine WP.seq ?_
  refine WP.seq ?_
  refine WP.region ?_
  refine WL.op (mv (ot rfl)) (by decide) ?_
  refine WL.op (OpG.weak (R' := val (.bool false)) (lss (ot rfl)  (oc _)) (imp_eq (congrArg (fun b => val (.bool b)) (decide_eq_false (by omega))))) (by decide) ?_
  refine WL.nl (.thn ?_)
  refine WP.condF rfl ?_
  refine WP.sk (.thn ?_)
  refine WP.seq ?_
  refine WP.seq ?_
  refine WP.region ?_
  refine WL.op (fv fo_ef36_Family_1 (ot rfl)) (by decide) ?_
  refine WL.op (lb 0 rfl sc_s_tegularef36_Volume (ot rfl) rfl) (by decide) ?_
  refine WL.op (mv (ot rfl)) (by decide) ?_
  refine WL.op (OpG.weak (R' := at_ (FRV v)) (ixd el_s_tegularef36_Volume (ot rfl) (ot  rfl) (by omega) (by omega)) (imp_eq (congrArg (fun v => at_ (FRV v)) hv))) (by decide) ?_
  refine WL.op (ls ag_ef36_Volume (ot rfl) (le_ rfl)) (by decide) ?_
  refine WL.op (mv (ot rfl)) (by decide) ?_
  refine WL.op (mv (ot rfl)) (by decide) ?_
  refine WL.op (call (c_r36_Volume_inside (v := v) hvn) (.c (ot rfl) (.c (ot rfl) (.c (ot rfl) .n)))) (by decide) ?_
  refine WL.op (not_ (ot rfl)) (by decide) ?_
  refine WL.nl (.thn ?_)
  refine WP.cond rfl (fun hc => ?_) (fun hc => ?_)
  · skip
    have hz : ¬ inB v.n a n = true := by simpa using hc
    refine WP.seq ?_
    refine WP.region ?_
    refine WL.op (asg (oc _)) (by decide) ?_
    refine WL.op (asg (oc _)) (by decide) ?_
    refine WL.nl (.thn ?_)
    exact WP.rt (.rthn (.rN rfl (.cons (.tm rfl) (.cons (.tm rfl) .nil)) (le_ rfl) (by rw [show rRange g s a n = ([], 2) from by unfold rRange; rw [hl]; exact if_neg hz]; exact impT (.c sl_nil (.c (imp  _) .n)))))
  · skip
    have hz : inB v.n a n = true := by simpa using hc
    refine WP.sk (.thn ?_)
    refine WP.seq ?_
    refine WP.region ?_
    refine WL.op (fv fo_ef36_Family_1 (ot rfl)) (by decide) ?_
    refine WL.op (lb 0 rfl sc_s_tegularef36_Volume (ot rfl) rfl) (by decide) ?_
    refine WL.op (mv (ot rfl)) (by decide) ?_
    refine WL.op (OpG.weak (R' := at_ (FRV v)) (ixd el_s_tegularef36_Volume (ot rfl) (ot  rfl) (by omega) (by omega)) (imp_eq (congrArg (fun v => at_ (FRV v)) hv))) (by decide) ?_
    refine WL.op (fa fo_ef36_Volume_3 (ot rfl)) (by decide) ?_
    refine WL.op (ld sc_s_api_Extent (ot rfl)) (by decide) ?_
    refine WL.op (mv (ot rfl)) (by decide) ?_
    refine WL.op (mv (ot rfl)) (by decide) ?_
    refine WL.op (call (c_r32_Cut (xs := v.l) (by omega) hvk.ok) (.c (ot rfl) (.c (ot rfl) (.c (ot rfl) .n)))) (by decide) ?_
    refine WL.op (mv (ot rfl)) (by decide) ?_
    refine WL.op (ex (ot rfl) rfl) (by decide) ?_
    refine WL.op (ex (ot rfl) rfl) (by decide) ?_
    refine WL.op (ex (ot rfl) rfl) (by decide) ?_
    refine WL.op (asg (ot rfl)) (by decide) ?_
    refine WL.op (asg (ot rfl)) (by decide) ?_
    refine WL.op (asg (ot rfl)) (by decide) ?_
    refine WL.nl (.thn ?_)
    refine WP.seq ?_
    refine WP.region ?_
    refine WL.op (mv (ot rfl)) (by decide) ?_
    refine WL.op (asg (ot rfl)) (by decide) ?_
    refine WL.op (asg (oc _)) (by decide) ?_
    refine WL.nl (.thn ?_)
    exact WP.rt (.rN rfl (.cons (.tm rfl) (.cons (.tm rfl) .nil)) (le_ rfl) (by rw [show rRange g s a n = ((rCut v.l a n).2.1, 0) from by unfold rRange; rw [hl]; exact if_pos hz]; exact imp  _))
theorem c_r36_Family_Range {g : RF} {s : ByteArray} {a n : Int} (h : GOk g) (hsm : Sm g) : PureC Tryz.prog 38 [eG g, val (.string s), I a, I n] (tup [sl 3 FX (rRange g s a n).1, I (rRange g s a n).2]) := by
  have hl0 : g.vs.length ≤ 1000 := by have := h.num; omega
  cases hl : gl s g.vs with
  | none => exact c_rRange_none hl0 hl
  | some v => obtain ⟨i, h1, h2, h3⟩ := at_get hl; exact c_rRange_some h hsm h2 h1 h3 hl

theorem c_rInfo_none {g : RF} {s : ByteArray} (hl0 : g.vs.length ≤ 1000) (hl : gl s g.vs = none) : PureC Tryz.prog 33 [eG g, val (.string s)] (tup [agg (FInf (rInfo g s).1), I (rInfo g s).2]) := by
  refine PureC.of_wp Tryz.func33 (by kernel_rfl) rfl Tryz.ntmps33 (le_ rfl) (fun w0 M0 => ?_)
  refine WP.seq ?_
  refine WP.region ?_
  refine WL.box (ot rfl) (.agg _) (by decide) fun b2 => ?_
  refine WL.alloc zr_VolumeInfo rfl (by decide) fun b4 => ?_
  refine WL.op (asg (oc _)) (by decide) ?_
  refine WL.nl (.thn ?_)
  refine WP.seq ?_
  refine WP.region ?_
  refine WL.op (lbs 1 rfl ag_ef36_Family (ot rfl) (le_ rfl)) (by decide) ?_
  refine WL.op (mv (ot rfl)) (by decide) ?_
  refine WL.op (OpG.weak (R' := I (-1)) (call (c_r36_Family_At  hl0) (.c (ot rfl) (.c (ot rfl) .n))) (imp_eq (congrArg I (at_none hl).1))) (by decide) ?_
  refine WL.op (asg (ot rfl)) (by decide) ?_
  refine WL.nl (.thn ?_)
  refine WP.seq ?_
  refine WP.seq ?_
  refine WP.region ?_
  refine WL.op (mv (ot rfl)) (by decide) ?_
  refine WL.op (OpG.weak (R' := val (.bool true)) (lss (ot rfl)  (oc _)) (imp_eq (congrArg (fun b => val (.bool b)) (decide_eq_true (by omega))))) (by decide) ?_
  refine WL.nl (.thn ?_)
  refine WP.condT rfl ?_
  refine WP.seq ?_
  refine WP.region ?_
  refine WL.op (bld zr_VolumeInfo rfl ps_VolumeInfo .n) (by decide) ?_
  refine WL.store 0 rfl (ot rfl) (ot rfl) (.agg _) sz_VolumeInfo rfl (le_ rfl) ?_
  refine WL.op (asg (oc _)) (by decide) ?_
  refine WL.nl (.thn ?_)
  exact WP.rt (.rthn (.rN rfl (.cons (.bx 0 rfl rfl ag_VolumeInfo) (.cons (.tm rfl) .nil)) (le_ rfl) (by rw [show rInfo g s = (default, 9) from by unfold rInfo; rw [hl]]; exact imp  _)))
theorem c_rInfo_some {g : RF} {s : ByteArray} (h : GOk g) {i : Nat} {v : RV} (hi : rAt g.vs s = i) (hil : i < g.vs.length) (hv : g.vs.getD (i : Int).toNat default = v) (hl : gl s g.vs = some v) : PureC Tryz.prog 33 [eG g, val (.string s)] (tup [agg (FInf (rInfo g s).1), I (rInfo g s).2]) := by
  have hl0 : g.vs.length ≤ 1000 := by have := h.num; omega
  have hgk := h.k
  have hgc := (counts_spec h).1
  have hvk := h.vol v (gl_mem hl).1
  have hvl := ok_len hvk.ok
  have hsl := slots_cs h (gl_mem hl).1
  have hbd := exE_bd hsl hvk.ok
  refine PureC.of_wp Tryz.func33 (by kernel_rfl) rfl Tryz.ntmps33 (le_ rfl) (fun w0 M0 => ?_)
  refine WP.seq ?_
  refine WP.region ?_
  refine WL.box (ot rfl) (.agg _) (by decide) fun b2 => ?_
  refine WL.alloc zr_VolumeInfo rfl (by decide) fun b4 => ?_
  refine WL.op (asg (oc _)) (by decide) ?_
  refine WL.nl (.thn ?_)
  refine WP.seq ?_
  refine WP.region ?_
  refine WL.op (lbs 1 rfl ag_ef36_Family (ot rfl) (le_ rfl)) (by decide) ?_
  refine WL.op (mv (ot rfl)) (by decide) ?_
  refine WL.op (OpG.weak (R' := I (i : Int)) (call (c_r36_Family_At  hl0) (.c (ot rfl) (.c (ot rfl) .n))) (imp_eq (congrArg I hi))) (by decide) ?_
  refine WL.op (asg (ot rfl)) (by decide) ?_
  refine WL.nl (.thn ?_)
  refine WP.seq ?_
  refine WP.seq ?_
  refine WP.region ?_
  refine WL.op (mv (ot rfl)) (by decide) ?_
  refine WL.op (OpG.weak (R' := val (.bool false)) (lss (ot rfl)  (oc _)) (imp_eq (congrArg (fun b => val (.bool b)) (decide_eq_false (by omega))))) (by decide) ?_
  refine WL.nl (.thn ?_)
  refine WP.condF rfl ?_
  refine WP.sk (.thn ?_)
  refine WP.seq ?_
  refine WP.region ?_
  refine WL.op (fv fo_ef36_Family_1 (ot rfl)) (by decide) ?_
  refine WL.op (lb 1 rfl sc_s_tegularef36_Volume (ot rfl) rfl) (by decide) ?_
  refine WL.op (mv (ot rfl)) (by decide) ?_
  refine WL.op (OpG.weak (R' := at_ (FRV v)) (ixd el_s_tegularef36_Volume (ot rfl) (ot  rfl) (by omega) (by omega)) (imp_eq (congrArg (fun v => at_ (FRV v)) hv))) (by decide) ?_
  refine WL.op (ls ag_ef36_Volume (ot rfl) (le_ rfl)) (by decide) ?_
  refine WL.alloc zr_ef36_Volume rfl (by decide) fun b7 => ?_
  refine WL.store 0 rfl (ot rfl) (ot rfl) (.agg _) sz_ef36_Volume rfl (le_ rfl) ?_
  refine WL.nl (.thn ?_)
  refine WP.seq ?_
  refine WP.draws ?_
  refine RG.op (fv fo_ef36_Volume_0 (ot rfl)) ?_
  refine RG.op (lb 0 rfl sc_string (ot rfl) rfl) ?_
  refine RG.op (fv fo_ef36_Volume_1 (ot rfl)) ?_
  refine RG.op (lb 0 rfl sc_int (ot rfl) rfl) ?_
  refine RG.op (fv fo_ef36_Volume_2 (ot rfl)) ?_
  refine RG.op (lb 0 rfl sc_int (ot rfl) rfl) ?_
  refine RG.op (fv fo_ef36_Volume_3 (ot rfl)) ?_
  refine RG.op (lb 0 rfl sc_s_api_Extent (ot rfl) rfl) ?_
  refine RG.op (call (c_r32_Blocks v.l (by omega) hvk.ok) (.c (ot rfl) .n)) ?_
  refine RG.op (bld zr_VolumeInfo rfl ps_VolumeInfo (.c (ot rfl) (.leaf (.val rfl)) pl_VolumeInfo_0 rfl (le_ rfl) (.c (ot rfl) (.leaf (.val rfl)) pl_VolumeInfo_1 rfl (le_ rfl) (.c (ot rfl) (.leaf (.val rfl)) pl_VolumeInfo_2 rfl (le_ rfl) (.c (ot rfl) (.leaf (.val rfl)) pl_VolumeInfo_3 rfl (le_ rfl) .n))))) ?_
  refine RG.bx (.alloc zr_VolumeInfo rfl) ?_
  refine RG.fin HM (by kernel_rfl) ?_
  intro b8
  show WL _ _ _ _ _ _ _ _ _
  refine WL.store 0 rfl (ot rfl) (ot rfl) (.agg _) sz_VolumeInfo rfl (le_ rfl) ?_
  refine WL.nl (.thn ?_)
  refine WP.seq ?_
  refine WP.region ?_
  refine WL.op (lbs 3 rfl ag_ef36_Family (ot rfl) (le_ rfl)) (by decide) ?_
  refine WL.op (call (c_r36_Family_Counts h) (.c (ot rfl) .n)) (by decide) ?_
  refine WL.op (asg (ot rfl)) (by decide) ?_
  refine WL.nl (.thn ?_)
  refine WP.seq ?_
  refine WP.seq ?_
  refine WP.region ?_
  refine WL.op (asg (oc _)) (by decide) ?_
  refine WL.nl (.thn ?_)
  refine WP.block ?_
  refine WP.loop (fun y : Nat => [.b b8 34 (FInf ⟨v.s, v.n, v.r, sumN v.l, exE (rCounts g) (v.l.take y)⟩), .b b7 56 (FRV v), .b b4 34 [val (.string ByteArray.empty), I 0, I 0, I 0, I 0], .b b2 45 [I (g.k : Int), sl 4 FRV g.vs]]) (fun y => [(10, I (y : Int)), (9, sl 1 FI (rCounts g)), (8, val (.pointer (some ⟨b8, 0, none⟩))), (7, val (.pointer (some ⟨b7, 0, none⟩))), (4, val (.pointer (some ⟨b4, 0, none⟩)))]) (fun y => y ≤ v.l.length) (fun y => v.l.length - y) 0 (Nat.zero_le _) (Sub.ofD 0 rfl (Sub.cons rfl (imp_eq rfl) (Sub.cons rfl (imp  _) (Sub.cons rfl (imp  _) (Sub.cons rfl (imp  _) (Sub.cons rfl (imp  _) Sub.nil)))))) (fun k hk => ?_)
  replace hk : k ≤ v.l.length := hk
  show WP _ _ _ _ [.b b8 34 (FInf ⟨v.s, v.n, v.r, sumN v.l, exE (rCounts g) (v.l.take k)⟩), .b b7 56 (FRV v), .b b4 34 [val (.string ByteArray.empty), I 0, I 0, I 0, I 0], .b b2 45 [I (g.k : Int), sl 4 FRV g.vs]] [(10, I (k : Int)), (9, sl 1 FI (rCounts g)), (8, val (.pointer (some ⟨b8, 0, none⟩))), (7, val (.pointer (some ⟨b7, 0, none⟩))), (4, val (.pointer (some ⟨b4, 0, none⟩)))] _ _
  refine WP.seq ?_
  refine WP.seq ?_
  refine WP.region ?_
  refine WL.op (mv (ot rfl)) (by decide) ?_
  refine WL.op (fv fo_ef36_Volume_3 (ot rfl)) (by decide) ?_
  refine WL.op (lb 1 rfl sc_s_api_Extent (ot rfl) rfl) (by decide) ?_
  refine WL.op (len_ us_s_api_Extent (ot rfl)) (by decide) ?_
  refine WL.op (lss (ot rfl) (ot rfl)) (by decide) ?_
  refine WL.nl (.thn ?_)
  refine WP.cond rfl (fun hc => ?_) (fun hc => ?_)
  · skip
    have hc1 : k < v.l.length := by have := of_decide_eq_true hc; omega
    have hx := hsl _ (getX_mem' hc1)
    have hb1 := hbd k
    refine WP.sk (.thn ?_)
    refine WP.seq ?_
    refine WP.block ?_
    refine WP.seq ?_
    refine WP.region ?_
    refine WL.op (fv fo_ef36_Volume_3 (ot rfl)) (by decide) ?_
    refine WL.op (lb 1 rfl sc_s_api_Extent (ot rfl) rfl) (by decide) ?_
    refine WL.op (mv (ot rfl)) (by decide) ?_
    refine WL.op (ixd el_s_api_Extent (ot rfl) (ot rfl) (by omega) (by omega)) (by decide) ?_
    refine WL.op (fa fo_Extent_2 (ot rfl)) (by decide) ?_
    refine WL.op (ld sc_int (ot rfl)) (by decide) ?_
    refine WL.op (asg (ot rfl)) (by decide) ?_
    refine WL.nl (.thn ?_)
    refine WP.block ?_
    refine WP.loop (fun y : Nat => [.b b8 34 (FInf ⟨v.s, v.n, v.r, sumN v.l, exE (rCounts g) (v.l.take k) + ex1 (rCounts g) (v.l.getD (k : Int).toNat default) y⟩), .b b7 56 (FRV v), .b b4 34 [val (.string ByteArray.empty), I 0, I 0, I 0, I 0], .b b2 45 [I (g.k : Int), sl 4 FRV g.vs]]) (fun y => [(11, I ((v.l.getD (k : Int).toNat default).s + y)), (10, I (k : Int)), (9, sl 1 FI (rCounts g)), (8, val (.pointer (some ⟨b8, 0, none⟩))), (7, val (.pointer (some ⟨b7, 0, none⟩))), (4, val (.pointer (some ⟨b4, 0, none⟩)))]) (fun y => (y : Int) ≤ (v.l.getD (k : Int).toNat default).n) (fun y => (v.l.getD (k : Int).toNat default).n.toNat - y) 0 (by omega) (Sub.ofD 0 (by rw [show exE (rCounts g) (v.l.take k) + ex1 (rCounts g) (v.l.getD (k : Int).toNat default) 0 = exE (rCounts g) (v.l.take k) from Int.add_zero _]; rfl) (Sub.cons rfl (imp_eq (congrArg I (by omega))) (Sub.cons rfl (imp  _) (Sub.cons rfl (imp  _) (Sub.cons rfl (imp  _) (Sub.cons rfl (imp  _) (Sub.cons rfl (imp  _) Sub.nil))))))) (fun q hq => ?_)
    replace hq : (q : Int) ≤ (v.l.getD (k : Int).toNat default).n := hq
    show WP _ _ _ _ [.b b8 34 (FInf ⟨v.s, v.n, v.r, sumN v.l, exE (rCounts g) (v.l.take k) + ex1 (rCounts g) (v.l.getD (k : Int).toNat default) q⟩), .b b7 56 (FRV v), .b b4 34 [val (.string ByteArray.empty), I 0, I 0, I 0, I 0], .b b2 45 [I (g.k : Int), sl 4 FRV g.vs]] [(11, I ((v.l.getD (k : Int).toNat default).s + q)), (10, I (k : Int)), (9, sl 1 FI (rCounts g)), (8, val (.pointer (some ⟨b8, 0, none⟩))), (7, val (.pointer (some ⟨b7, 0, none⟩))), (4, val (.pointer (some ⟨b4, 0, none⟩)))] _ _
    refine WP.seq ?_
    refine WP.seq ?_
    refine WP.draws ?_
    refine RG.op (mv (ot rfl)) ?_
    refine RG.op (fv fo_ef36_Volume_3 (ot rfl)) ?_
    refine RG.op (lb 1 rfl sc_s_api_Extent (ot rfl) rfl) ?_
    refine RG.op (mv (ot rfl)) ?_
    refine RG.op (ixd el_s_api_Extent (ot rfl) (ot rfl) (by omega) (by omega)) ?_
    refine RG.op (fa fo_Extent_2 (ot rfl)) ?_
    refine RG.op (ld sc_int (ot rfl)) ?_
    refine RG.op (fv fo_ef36_Volume_3 (ot rfl)) ?_
    refine RG.op (lb 1 rfl sc_s_api_Extent (ot rfl) rfl) ?_
    refine RG.op (mv (ot rfl)) ?_
    refine RG.op (ixd el_s_api_Extent (ot rfl) (ot rfl) (by omega) (by omega)) ?_
    refine RG.op (fa fo_Extent_1 (ot rfl)) ?_
    refine RG.op (ld sc_int (ot rfl)) ?_
    refine RG.op (add (ot rfl) (ot rfl) (by omega)) ?_
    refine RG.op (lss (ot rfl) (ot rfl)) ?_
    refine RG.fin HM (by kernel_rfl) ?_
    show WL _ _ _ _ _ _ _ _ _
    refine WL.nl (.thn ?_)
    refine WP.cond rfl (fun hc => ?_) (fun hc => ?_)
    · skip
      have hq1 : (q : Int) < (v.l.getD (k : Int).toNat default).n := by have := of_decide_eq_true hc; omega
      have hb2 := ex1_bd (rCounts g) (v.l.getD (k : Int).toNat default) q
      refine WP.sk (.thn ?_)
      refine WP.seq ?_
      refine WP.block ?_
      refine WP.seq ?_
      refine WP.region ?_
      refine WL.op (mv (ot rfl)) (by decide) ?_
      refine WL.op (mv (ot rfl)) (by decide) ?_
      refine WL.op (ixd el_ef34_Counts (ot rfl) (ot rfl) (by omega) (by omega)) (by decide) ?_
      refine WL.op (ld sc_int (ot rfl)) (by decide) ?_
      refine WL.op (eql (ot rfl) (oc _)) (by decide) ?_
      refine WL.nl (.thn ?_)
      refine WP.cond rfl (fun hc => ?_) (fun hc => ?_)
      · skip
        have hz0 : (rCounts g).getD ((v.l.getD (k : Int).toNat default).s.toNat + q) 0 = 1 := by have := of_decide_eq_true hc; rwa [getI (by omega), show ((v.l.getD (k : Int).toNat default).s + (q : Int)).toNat = (v.l.getD (k : Int).toNat default).s.toNat + q from by omega] at this
        refine WP.region ?_
        refine WL.op (fv fo_VolumeInfo_4 (ot rfl)) (by decide) ?_
        refine WL.op (lb 0 rfl sc_int (ot rfl) rfl) (by decide) ?_
        refine WL.op (add (ot rfl) (oc _) (by dsimp only; omega)) (by decide) ?_
        refine WL.op (fv fo_VolumeInfo_4 (ot rfl)) (by decide) ?_
        refine WL.store 0 rfl (ot rfl) (ot rfl) (.leaf (.val rfl)) sz_int rfl (le_ rfl) ?_
        refine WL.nl (.blk (.thn ?_))
        refine WP.region ?_
        refine WL.op (mv (ot rfl)) (by decide) ?_
        refine WL.op (add (ot rfl) (oc _) (by omega)) (by decide) ?_
        refine WL.op (asg (ot rfl)) (by decide) ?_
        exact WL.nl (.again (q + 1) (by omega) (by omega) (Sub.ofD 0 (Eq.trans (b := [.b b8 34 (FInf ⟨v.s, v.n, v.r, sumN v.l, exE (rCounts g) (v.l.take k) + ex1 (rCounts g) (v.l.getD (k : Int).toNat default) q + 1⟩), .b b7 56 (FRV v), .b b4 34 [val (.string ByteArray.empty), I 0, I 0, I 0, I 0], .b b2 45 [I (g.k : Int), sl 4 FRV g.vs]]) rfl (by rw [ex1_step, if_pos hz0, ← Int.add_assoc])) (Sub.cons rfl (imp_eq (congrArg I (by omega))) (Sub.cons rfl (imp  _) (Sub.cons rfl (imp  _) (Sub.cons rfl (imp  _) (Sub.cons rfl (imp  _) (Sub.cons rfl (imp  _) Sub.nil))))))))
      · skip
        have hz0 : ¬ (rCounts g).getD ((v.l.getD (k : Int).toNat default).s.toNat + q) 0 = 1 := by have := of_decide_eq_false hc; rwa [getI (by omega), show ((v.l.getD (k : Int).toNat default).s + (q : Int)).toNat = (v.l.getD (k : Int).toNat default).s.toNat + q from by omega] at this
        refine WP.sk (.blk (.thn ?_))
        refine WP.region ?_
        refine WL.op (mv (ot rfl)) (by decide) ?_
        refine WL.op (add (ot rfl) (oc _) (by omega)) (by decide) ?_
        refine WL.op (asg (ot rfl)) (by decide) ?_
        exact WL.nl (.again (q + 1) (by omega) (by omega) (Sub.ofD 0 (by rw [ex1_step, if_neg hz0, Int.add_zero]; rfl) (Sub.cons rfl (imp_eq (congrArg I (by omega))) (Sub.cons rfl (imp  _) (Sub.cons rfl (imp  _) (Sub.cons rfl (imp  _) (Sub.cons rfl (imp  _) (Sub.cons rfl (imp  _) Sub.nil))))))))
    · skip
      have hq1 : ¬ (q : Int) < (v.l.getD (k : Int).toNat default).n := by have := of_decide_eq_false hc; omega
      refine WP.xt (.xthn (.xthn (.xin (.blk (.thn ?_)))))
      refine WP.region ?_
      refine WL.op (mv (ot rfl)) (by decide) ?_
      refine WL.op (add (ot rfl) (oc _) (by omega)) (by decide) ?_
      refine WL.op (asg (ot rfl)) (by decide) ?_
      exact WL.nl (.again (k + 1) (by omega) (by omega) (Sub.ofD 0 (by rw [exE_step hc1, show q = (v.l.getD (k : Int).toNat default).n.toNat from by omega]; rfl) (Sub.cons rfl (imp_eq (congrArg I (by omega))) (Sub.cons rfl (imp  _) (Sub.cons rfl (imp  _) (Sub.cons rfl (imp  _) (Sub.cons rfl (imp  _) Sub.nil)))))))
  · skip
    have hc1 : ¬ k < v.l.length := by have := of_decide_eq_false hc; omega
    refine WP.xt (.xthn (.xthn (.xin (.thn ?_))))
    refine WP.seq ?_
    refine WP.region ?_
    refine WL.op (lbs 0 rfl ag_VolumeInfo (ot rfl) (le_ rfl)) (by decide) ?_
    refine WL.store 2 rfl (ot rfl) (ot rfl) (.agg _) sz_VolumeInfo rfl (le_ rfl) ?_
    refine WL.op (asg (oc _)) (by decide) ?_
    refine WL.nl (.thn ?_)
    exact WP.rt (.rN rfl (.cons (.bx 2 rfl rfl ag_VolumeInfo) (.cons (.tm rfl) .nil)) (le_ rfl) (by rw [show rInfo g s = (⟨v.s, v.n, v.r, sumN v.l, exE (rCounts g) (v.l.take k)⟩, 0) from by unfold rInfo; rw [hl, List.take_of_length_le (by omega)]]; exact imp  _))
theorem c_r36_Family_Info {g : RF} {s : ByteArray} (h : GOk g) : PureC Tryz.prog 33 [eG g, val (.string s)] (tup [agg (FInf (rInfo g s).1), I (rInfo g s).2]) := by
  have hl0 : g.vs.length ≤ 1000 := by have := h.num; omega
  cases hl : gl s g.vs with
  | none => exact c_rInfo_none hl0 hl
  | some v => obtain ⟨i, h1, h2, h3⟩ := at_get hl; exact c_rInfo_some h h2 h1 h3 hl

theorem c_r36_Names {n : Int} (h : 0 ≤ n ∧ n ≤ 255) : PureC Tryz.prog 25 [val (.int .u8 n)] (val (.string (nm n))) := by
  refine PureC.of_wp Tryz.func25 (by kernel_rfl) rfl Tryz.ntmps25 (le_ rfl) (fun w0 M0 => ?_)
  refine WP.seq ?_
  refine WP.region ?_
  refine WL.op (asg (oc _)) (by decide) ?_
  refine WL.nl (.thn ?_)
  refine WP.seq ?_
  refine WP.seq ?_
  refine WP.region ?_
  refine WL.op (mv (ot rfl)) (by decide) ?_
  refine WL.op (rem_ (ot rfl) (oc _) (by omega) (by omega)) (by decide) ?_
  refine WL.op (eql (ot rfl) (oc _)) (by decide) ?_
  refine WL.nl (.thn ?_)
  refine WP.cond rfl (fun hc => ?_) (fun hc => ?_)
  · skip
    have hz : n % 6 = 5 := of_decide_eq_true hc
    refine WP.seq ?_
    refine WP.region ?_
    refine WL.op (asg (oc _)) (by decide) ?_
    refine WL.nl (.thn ?_)
    exact WP.rt (.rthn (.r1 rfl rfl (imp_eq (congrArg (fun s => val (.string s)) (show _ = nm n by unfold nm; rw [if_pos hz]; rfl)))))
  · skip
    have hz : ¬ n % 6 = 5 := of_decide_eq_false hc
    refine WP.sk (.thn ?_)
    refine WP.seq ?_
    refine WP.region ?_
    refine WL.op (mv (ot rfl)) (by decide) ?_
    refine WL.op (rem_ (ot rfl) (oc _) (by omega) (by omega)) (by decide) ?_
    refine WL.op (OpG.weak (R' := val (.int .u8 (((UInt8.ofNat (97 + (n % 6).toNat)).toNat : Nat) : Int))) (addw (oc _) (ot rfl)) (imp_eq (congrArg (fun z => val (.int .u8 z)) (nm_add h.1 hz)))) (by decide) ?_
    refine WL.op (bsl1 (f := FU) (el := UInt8.ofNat (97 + (n % 6).toNat)) ei_s_uint8 (ot rfl) (.leaf (.val rfl)) rfl (by decide) (by decide)) (by decide) ?_
    refine WL.op (cvbs us_s_uint8 un_uint8 un_string (by simp) (ot rfl)) (by decide) ?_
    refine WL.op (asg (ot rfl)) (by decide) ?_
    refine WL.nl (.thn ?_)
    exact WP.rt (.r1 rfl rfl (imp_eq (congrArg (fun s => val (.string s)) (show _ = nm n by unfold nm; rw [if_neg hz]))))
end Go.Proofs.YtjglgfnhgehpeaaGreat

/- Sizes and places of this program's types, each asked of the kernel. -/
namespace Go.Proofs.YtjglgfnhgehpeaaGreat
open Go.Fw
theorem ag_ef36_Step : aggs Tryz.prog 50 = some 6 := by kernel_rfl
theorem el_s_tegularef36_Step : elemSz Tryz.prog 42 = some 6 := by kernel_rfl
theorem fo_ef36_Step_0 : fieldOff Tryz.prog 50 0 = some 0 := by kernel_rfl
theorem fo_ef36_Step_1 : fieldOff Tryz.prog 50 1 = some 1 := by kernel_rfl
theorem fo_ef36_Step_2 : fieldOff Tryz.prog 50 2 = some 2 := by kernel_rfl
theorem fo_ef36_Step_3 : fieldOff Tryz.prog 50 3 = some 3 := by kernel_rfl
theorem fo_ef36_Step_4 : fieldOff Tryz.prog 50 4 = some 4 := by kernel_rfl
theorem fo_ef36_Step_5 : fieldOff Tryz.prog 50 5 = some 5 := by kernel_rfl
theorem un_int : Tryz.prog.underlying 3 = some (.int .i64) := by kernel_rfl
theorem us_s_tegularef36_Step : Tryz.prog.underlying 42 = some (.slice 50) := by kernel_rfl
end Go.Proofs.YtjglgfnhgehpeaaGreat

/- Steps, by the reference and by the code; scripts. -/
set_option linter.unusedVariables false
set_option linter.unusedSimpArgs false
set_option maxRecDepth 4000
namespace Go.Proofs.YtjglgfnhgehpeaaGreat
open Go.RowKit Go.Fw Go.Xt
theorem nm_size (n : Int) : (nm n).size ≤ 9223372036854775807 := by
  unfold nm
  split
  · decide
  · show (1 : Nat) ≤ _; omega
theorem getS_mem {sc : List St6} {i : Nat} (hi : i < sc.length) : sc.getD (i : Int).toNat default ∈ sc := by
  rw [show ((i : Nat) : Int).toNat = i from by omega, List.getD_eq_getElem?_getD, List.getElem?_eq_getElem hi]; exact List.getElem_mem hi
theorem rA0 {g : RF} {t : St6} (h : t.k % 8 = 0) : rApply g t = ((rCreate g (nm t.v) t.n t.a).1, [], (rCreate g (nm t.v) t.n t.a).2) := if_pos h
theorem rA1 {g : RF} {t : St6} (h0 : ¬ t.k % 8 = 0) (h : t.k % 8 = 1) : rApply g t = ((rClone g (nm t.v) (nm t.o)).1, [], (rClone g (nm t.v) (nm t.o)).2) := by unfold rApply; rw [if_neg h0, if_pos h]
theorem rA2 {g : RF} {t : St6} (h0 : ¬ t.k % 8 = 0) (h1 : ¬ t.k % 8 = 1) (h : t.k % 8 = 2) : rApply g t = rDelete g (nm t.v) := by unfold rApply; rw [if_neg h0, if_neg h1, if_pos h]
theorem rA3 {g : RF} {t : St6} (h0 : ¬ t.k % 8 = 0) (h1 : ¬ t.k % 8 = 1) (h2 : ¬ t.k % 8 = 2) (h : t.k % 8 = 3) : rApply g t = rUnmap g (nm t.v) t.a t.n := by unfold rApply; rw [if_neg h0, if_neg h1, if_neg h2, if_pos h]
theorem rA4 {g : RF} {t : St6} (h0 : ¬ t.k % 8 = 0) (h1 : ¬ t.k % 8 = 1) (h2 : ¬ t.k % 8 = 2) (h : ¬ t.k % 8 = 3) : rApply g t = rAssign g (nm t.v) t.x := by unfold rApply; rw [if_neg h0, if_neg h1, if_neg h2, if_neg h]
theorem fA0 {g : Fam} {t : St6} (h : t.k % 8 = 0) : fApply g t = ((fCreate g (nm t.v) t.n t.a).1, [], (fCreate g (nm t.v) t.n t.a).2) := if_pos h
theorem fA1 {g : Fam} {t : St6} (h0 : ¬ t.k % 8 = 0) (h : t.k % 8 = 1) : fApply g t = ((fClone g (nm t.v) (nm t.o)).1, [], (fClone g (nm t.v) (nm t.o)).2) := by unfold fApply; rw [if_neg h0, if_pos h]
theorem fA2 {g : Fam} {t : St6} (h0 : ¬ t.k % 8 = 0) (h1 : ¬ t.k % 8 = 1) (h : t.k % 8 = 2) : fApply g t = fDelete g (nm t.v) := by unfold fApply; rw [if_neg h0, if_neg h1, if_pos h]
theorem fA3 {g : Fam} {t : St6} (h0 : ¬ t.k % 8 = 0) (h1 : ¬ t.k % 8 = 1) (h2 : ¬ t.k % 8 = 2) (h : t.k % 8 = 3) : fApply g t = fUnmap g (nm t.v) t.a t.n := by unfold fApply; rw [if_neg h0, if_neg h1, if_neg h2, if_pos h]
theorem fA4 {g : Fam} {t : St6} (h0 : ¬ t.k % 8 = 0) (h1 : ¬ t.k % 8 = 1) (h2 : ¬ t.k % 8 = 2) (h : ¬ t.k % 8 = 3) : fApply g t = fAssign g (nm t.v) t.x := by unfold fApply; rw [if_neg h0, if_neg h1, if_neg h2, if_neg h]

theorem c_r36_Family_Apply {g : RF} {t : St6} (h : GOk g) (hsm : Sm g) (ht : t.U8) : PureC Tryz.prog 35 [eG g, agg (FS6 t)] (tup [eG (rApply g t).1, sl 3 FX (rApply g t).2.1, I (rApply g t).2.2]) := by
  have hl0 : g.vs.length ≤ 1000 := by have := h.num; omega
  have hk := ht.k; have hv := ht.v; have ho := ht.o; have ha := ht.a; have hn := ht.n; have hs := ht.s
  refine PureC.of_wp Tryz.func35 (by kernel_rfl) rfl Tryz.ntmps35 (le_ rfl) (fun w0 M0 => ?_)
  refine WP.seq ?_
  refine WP.region ?_
  refine WL.box (ot rfl) (.agg _) (by decide) fun b2 => ?_
  refine WL.box (ot rfl) (.agg _) (by decide) fun b3 => ?_
  refine WL.alloc zr_ef36_Family rfl (by decide) fun b4 => ?_
  refine WL.op (asg (oc _)) (by decide) ?_
  refine WL.op (asg (oc _)) (by decide) ?_
  refine WL.nl (.thn ?_)
  refine WP.seq ?_
  refine WP.region ?_
  refine WL.op (fv fo_ef36_Step_1 (ot rfl)) (by decide) ?_
  refine WL.op (lb 1 rfl sc_uint8 (ot rfl) rfl) (by decide) ?_
  refine WL.op (call (c_r36_Names ht.v) (.c (ot rfl) .n)) (by decide) ?_
  refine WL.op (asg (ot rfl)) (by decide) ?_
  refine WL.nl (.thn ?_)
  refine WP.seq ?_
  refine WP.seq ?_
  refine WP.region ?_
  refine WL.op (fv fo_ef36_Step_0 (ot rfl)) (by decide) ?_
  refine WL.op (lb 1 rfl sc_uint8 (ot rfl) rfl) (by decide) ?_
  refine WL.op (rem_ (ot rfl) (oc _) (by omega) (by omega)) (by decide) ?_
  refine WL.nl (.thn ?_)
  refine WP.block ?_
  refine WP.seq ?_
  refine WP.region ?_
  refine WL.op (eql (ot rfl) (oc _)) (by decide) ?_
  refine WL.op (asg (ot rfl)) (by decide) ?_
  refine WL.nl (.thn ?_)
  refine WP.cond rfl (fun hc => ?_) (fun hc => ?_)
  · skip
    have h0 : t.k % 8 = 0 := of_decide_eq_true hc
    refine WP.seq ?_
    refine WP.region ?_
    refine WL.op (lbs 2 rfl ag_ef36_Family (ot rfl) (le_ rfl)) (by decide) ?_
    refine WL.op (mv (ot rfl)) (by decide) ?_
    refine WL.op (fv fo_ef36_Step_4 (ot rfl)) (by decide) ?_
    refine WL.op (lb 1 rfl sc_uint8 (ot rfl) rfl) (by decide) ?_
    refine WL.op (cv un_uint8 un_int (ot rfl) (IntWalk.i64_in _ (by omega))) (by decide) ?_
    refine WL.op (fv fo_ef36_Step_3 (ot rfl)) (by decide) ?_
    refine WL.op (lb 1 rfl sc_uint8 (ot rfl) rfl) (by decide) ?_
    refine WL.op (cv un_uint8 un_int (ot rfl) (IntWalk.i64_in _ (by omega))) (by decide) ?_
    refine WL.op (call (c_r36_Family_Create (nm_size _) hl0) (.c (ot rfl) (.c (ot rfl) (.c (ot rfl) (.c (ot rfl) .n))))) (by decide) ?_
    refine WL.op (mv (ot rfl)) (by decide) ?_
    refine WL.op (ex (ot rfl) rfl) (by decide) ?_
    refine WL.op (ex (ot rfl) rfl) (by decide) ?_
    refine WL.alloc zr_ef36_Family rfl (by decide) fun b8 => ?_
    refine WL.store 0 rfl (ot rfl) (ot rfl) (.agg _) sz_ef36_Family rfl (le_ rfl) ?_
    refine WL.op (asg (ot rfl)) (by decide) ?_
    refine WL.nl (.thn ?_)
    refine WP.seq ?_
    refine WP.region ?_
    refine WL.op (lbs 0 rfl ag_ef36_Family (ot rfl) (le_ rfl)) (by decide) ?_
    refine WL.op (mv (ot rfl)) (by decide) ?_
    refine WL.store 1 rfl (ot rfl) (ot rfl) (.agg _) sz_ef36_Family rfl (le_ rfl) ?_
    refine WL.op (asg (oc _)) (by decide) ?_
    refine WL.op (asg (ot rfl)) (by decide) ?_
    refine WL.nl (.thn ?_)
    exact WP.rt (.rblk (.rthn (.rN rfl (.cons (.bx 1 rfl rfl ag_ef36_Family) (.cons (.tm rfl) (.cons (.tm rfl) .nil))) (le_ rfl) (by rw [rA0 h0]; exact impT (.c (imp  _) (.c sl_nil (.c (imp  _) .n)))))))
  · skip
    have h0 : ¬ t.k % 8 = 0 := of_decide_eq_false hc
    refine WP.seq ?_
    refine WP.region ?_
    refine WL.op (eql (ot rfl) (oc _)) (by decide) ?_
    refine WL.op (asg (ot rfl)) (by decide) ?_
    refine WL.nl (.thn ?_)
    refine WP.cond rfl (fun hc => ?_) (fun hc => ?_)
    · skip
      have h1 : t.k % 8 = 1 := of_decide_eq_true hc
      refine WP.seq ?_
      refine WP.draws ?_
      refine RG.op (lbs 2 rfl ag_ef36_Family (ot rfl) (le_ rfl)) ?_
      refine RG.op (mv (ot rfl)) ?_
      refine RG.op (fv fo_ef36_Step_2 (ot rfl)) ?_
      refine RG.op (lb 1 rfl sc_uint8 (ot rfl) rfl) ?_
      refine RG.op (call (c_r36_Names ht.o) (.c (ot rfl) .n)) ?_
      refine RG.op (call (c_r36_Family_Clone (nm_size _) hl0) (.c (ot rfl) (.c (ot rfl) (.c (ot rfl) .n)))) ?_
      refine RG.op (mv (ot rfl)) ?_
      refine RG.op (ex (ot rfl) rfl) ?_
      refine RG.op (ex (ot rfl) rfl) ?_
      refine RG.bx (.alloc zr_ef36_Family rfl) ?_
      refine RG.ox 9 rfl rfl (OpO.store (ot rfl) (.agg _) sz_ef36_Family rfl rfl) ?_
      refine RG.op (asg (ot rfl)) ?_
      refine RG.fin HM (by kernel_rfl) ?_
      intro b10
      show WL _ _ _ _ _ _ _ _ _
      refine WL.nl (.thn ?_)
      refine WP.seq ?_
      refine WP.region ?_
      refine WL.op (lbs 0 rfl ag_ef36_Family (ot rfl) (le_ rfl)) (by decide) ?_
      refine WL.op (mv (ot rfl)) (by decide) ?_
      refine WL.store 1 rfl (ot rfl) (ot rfl) (.agg _) sz_ef36_Family rfl (le_ rfl) ?_
      refine WL.op (asg (oc _)) (by decide) ?_
      refine WL.op (asg (ot rfl)) (by decide) ?_
      refine WL.nl (.thn ?_)
      exact WP.rt (.rblk (.rthn (.rN rfl (.cons (.bx 1 rfl rfl ag_ef36_Family) (.cons (.tm rfl) (.cons (.tm rfl) .nil))) (le_ rfl) (by rw [rA1 h0 h1]; exact impT (.c (imp  _) (.c sl_nil (.c (imp  _) .n)))))))
    · skip
      have h1 : ¬ t.k % 8 = 1 := of_decide_eq_false hc
      refine WP.seq ?_
      refine WP.region ?_
      refine WL.op (eql (ot rfl) (oc _)) (by decide) ?_
      refine WL.op (asg (ot rfl)) (by decide) ?_
      refine WL.nl (.thn ?_)
      refine WP.cond rfl (fun hc => ?_) (fun hc => ?_)
      · skip
        have h2 : t.k % 8 = 2 := of_decide_eq_true hc
        refine WP.seq ?_
        refine WP.region ?_
        refine WL.op (lbs 2 rfl ag_ef36_Family (ot rfl) (le_ rfl)) (by decide) ?_
        refine WL.op (mv (ot rfl)) (by decide) ?_
        refine WL.op (call (c_r36_Family_Delete h) (.c (ot rfl) (.c (ot rfl) .n))) (by decide) ?_
        refine WL.op (ex (ot rfl) rfl) (by decide) ?_
        refine WL.op (ex (ot rfl) rfl) (by decide) ?_
        refine WL.op (ex (ot rfl) rfl) (by decide) ?_
        refine WL.store 0 rfl (ot rfl) (ot rfl) (.agg _) sz_ef36_Family rfl (le_ rfl) ?_
        refine WL.op (asg (ot rfl)) (by decide) ?_
        refine WL.op (asg (ot rfl)) (by decide) ?_
        refine WL.nl (.thn ?_)
        exact WP.rt (.rblk (.rthn (.rN rfl (.cons (.bx 0 rfl rfl ag_ef36_Family) (.cons (.tm rfl) (.cons (.tm rfl) .nil))) (le_ rfl) (by rw [rA2 h0 h1 h2]; exact imp  _))))
      · skip
        have h2 : ¬ t.k % 8 = 2 := of_decide_eq_false hc
        refine WP.seq ?_
        refine WP.region ?_
        refine WL.op (eql (ot rfl) (oc _)) (by decide) ?_
        refine WL.op (asg (ot rfl)) (by decide) ?_
        refine WL.nl (.thn ?_)
        refine WP.cond rfl (fun hc => ?_) (fun hc => ?_)
        · skip
          have h3 : t.k % 8 = 3 := of_decide_eq_true hc
          refine WP.seq ?_
          refine WP.region ?_
          refine WL.op (lbs 2 rfl ag_ef36_Family (ot rfl) (le_ rfl)) (by decide) ?_
          refine WL.op (mv (ot rfl)) (by decide) ?_
          refine WL.op (fv fo_ef36_Step_3 (ot rfl)) (by decide) ?_
          refine WL.op (lb 1 rfl sc_uint8 (ot rfl) rfl) (by decide) ?_
          refine WL.op (cv un_uint8 un_int (ot rfl) (IntWalk.i64_in _ (by omega))) (by decide) ?_
          refine WL.op (fv fo_ef36_Step_4 (ot rfl)) (by decide) ?_
          refine WL.op (lb 1 rfl sc_uint8 (ot rfl) rfl) (by decide) ?_
          refine WL.op (cv un_uint8 un_int (ot rfl) (IntWalk.i64_in _ (by omega))) (by decide) ?_
          refine WL.op (call (c_r36_Family_Unmap h hsm) (.c (ot rfl) (.c (ot rfl) (.c (ot rfl) (.c (ot rfl) .n))))) (by decide) ?_
          refine WL.op (ex (ot rfl) rfl) (by decide) ?_
          refine WL.op (ex (ot rfl) rfl) (by decide) ?_
          refine WL.op (ex (ot rfl) rfl) (by decide) ?_
          refine WL.store 0 rfl (ot rfl) (ot rfl) (.agg _) sz_ef36_Family rfl (le_ rfl) ?_
          refine WL.op (asg (ot rfl)) (by decide) ?_
          refine WL.op (asg (ot rfl)) (by decide) ?_
          refine WL.nl (.thn ?_)
          exact WP.rt (.rblk (.rthn (.rN rfl (.cons (.bx 0 rfl rfl ag_ef36_Family) (.cons (.tm rfl) (.cons (.tm rfl) .nil))) (le_ rfl) (by rw [rA3 h0 h1 h2 h3]; exact imp  _))))
        · skip
          have h3 : ¬ t.k % 8 = 3 := of_decide_eq_false hc
          refine WP.sk (.blk (.thn ?_))
          refine WP.seq ?_
          refine WP.region ?_
          refine WL.op (lbs 2 rfl ag_ef36_Family (ot rfl) (le_ rfl)) (by decide) ?_
          refine WL.op (mv (ot rfl)) (by decide) ?_
          refine WL.op (fv fo_ef36_Step_3 (ot rfl)) (by decide) ?_
          refine WL.op (lb 1 rfl sc_uint8 (ot rfl) rfl) (by decide) ?_
          refine WL.op (cv un_uint8 un_int (ot rfl) (IntWalk.i64_in _ (by omega))) (by decide) ?_
          refine WL.op (fv fo_ef36_Step_4 (ot rfl)) (by decide) ?_
          refine WL.op (lb 1 rfl sc_uint8 (ot rfl) rfl) (by decide) ?_
          refine WL.op (cv un_uint8 un_int (ot rfl) (IntWalk.i64_in _ (by omega))) (by decide) ?_
          refine WL.op (fv fo_ef36_Step_5 (ot rfl)) (by decide) ?_
          refine WL.op (lb 1 rfl sc_uint8 (ot rfl) rfl) (by decide) ?_
          refine WL.op (cv un_uint8 un_int (ot rfl) (IntWalk.i64_in _ (by omega))) (by decide) ?_
          refine WL.op (bld zr_Extent rfl ps_Extent (.c (ot rfl) (.leaf (.val rfl)) pl_Extent_0 rfl (le_ rfl) (.c (ot rfl) (.leaf (.val rfl)) pl_Extent_1 rfl (le_ rfl) (.c (ot rfl) (.leaf (.val rfl)) pl_Extent_2 rfl (le_ rfl) .n)))) (by decide) ?_
          refine WL.op (call (c_r36_Family_Assign (x := t.x) h hsm) (.c (ot rfl) (.c (ot rfl) (.c (ot rfl) .n)))) (by decide) ?_
          refine WL.op (ex (ot rfl) rfl) (by decide) ?_
          refine WL.op (ex (ot rfl) rfl) (by decide) ?_
          refine WL.op (ex (ot rfl) rfl) (by decide) ?_
          refine WL.store 0 rfl (ot rfl) (ot rfl) (.agg _) sz_ef36_Family rfl (le_ rfl) ?_
          refine WL.op (asg (ot rfl)) (by decide) ?_
          refine WL.op (asg (ot rfl)) (by decide) ?_
          refine WL.nl (.thn ?_)
          exact WP.rt (.rN rfl (.cons (.bx 0 rfl rfl ag_ef36_Family) (.cons (.tm rfl) (.cons (.tm rfl) .nil))) (le_ rfl) (by rw [rA4 h0 h1 h2 h3]; exact imp  _))
end Go.Proofs.YtjglgfnhgehpeaaGreat

/- Sizes and places of this program's types, each asked of the kernel. -/
namespace Go.Proofs.YtjglgfnhgehpeaaGreat
open Go.Fw
theorem el_s_string : elemSz Tryz.prog 39 = some 1 := by kernel_rfl
theorem us_s_string : Tryz.prog.underlying 39 = some (.slice 9) := by kernel_rfl
end Go.Proofs.YtjglgfnhgehpeaaGreat

/- The law of families: building both, and comparing them. -/
set_option linter.unusedVariables false
set_option linter.unusedSimpArgs false
set_option maxRecDepth 4000
namespace Go.Proofs.YtjglgfnhgehpeaaGreat
open Go.RowKit Go.Fw Go.Xt Go.Sort Go.Maps
theorem pure_weak {P : Program} {f : FuncId} {args : List Rp} {R R' : Rp} (h : PureC P f args R) (k : ∀ v w M, R.h v w M → R'.h v w M) : PureC P f args R' := ⟨h.1, fun w M vs hm hvs => (h.2 w M vs hm hvs).mono fun e w' ⟨v, h1, h2, h3⟩ => ⟨v, h1, k _ _ _ h2, h3⟩⟩
def infP (i : Inf) : List Pk := [.s i.s, .i i.n, .i i.r, .i i.m, .i i.e]
def FNm (s : ByteArray) : List Rp := [val (.string s)]
abbrev nms (g : RF) : List ByteArray := g.vs.map (·.s)
theorem names_imp {L : List ByteArray} : ∀ v w M, (sl 1 FSt (L.map key)).h v w M → (sl 1 FNm L).h v w M := fun v w M h => by
  obtain ⟨A, c, h1, h2, h3⟩ := h
  rw [List.length_map] at h1 h2
  refine ⟨A, c, h1, h2, h3.imp (fun h => by simpa using h) fun ⟨b, o, g1, g2, g3, g4⟩ => ⟨b, o, g1, g2, g3, fun i x hx => ?_⟩⟩
  have := g4 i (key x) (by rw [List.getElem?_map, hx]; rfl)
  exact this
theorem names_at {g : RF} {i : Nat} (hi : i < g.vs.length) : (nms g).getD (i : Int).toNat default = (g.vs.getD (i : Int).toNat default).s := by
  rw [show ((i : Nat) : Int).toNat = i from by omega, List.getD_eq_getElem?_getD, List.getD_eq_getElem?_getD, List.getElem?_map, List.getElem?_eq_getElem hi]; rfl
section
variable {f : Fam} {g : RF}
theorem cr_Names (h : Rel f g) : PureC Tryz.prog 22 [eF f] (sl 1 FNm (nms g)) := by
  have h1 := c_family_Family_Names (f := f) (by have := h.num; have := h.ok.num; omega) (fun x hx => by
    have h2 := (h.ok.vol _ (h.vs.subset (List.mem_map_of_mem hx))).nm
    unfold nameE at h2
    simp only [Bool.and_eq_true, decide_eq_true_eq] at h2
    have : x.1.size ≤ 16 := h2.2
    omega)
  rw [rel_names h, show (g.vs.map fun v => key v.s) = (nms g).map key from by rw [List.map_map]; rfl] at h1
  exact pure_weak h1 names_imp
theorem cr_Info (h : Rel f g) {s : ByteArray} : PureC Tryz.prog 20 [eF f, val (.string s)] (tup [agg (FInf (rInfo g s).1), I (rInfo g s).2]) := by
  rw [← rel_info h s]; exact c_family_Family_Info h.fw
theorem cr_Range (h : Rel f g) {s : ByteArray} {a n : Int} : PureC Tryz.prog 26 [eF f, val (.string s), I a, I n] (tup [sl 3 FX (rRange g s a n).1, I (rRange g s a n).2]) := by
  rw [← rel_range h s a n]; exact c_family_Family_Range h.fw
def rCnt (g : RF) (s : Int) : Int := if s < 0 ∨ (g.k : Int) ≤ s then 0 else (rCounts g).getD s.toNat 0
theorem cr_Count (h : Rel f g) {s : Int} : PureC Tryz.prog 29 [eF f, I s] (I (rCnt g s)) := by
  have := c_family_Family_Count (f := f) (s := s)
  rwa [rel_count h s] at this
theorem cr_Free (h : Rel f g) : PureC Tryz.prog 30 [eF f] (sl 3 FX (rFree g)) := by
  rw [← rel_free h]; exact c_family_Family_Free h.fw
end
theorem free_len {g : RF} (h : GOk g) : (rFree g).length ≤ 65536 := by
  have h1 := mruns_len ((za (rCounts g)).map un)
  rw [List.length_map] at h1
  have h2 := asc_le (rCounts g).length fun s => decide ((rCounts g).getD s 0 = 0)
  have h3 := (counts_spec h).1
  have h4 := h.k
  unfold za at h1
  unfold rFree za
  omega
end Go.Proofs.YtjglgfnhgehpeaaGreat

/- The law of families: building both. -/
set_option linter.unusedVariables false
set_option linter.unusedSimpArgs false
set_option maxRecDepth 4000
namespace Go.Proofs.YtjglgfnhgehpeaaGreat
open Go.RowKit Go.Fw Go.Xt
end Go.Proofs.YtjglgfnhgehpeaaGreat

/- Arrays: a part of one's own; arguments. No program in sight. -/
namespace Go.Fw
open Go.RowKit Go.Proofs Go.ChangeShapes Go.WideShapes
set_option linter.unusedVariables false
set_option linter.unusedSimpArgs false
section
variable {P : Program} {bs : List Box} {lk : Nat → Option Rp} {ty T : TypeId} {x : Operand}
def arrOff (P : Program) (T : TypeId) (i : Nat) : Option Nat := match P.underlying T with
  | some (.array n e) => if i < n then (P.info? e).map (fun d => i * d.size) else none
  | _ => none
theorem ia {i : Nat} {off b o : Nat} {kd : IntKind} (ho : arrOff P T i = some off) (hx : OF lk x (val (.pointer (some ⟨b, o, none⟩)))) : OpG P bs lk (.indexAddr T x (.const (.int kd (i : Int)))) ty (val (.pointer (some ⟨b, o + off, none⟩))) := opr fun σ w M hf => by
  have h1 : ev σ x = _ := hx σ w M (hf x (by simp [Op.operands, Call.operands]))
  unfold arrOff at ho
  split at ho
  · rename_i n e hu
    split at ho
    · rename_i hlt
      cases hi : P.info? e with
      | none => rw [hi] at ho; cases ho
      | some d =>
        rw [hi] at ho
        simp only [Option.map_some, Option.some.injEq] at ho
        subst ho
        have hl : (i : Int) < n := by omega
        simp [execOp, h1, ev_const, Instr.indexAt, run_underlying hu, Instr.sureAddr, asIntOf, hl, sizeOf, typeInfo, hi, add_at]
        try (intro hq; omega)
    · cases ho
  · cases ho
variable {H : Type} {enc : TypeId × Value → H} {W : World} {t e : TypeId} {v : Value} {d : DataW H} {p : List MemPlace} {base : Nat} {ks : List (Option IntKind)}
theorem agg_vals {w : World} {M : Mask} {cs : List Value} (h : cs.all (·.oneCell') = true) : (agg (cs.map val)).h (.agg cs.toArray) w M := ⟨cs, rfl, All2.vals h⟩
theorem okWide_arr {n : Nat} (ht : P.underlying t = some (.array n e)) (h : Value.okWide P W .any base t v) : ∃ cs, v = .agg cs ∧ cs.size = P.cellsOf t := by
  unfold Value.okWide at h
  rw [ht] at h
  obtain ⟨cs, h1, h2, _⟩ := h
  exact ⟨cs, h1, h2⟩
theorem open_ar2 {k : IntKind} (hu : P.underlying t = some (.array 2 e)) (hct : P.cellsOf t = 2) (hce : P.cellsOf e = 1) (he : P.underlying e = some (.int k)) (hv : Value.okWide P W .any base t v) (h : DataW.Trod enc P W 0 (fun _ => true) true t v d p) :
    ∃ a b : Int, v = .agg [.int k a, .int k b].toArray ∧ (Lit.int k a).wf = true ∧ (Lit.int k b).wf = true := by
  obtain ⟨cs, rfl, hsz⟩ := okWide_arr hu hv
  obtain ⟨fuel, hf⟩ := h
  obtain ⟨xs, m, _, _, hl, hx, hg⟩ := DataW.trod_array hu hf
  have hc : ∃ c0 c1, cs.toList = [c0, c1] := by
    have : cs.toList.length = 2 := by rw [Array.length_toList, hsz, hct]
    match hq : cs.toList, this with
    | [c0, c1], _ => exact ⟨c0, c1, rfl⟩
  obtain ⟨c0, c1, hc⟩ := hc
  have hcs : cs = [c0, c1].toArray := by rw [← hc]
  subst hcs
  have g0 := hg 0 (by omega)
  have g1 := hg 1 (by omega)
  rw [hce, List.getElem?_eq_getElem (by omega)] at g0 g1
  simp only [Value.cells, Nat.zero_mul, Nat.one_mul, List.drop_zero, List.take_succ_cons, List.take_zero, List.drop_succ_cons] at g0 g1
  obtain ⟨a, ha, _, wa⟩ := DataW.trod_int he g0
  obtain ⟨b, hb, _, wb⟩ := DataW.trod_int he g1
  cases ha; cases hb
  exact ⟨a, b, rfl, wa, wb⟩
end
end Go.Fw

/- How the families' arguments lie in memory. -/
namespace Go.Proofs.YtjglgfnhgehpeaaGreat
open Go.ChangeShapes Go.WideShapes Go.ChangeAt Go.RowKit Go.Fw Go.Xt
def encT (t : St6) : List Value := [.int .u8 t.k, .int .u8 t.v, .int .u8 t.o, .int .u8 t.a, .int .u8 t.n, .int .u8 t.s]
abbrev ksT : List (Option IntKind) := [some .u8, some .u8, some .u8, some .u8, some .u8, some .u8]
theorem sk6 {k1 k2 k3 k4 k5 k6 : Option IntKind} : ∀ {cs : List Value}, SkAll [k1, k2, k3, k4, k5, k6] cs → ∃ c1 c2 c3 c4 c5 c6, cs = [c1, c2, c3, c4, c5, c6] ∧ skOk k1 c1 ∧ skOk k2 c2 ∧ skOk k3 c3 ∧ skOk k4 c4 ∧ skOk k5 c5 ∧ skOk k6 c6
  | [c1, c2, c3, c4, c5, c6], h => ⟨c1, c2, c3, c4, c5, c6, rfl, h.1, h.2.1, h.2.2.1, h.2.2.2.1, h.2.2.2.2.1, h.2.2.2.2.2.1⟩
theorem decT (cs : List Value) (h : SkAll ksT cs) : ∃ x : St6, x.U8 ∧ cs = encT x := by
  obtain ⟨c1, c2, c3, c4, c5, c6, e, ⟨n1, h1, w1⟩, ⟨n2, h2, w2⟩, ⟨n3, h3, w3⟩, ⟨n4, h4, w4⟩, ⟨n5, h5, w5⟩, ⟨n6, h6, w6⟩⟩ := sk6 h
  subst h1; subst h2; subst h3; subst h4; subst h5; subst h6
  exact ⟨⟨n1, n2, n3, n4, n5, n6⟩, ⟨u8_bounds w1, u8_bounds w2, u8_bounds w3, u8_bounds w4, u8_bounds w5, u8_bounds w6⟩, e⟩
end Go.Proofs.YtjglgfnhgehpeaaGreat

/- Sizes and places of this program's types, each asked of the kernel. -/
namespace Go.Proofs.YtjglgfnhgehpeaaGreat
open Go.Fw
theorem un_bool : Tryz.prog.underlying 4 = some (.bool) := by kernel_rfl
end Go.Proofs.YtjglgfnhgehpeaaGreat

/- Sizes and places of this program's types, each asked of the kernel. -/
namespace Go.Proofs.YtjglgfnhgehpeaaGreat
open Go.Fw
theorem fo_VolumeInfo_2 : fieldOff Tryz.prog 34 2 = some 2 := by kernel_rfl
end Go.Proofs.YtjglgfnhgehpeaaGreat

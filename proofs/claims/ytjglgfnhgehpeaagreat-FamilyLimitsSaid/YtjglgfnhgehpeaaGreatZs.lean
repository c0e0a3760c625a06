/- Parts: LawJ, KeyL, Nam, Lay5, R34. -/
import Derived.Test.YtjglgfnhgehpeaaGreatZr
import Derived.Test.YtjglgfnhgehpeaaGreatZo
import Derived.Shelf.SlGeneric
import Derived.Shelf.SlIter.Nil
import Derived.Shelf.SortM.Plain
import Derived.Shelf.SortM.SortNone
import Derived.Test.YtjglgfnhgehpeaaGreatProg
import Derived.Test.YtjglgfnhgehpeaaGreatZh
import Derived.Test.YtjglgfnhgehpeaaGreatZg
/- The example of the document on families. -/
set_option linter.unusedVariables false
set_option linter.unusedSimpArgs false
set_option maxRecDepth 4000
namespace Go.Proofs.YtjglgfnhgehpeaaGreat
open Go.RowKit Go.Fw Go.Xt
abbrev sa : ByteArray := ⟨#[97]⟩
abbrev sb : ByteArray := ⟨#[98]⟩
theorem srt_nil : srt [] = [] := by simp [srt]
theorem srt_one (u : Int) : srt [u] = [u] := by simp [srt]
def xa : X := ⟨0, 3, 5⟩
def T1 : Tr := (tPut .nil xa).1
theorem T1_like : Like (tPut .nil xa) (rPut [] xa) := like_put wt_nil' xa
theorem T1_wt : Wt T1 := T1_like.wt
theorem T1_list : T1.list = [⟨0, 3, 5⟩] := T1_like.list
theorem T1_old : (tPut .nil xa).2.1 = [] := T1_like.part
theorem T1_e : (tPut .nil xa).2.2 = 0 := T1_like.e
def T2 : Tr := (tCut T1 0 1).1
theorem T2_like : Like (tCut T1 0 1) (rCut T1.list 0 1) := like_cut T1_wt 0 1
theorem T2_wt : Wt T2 := T2_like.wt
theorem T2_list : T2.list = [⟨1, 2, 6⟩] := by
  have := T2_like.list
  rw [T1_list] at this
  exact this
theorem T2_old : (tCut T1 0 1).2.1 = [⟨0, 1, 5⟩] := by
  have := T2_like.part
  rw [T1_list] at this
  exact this
theorem T2_e : (tCut T1 0 1).2.2 = 0 := by
  have := T2_like.e
  rw [T1_list] at this
  exact this
def c2 : List Int := [0, 0, 0, 0, 0, 1, 1, 1, 0, 0]
def c3 : List Int := [0, 0, 0, 0, 0, 2, 2, 2, 0, 0]
def c4 : List Int := [0, 0, 0, 0, 0, 1, 2, 2, 0, 0]
def c5 : List Int := [0, 0, 0, 0, 0, 0, 1, 1, 0, 0]
def A0 : Fam := ⟨List.replicate 10 0, []⟩
def A1 : Fam := ⟨List.replicate 10 0, [(sa, ⟨4, 0, .nil⟩)]⟩
def A2 : Fam := ⟨c2, [(sa, ⟨4, 0, T1⟩)]⟩
def A3 : Fam := ⟨c3, [(sa, ⟨4, 0, T1⟩), (sb, ⟨4, 0, T1⟩)]⟩
def A4 : Fam := ⟨c4, [(sa, ⟨4, 0, T2⟩), (sb, ⟨4, 0, T1⟩)]⟩
def A5 : Fam := ⟨c5, [(sa, ⟨4, 0, T2⟩)]⟩
theorem cb_of {cs : List Int} (h : ∀ c ∈ cs, 0 ≤ c ∧ c ≤ 10000000) (s : Nat) : 0 ≤ cs.getD s 0 ∧ cs.getD s 0 ≤ 10000000 := by
  rw [List.getD_eq_getElem?_getD]
  cases hq : cs[s]? with
  | none => simp
  | some c => exact h c (List.mem_of_getElem? hq)
theorem fw_of {cs : List Int} {vs : List (ByteArray × Vol)} (h1 : cs.length = 10) (h2 : ∀ c ∈ cs, 0 ≤ c ∧ c ≤ 10000000) (h3 : ∀ x ∈ vs, x.2.n = 4 ∧ (x.2.t = .nil ∨ x.2.t = T1 ∨ x.2.t = T2)) (h4 : vs.length ≤ 1000) : Fw0 ⟨cs, vs⟩ := ⟨by show cs.length ≤ _; omega, cb_of h2, fun x hx => by
  obtain ⟨k1, k2⟩ := h3 x hx
  rw [k1]
  show _ ∧ _ ∧ _ ∧ permB cs.length _ = true
  rw [h1]
  rcases k2 with k2 | k2 | k2 <;> rw [k2]
  · exact ⟨wt_nil', by decide, by decide, rfl⟩
  · exact ⟨T1_wt, by decide, by decide, by rw [T1_list]; rfl⟩
  · exact ⟨T2_wt, by decide, by decide, by rw [T2_list]; rfl⟩, h4⟩
theorem fw1 : Fw0 A1 := fw_of rfl (by decide) (by intro x hx; rcases List.mem_cons.1 hx with rfl | hx; exact ⟨rfl, .inl rfl⟩; cases hx) (by decide)
theorem fw2 : Fw0 A2 := fw_of rfl (by decide) (by intro x hx; rcases List.mem_cons.1 hx with rfl | hx; exact ⟨rfl, .inr (.inl rfl)⟩; cases hx) (by decide)
theorem fw3 : Fw0 A3 := fw_of rfl (by decide) (by intro x hx; rcases List.mem_cons.1 hx with rfl | hx; exact ⟨rfl, .inr (.inl rfl)⟩; rcases List.mem_cons.1 hx with rfl | hx; exact ⟨rfl, .inr (.inl rfl)⟩; cases hx) (by decide)
theorem fw4 : Fw0 A4 := fw_of rfl (by decide) (by intro x hx; rcases List.mem_cons.1 hx with rfl | hx; exact ⟨rfl, .inr (.inr rfl)⟩; rcases List.mem_cons.1 hx with rfl | hx; exact ⟨rfl, .inr (.inl rfl)⟩; cases hx) (by decide)
theorem drop_no {cs out : List Int} {xs : List X} {U : List Int} (h1 : permB cs.length xs = true) (h2 : chg (-1) cs xs = out) (h3 : (out.any fun k => decide (k < 0)) = false) (h4 : frd out xs = U) (h5 : srt U = U) : dropE cs xs = (out, mruns (U.map un), 0) := by
  unfold dropE
  rw [if_pos h1, h2, if_neg (by rw [h3]; exact Bool.false_ne_true), h4, h5]
theorem e_create : fCreate A0 sa 4 0 = (A1, 0) := (if_neg (by decide)).trans (if_pos (by decide))
theorem e_find1 (a n : Int) : fFind A1 sa a n = if has ⟨4, 0, .nil⟩ a n then (⟨4, 0, .nil⟩, 0) else (default, 2) := rfl
theorem e_assign : fAssign A1 sa xa = (A2, [], 0) := by
  have h1 : fFind A1 sa xa.a xa.n = (⟨4, 0, .nil⟩, 0) := rfl
  unfold fAssign
  rw [h1, if_pos rfl, if_pos (by decide), if_pos T1_e]
  unfold fAsg
  rw [T1_old, show dropE (addE A1.cs [xa]).1 [] = (c2, [], 0) from drop_no (U := []) (by decide) (by decide) (by decide) (by decide) srt_nil]
  rfl
theorem e_clone : fClone A2 sa sb = (A3, 0) := by
  have h1 : lookK sa A2.vs = some ⟨4, 0, T1⟩ := rfl
  unfold fClone
  rw [h1]
  show (if nameE sb = false then _ else if vac A2 sb = 0 then if (addE A2.cs T1.list).2 = 0 then ((⟨(addE A2.cs T1.list).1, _⟩ : Fam), (0 : Int)) else _ else _) = _
  rw [if_neg (by decide), if_pos (show vac A2 sb = 0 from rfl), T1_list, if_pos (by decide)]
  rfl
theorem e_unmap : fUnmap A3 sa 0 1 = (A4, [], 0) := by
  have h1 : fFind A3 sa 0 1 = (⟨4, 0, T1⟩, 0) := rfl
  unfold fUnmap
  rw [h1, if_pos rfl, if_pos T2_e]
  unfold fUnm
  rw [T2_old, show dropE A3.cs [⟨0, 1, 5⟩] = (c4, [], 0) from drop_no (U := []) (by decide) (by decide) (by decide) (by decide) srt_nil]
  rfl
theorem e_info_a : fInfo A4 sa = (⟨sa, 4, 0, 2, 0⟩, 0) := by
  have h1 : fFind A4 sa 0 0 = (⟨4, 0, T2⟩, 0) := rfl
  unfold fInfo
  rw [h1, if_pos rfl, blocks_eq, T2_list]
  rfl
theorem e_info_b : fInfo A4 sb = (⟨sb, 4, 0, 3, 1⟩, 0) := by
  have h1 : fFind A4 sb 0 0 = (⟨4, 0, T1⟩, 0) := rfl
  unfold fInfo
  rw [h1, if_pos rfl, blocks_eq, T1_list]
  rfl
theorem e_delete : fDelete A4 sb = (A5, [⟨0, 1, 5⟩], 0) := by
  have h1 : lookK sb A4.vs = some ⟨4, 0, T1⟩ := rfl
  unfold fDelete
  rw [h1]
  show (if (dropE c4 T1.list).2.2 = 0 then ((⟨(dropE c4 T1.list).1, _⟩ : Fam), (dropE c4 T1.list).2.1, (0 : Int)) else _) = _
  rw [T1_list, show dropE c4 [⟨0, 3, 5⟩] = (c5, [⟨0, 1, 5⟩], 0) from drop_no (U := [5]) (by decide) (by decide) (by decide) (by decide) (srt_one 5)]
  rfl
theorem aw_new : PureC Tryz.prog 18 [I 10] (tup [eF A0, I 0]) := c_family_New (k := 10) (by decide)
theorem aw_create : PureC Tryz.prog 19 [eF A0, val (.string sa), I 4, I 0] (tup [eF A1, I 0]) := by
  have := c_family_Family_Create (f := A0) (s := sa) (n := 4) (r := 0) (by decide)
  rwa [e_create] at this
theorem aw_assign : PureC Tryz.prog 60 [eF A1, val (.string sa), ext xa] (tup [eF A2, sl 3 FX ([] : List X), I 0]) := by
  have := c_family_Family_Assign (s := sa) (x := xa) fw1
  rwa [e_assign] at this
theorem aw_clone : PureC Tryz.prog 21 [eF A2, val (.string sa), val (.string sb)] (tup [eF A3, I 0]) := by
  have := c_family_Family_Clone (s := sa) (o := sb) (by decide) fw2
  rwa [e_clone] at this
theorem aw_unmap : PureC Tryz.prog 61 [eF A3, val (.string sa), I 0, I 1] (tup [eF A4, sl 3 FX ([] : List X), I 0]) := by
  have := c_family_Family_Unmap (s := sa) (a := 0) (n := 1) fw3
  rwa [e_unmap] at this
theorem aw_info_a : PureC Tryz.prog 20 [eF A4, val (.string sa)] (tup [agg (FInf ⟨sa, 4, 0, 2, 0⟩), I 0]) := by
  have := c_family_Family_Info (s := sa) fw4
  rwa [e_info_a] at this
theorem aw_info_b : PureC Tryz.prog 20 [eF A4, val (.string sb)] (tup [agg (FInf ⟨sb, 4, 0, 3, 1⟩), I 0]) := by
  have := c_family_Family_Info (s := sb) fw4
  rwa [e_info_b] at this
theorem aw_delete : PureC Tryz.prog 32 [eF A4, val (.string sb)] (tup [eF A5, sl 3 FX [(⟨0, 1, 5⟩ : X)], I 0]) := by
  have := c_family_Family_Delete (s := sb) fw4
  rwa [e_delete] at this
theorem aw_count : PureC Tryz.prog 29 [eF A3, I 5] (I 2) := c_family_Family_Count (f := A3) (s := 5)
theorem aw_same : PureC Tryz.prog 27 [sl 3 FX [(⟨0, 1, 5⟩ : X)], sl 3 FX [(⟨0, 1, 5⟩ : X)]] (val (.bool true)) := c_r32_Same _ _ (by decide) (by decide)

theorem c_w36_awake : PureC Tryz.prog 17 [] (val (.bool true)) := by
  refine PureC.of_wp Tryz.func17 (by kernel_rfl) rfl Tryz.ntmps17 (le_ rfl) (fun w0 M0 => ?_)
  refine WP.seq ?_
  refine WP.region ?_
  refine WL.op (asg (oc _)) (by decide) ?_
  refine WL.nl (.thn ?_)
  refine WP.seq ?_
  refine WP.region ?_
  refine WL.op (call aw_new (.c (oc _) .n)) (by decide) ?_
  refine WL.op (mv (ot rfl)) (by decide) ?_
  refine WL.op (ex (ot rfl) rfl) (by decide) ?_
  refine WL.op (ex (ot rfl) rfl) (by decide) ?_
  refine WL.alloc zr_family_Family rfl (by decide) fun b1 => ?_
  refine WL.store 0 rfl (ot rfl) (ot rfl) (.agg _) sz_family_Family rfl (le_ rfl) ?_
  refine WL.op (asg (ot rfl)) (by decide) ?_
  refine WL.nl (.thn ?_)
  refine WP.seq ?_
  refine WP.region ?_
  refine WL.op (lbs 0 rfl ag_family_Family (ot rfl) (le_ rfl)) (by decide) ?_
  refine WL.op (call aw_create (.c (ot rfl) (.c (oc _) (.c (oc _) (.c (oc _) .n))))) (by decide) ?_
  refine WL.op (mv (ot rfl)) (by decide) ?_
  refine WL.op (ex (ot rfl) rfl) (by decide) ?_
  refine WL.op (ex (ot rfl) rfl) (by decide) ?_
  refine WL.store 0 rfl (ot rfl) (ot rfl) (.agg _) sz_family_Family rfl (le_ rfl) ?_
  refine WL.op (asg (ot rfl)) (by decide) ?_
  refine WL.nl (.thn ?_)
  refine WP.seq ?_
  refine WP.region ?_
  refine WL.op (lbs 0 rfl ag_family_Family (ot rfl) (le_ rfl)) (by decide) ?_
  refine WL.op (bld zr_Extent rfl ps_Extent (.c (oc _) (.leaf (.val rfl)) pl_Extent_1 rfl (le_ rfl) (.c (oc _) (.leaf (.val rfl)) pl_Extent_2 rfl (le_ rfl) .n))) (by decide) ?_
  refine WL.op (call aw_assign (.c (ot rfl) (.c (oc _) (.c (ot rfl) .n)))) (by decide) ?_
  refine WL.op (mv (ot rfl)) (by decide) ?_
  refine WL.op (ex (ot rfl) rfl) (by decide) ?_
  refine WL.op (ex (ot rfl) rfl) (by decide) ?_
  refine WL.op (ex (ot rfl) rfl) (by decide) ?_
  refine WL.store 0 rfl (ot rfl) (ot rfl) (.agg _) sz_family_Family rfl (le_ rfl) ?_
  refine WL.op (asg (ot rfl)) (by decide) ?_
  refine WL.op (asg (ot rfl)) (by decide) ?_
  refine WL.nl (.thn ?_)
  refine WP.seq ?_
  refine WP.region ?_
  refine WL.op (lbs 0 rfl ag_family_Family (ot rfl) (le_ rfl)) (by decide) ?_
  refine WL.op (call aw_clone (.c (ot rfl) (.c (oc _) (.c (oc _) .n)))) (by decide) ?_
  refine WL.op (mv (ot rfl)) (by decide) ?_
  refine WL.op (ex (ot rfl) rfl) (by decide) ?_
  refine WL.op (ex (ot rfl) rfl) (by decide) ?_
  refine WL.store 0 rfl (ot rfl) (ot rfl) (.agg _) sz_family_Family rfl (le_ rfl) ?_
  refine WL.op (asg (ot rfl)) (by decide) ?_
  refine WL.nl (.thn ?_)
  refine WP.seq ?_
  refine WP.region ?_
  refine WL.op (lbs 0 rfl ag_family_Family (ot rfl) (le_ rfl)) (by decide) ?_
  refine WL.op (call aw_unmap (.c (ot rfl) (.c (oc _) (.c (oc _) (.c (oc _) .n))))) (by decide) ?_
  refine WL.op (mv (ot rfl)) (by decide) ?_
  refine WL.op (ex (ot rfl) rfl) (by decide) ?_
  refine WL.op (ex (ot rfl) rfl) (by decide) ?_
  refine WL.op (ex (ot rfl) rfl) (by decide) ?_
  refine WL.alloc zr_family_Family rfl (by decide) fun b7 => ?_
  refine WL.store 0 rfl (ot rfl) (ot rfl) (.agg _) sz_family_Family rfl (le_ rfl) ?_
  refine WL.op (asg (ot rfl)) (by decide) ?_
  refine WL.op (asg (ot rfl)) (by decide) ?_
  refine WL.nl (.thn ?_)
  refine WP.seq ?_
  refine WP.region ?_
  refine WL.op (lbs 0 rfl ag_family_Family (ot rfl) (le_ rfl)) (by decide) ?_
  refine WL.op (call aw_info_a (.c (ot rfl) (.c (oc _) .n))) (by decide) ?_
  refine WL.op (mv (ot rfl)) (by decide) ?_
  refine WL.op (ex (ot rfl) rfl) (by decide) ?_
  refine WL.op (ex (ot rfl) rfl) (by decide) ?_
  refine WL.alloc zr_VolumeInfo rfl (by decide) fun b10 => ?_
  refine WL.store 0 rfl (ot rfl) (ot rfl) (.agg _) sz_VolumeInfo rfl (le_ rfl) ?_
  refine WL.op (asg (ot rfl)) (by decide) ?_
  refine WL.nl (.thn ?_)
  refine WP.seq ?_
  refine WP.region ?_
  refine WL.op (lbs 1 rfl ag_family_Family (ot rfl) (le_ rfl)) (by decide) ?_
  refine WL.op (call aw_info_b (.c (ot rfl) (.c (oc _) .n))) (by decide) ?_
  refine WL.op (mv (ot rfl)) (by decide) ?_
  refine WL.op (ex (ot rfl) rfl) (by decide) ?_
  refine WL.op (ex (ot rfl) rfl) (by decide) ?_
  refine WL.alloc zr_VolumeInfo rfl (by decide) fun b12 => ?_
  refine WL.store 0 rfl (ot rfl) (ot rfl) (.agg _) sz_VolumeInfo rfl (le_ rfl) ?_
  refine WL.op (asg (ot rfl)) (by decide) ?_
  refine WL.nl (.thn ?_)
  refine WP.seq ?_
  refine WP.region ?_
  refine WL.op (lbs 2 rfl ag_family_Family (ot rfl) (le_ rfl)) (by decide) ?_
  refine WL.op (call aw_delete (.c (ot rfl) (.c (oc _) .n))) (by decide) ?_
  refine WL.op (mv (ot rfl)) (by decide) ?_
  refine WL.op (ex (ot rfl) rfl) (by decide) ?_
  refine WL.op (ex (ot rfl) rfl) (by decide) ?_
  refine WL.op (ex (ot rfl) rfl) (by decide) ?_
  refine WL.alloc zr_family_Family rfl (by decide) fun b14 => ?_
  refine WL.store 0 rfl (ot rfl) (ot rfl) (.agg _) sz_family_Family rfl (le_ rfl) ?_
  refine WL.op (asg (ot rfl)) (by decide) ?_
  refine WL.op (asg (ot rfl)) (by decide) ?_
  refine WL.nl (.thn ?_)
  refine WP.seq ?_
  refine WP.region ?_
  refine WL.op (mv (ot rfl)) (by decide) ?_
  refine WL.op (eql (ot rfl) (oc _)) (by decide) ?_
  refine WL.op (mv (ot rfl)) (by decide) ?_
  refine WL.gT rfl rfl ?_ -- g2
  refine WL.op (mv (ot rfl)) (by decide) ?_
  refine WL.gT rfl rfl ?_ -- g2
  refine WL.op (eql (ot rfl) (oc _)) (by decide) ?_
  refine WL.op (pickT (ot rfl) (ot rfl)) (by decide) ?_
  refine WL.op (mv (ot rfl)) (by decide) ?_
  refine WL.gT rfl rfl ?_ -- g6
  refine WL.op (mv (ot rfl)) (by decide) ?_
  refine WL.gT rfl rfl ?_ -- g6
  refine WL.op (eql (ot rfl) (oc _)) (by decide) ?_
  refine WL.op (pickT (ot rfl) (ot rfl)) (by decide) ?_
  refine WL.op (mv (ot rfl)) (by decide) ?_
  refine WL.gT rfl rfl ?_ -- g10
  refine WL.op (mv (ot rfl)) (by decide) ?_
  refine WL.gT rfl rfl ?_ -- g10
  refine WL.op (eql (ot rfl) (oc _)) (by decide) ?_
  refine WL.op (pickT (ot rfl) (ot rfl)) (by decide) ?_
  refine WL.op (mv (ot rfl)) (by decide) ?_
  refine WL.gT rfl rfl ?_ -- g14
  refine WL.op (mv (ot rfl)) (by decide) ?_
  refine WL.gT rfl rfl ?_ -- g14
  refine WL.op (eql (ot rfl) (oc _)) (by decide) ?_
  refine WL.op (pickT (ot rfl) (ot rfl)) (by decide) ?_
  refine WL.op (mv (ot rfl)) (by decide) ?_
  refine WL.gT rfl rfl ?_ -- g18
  refine WL.op (mv (ot rfl)) (by decide) ?_
  refine WL.gT rfl rfl ?_ -- g18
  refine WL.op (eql (ot rfl) (oc _)) (by decide) ?_
  refine WL.op (pickT (ot rfl) (ot rfl)) (by decide) ?_
  refine WL.op (mv (ot rfl)) (by decide) ?_
  refine WL.gT rfl rfl ?_ -- g22
  refine WL.op (mv (ot rfl)) (by decide) ?_
  refine WL.gT rfl rfl ?_ -- g22
  refine WL.op (eql (ot rfl) (oc _)) (by decide) ?_
  refine WL.op (pickT (ot rfl) (ot rfl)) (by decide) ?_
  refine WL.op (mv (ot rfl)) (by decide) ?_
  refine WL.gT rfl rfl ?_ -- g26
  refine WL.op (mv (ot rfl)) (by decide) ?_
  refine WL.gT rfl rfl ?_ -- g26
  refine WL.op (eql (ot rfl) (oc _)) (by decide) ?_
  refine WL.op (pickT (ot rfl) (ot rfl)) (by decide) ?_
  refine WL.op (mv (ot rfl)) (by decide) ?_
  refine WL.gT rfl rfl ?_ -- g30
  refine WL.op (lbs 4 rfl ag_family_Family (ot rfl) (le_ rfl)) (by decide) ?_
  refine WL.gT rfl rfl ?_ -- g30
  refine WL.op (call aw_count (.c (ot rfl) (.c (oc _) .n))) (by decide) ?_
  refine WL.gT rfl rfl ?_ -- g30
  refine WL.op (eql (ot rfl) (oc _)) (by decide) ?_
  refine WL.op (pickT (ot rfl) (ot rfl)) (by decide) ?_
  refine WL.op (mv (ot rfl)) (by decide) ?_
  refine WL.gT rfl rfl ?_ -- g35
  refine WL.op (mv (ot rfl)) (by decide) ?_
  refine WL.gT rfl rfl ?_ -- g35
  refine WL.op (len_ us_s_api_Extent (ot rfl)) (by decide) ?_
  refine WL.gT rfl rfl ?_ -- g35
  refine WL.op (eql (ot rfl) (oc _)) (by decide) ?_
  refine WL.op (pickT (ot rfl) (ot rfl)) (by decide) ?_
  refine WL.op (mv (ot rfl)) (by decide) ?_
  refine WL.gT rfl rfl ?_ -- g40
  refine WL.op (fv fo_VolumeInfo_4 (ot rfl)) (by decide) ?_
  refine WL.gT rfl rfl ?_ -- g40
  refine WL.op (lb 2 rfl sc_int (ot rfl) rfl) (by decide) ?_
  refine WL.gT rfl rfl ?_ -- g40
  refine WL.op (eql (ot rfl) (oc _)) (by decide) ?_
  refine WL.op (pickT (ot rfl) (ot rfl)) (by decide) ?_
  refine WL.op (mv (ot rfl)) (by decide) ?_
  refine WL.gT rfl rfl ?_ -- g45
  refine WL.op (fv fo_VolumeInfo_4 (ot rfl)) (by decide) ?_
  refine WL.gT rfl rfl ?_ -- g45
  refine WL.op (lb 1 rfl sc_int (ot rfl) rfl) (by decide) ?_
  refine WL.gT rfl rfl ?_ -- g45
  refine WL.op (eql (ot rfl) (oc _)) (by decide) ?_
  refine WL.op (pickT (ot rfl) (ot rfl)) (by decide) ?_
  refine WL.op (mv (ot rfl)) (by decide) ?_
  refine WL.gT rfl rfl ?_ -- g50
  refine WL.op (mv (ot rfl)) (by decide) ?_
  refine WL.gT rfl rfl ?_ -- g50
  refine WL.op (bld zr_Extent rfl ps_Extent (.c (oc _) (.leaf (.val rfl)) pl_Extent_1 rfl (le_ rfl) (.c (oc _) (.leaf (.val rfl)) pl_Extent_2 rfl (le_ rfl) .n))) (by decide) ?_
  refine WL.gT rfl rfl ?_ -- g50
  refine WL.op (bsl1 (f := FX) (el := (⟨0, 1, 5⟩ : X)) ei_s_api_Extent (ot rfl) (.agg _) rfl (by decide) (by decide)) (by decide) ?_
  refine WL.gT rfl rfl ?_ -- g50
  refine WL.op (call aw_same (.c (ot rfl) (.c (ot rfl) .n))) (by decide) ?_
  refine WL.op (pickT (ot rfl) (ot rfl)) (by decide) ?_
  refine WL.op (asg (ot rfl)) (by decide) ?_
  refine WL.nl (.thn ?_)
  exact WP.rt (.r1 rfl rfl (imp _))
end Go.Proofs.YtjglgfnhgehpeaaGreat

/- The contracts of maps.Keys, slices.Sorted and slices.Sort lie at this program. -/
namespace Go.Proofs
open Go.Shelf
def Tryz.keysX_ren : Go.Shelf.Ren := ⟨fun | 7 => 72 | 10 => 110 | n => n, fun | 23 => 26 | 26 => 9 | 3 => 114 | 28 => 122 | 0 => 0 | 27 => 121 | 33 => 105 | 4 => 4 | n => n, fun | n => n⟩
theorem Tryz.keysX : Go.Proofs.SlLaysZ.n7 Tryz.prog Tryz.keysX_ren := {
  mixed := by kernel_rfl
  f7 := ⟨Tryz.f72.name, by decide, Tryz.func72.trans (congrArg some (by kernel_rfl))⟩
  f10 := ⟨Tryz.f110.name, by decide, Tryz.func110.trans (congrArg some (by kernel_rfl))⟩
  t0 := Tryz.underlying0
  a0 := Tryz.isAgg0
  z0 := Tryz.sizeOf0
  v0 := Tryz.zeroValue0
  t4 := Tryz.underlying4
  a4 := Tryz.isAgg4
  z4 := Tryz.sizeOf4
  v4 := Tryz.zeroValue4
  t23 := Tryz.underlying26
  a23 := Tryz.isAgg26
  z23 := Tryz.sizeOf26
  v23 := Tryz.zeroValue26
  t26 := Tryz.underlying9
  a26 := Tryz.isAgg9
  z26 := Tryz.sizeOf9
  v26 := Tryz.zeroValue9
  t27 := Tryz.underlying121
  a27 := Tryz.isAgg121
  z27 := Tryz.sizeOf121
  v27 := Tryz.zeroValue121
  t28 := Tryz.underlying122
  a28 := Tryz.isAgg122
  z28 := Tryz.sizeOf122
  v28 := Tryz.zeroValue122
  t33 := Tryz.underlying105
  a33 := Tryz.isAgg105
  z33 := Tryz.sizeOf105
  v33 := Tryz.zeroValue105 }
def Tryz.sortedX_ren : Go.Shelf.Ren := ⟨fun | 6 => 71 | 8 => 108 | 9 => 109 | 11 => 139 | 13 => 141 | 12 => 140 | 23 => 170 | 24 => 171 | 14 => 161 | 15 => 162 | 16 => 163 | 17 => 164 | 18 => 165 | 19 => 166 | 20 => 167 | 21 => 168 | 22 => 169 | 25 => 177 | 26 => 178 | 27 => 179 | 28 => 180 | 29 => 181 | 30 => 182 | 31 => 191 | n => n, fun | 26 => 9 | 28 => 122 | 24 => 39 | 0 => 0 | 3 => 3 | 37 => 187 | 48 => 207 | 50 => 209 | 4 => 4 | 40 => 200 | 39 => 199 | 45 => 133 | 5 => 5 | 9 => 9 | 51 => 212 | 55 => 216 | 57 => 223 | 58 => 224 | 33 => 105 | n => n, fun | n => n⟩
theorem Tryz.sortedX : Go.Proofs.SlLaysZ.n6 Tryz.prog Tryz.sortedX_ren := {
  mixed := by kernel_rfl
  f6 := ⟨Tryz.f71.name, by decide, Tryz.func71.trans (congrArg some (by kernel_rfl))⟩
  f8 := ⟨Tryz.f108.name, by decide, Tryz.func108.trans (congrArg some (by kernel_rfl))⟩
  f11 := ⟨Tryz.f139.name, by decide, Tryz.func139.trans (congrArg some (by kernel_rfl))⟩
  t0 := Tryz.underlying0
  a0 := Tryz.isAgg0
  z0 := Tryz.sizeOf0
  v0 := Tryz.zeroValue0
  t24 := Tryz.underlying39
  a24 := Tryz.isAgg39
  z24 := Tryz.sizeOf39
  v24 := Tryz.zeroValue39
  t26 := Tryz.underlying9
  a26 := Tryz.isAgg9
  z26 := Tryz.sizeOf9
  v26 := Tryz.zeroValue9
  t28 := Tryz.underlying122
  a28 := Tryz.isAgg122
  z28 := Tryz.sizeOf122
  v28 := Tryz.zeroValue122
  i26 := by kernel_rfl }
def Tryz.sortX2_ren : Go.Shelf.Ren := ⟨fun | 6 => 109 | 8 => 141 | 9 => 140 | 19 => 170 | 20 => 171 | 21 => 161 | 22 => 162 | 23 => 163 | 24 => 164 | 25 => 165 | 26 => 166 | 27 => 167 | 28 => 168 | 29 => 169 | 36 => 177 | 31 => 178 | 32 => 179 | 37 => 180 | 38 => 181 | 39 => 182 | 41 => 191 | n => n, fun | 27 => 39 | 29 => 9 | 3 => 3 | 32 => 187 | 26 => 39 | 0 => 0 | 44 => 207 | 46 => 209 | 4 => 4 | 36 => 200 | 35 => 199 | 41 => 133 | 5 => 5 | 9 => 9 | 53 => 212 | 57 => 216 | 63 => 223 | 64 => 224 | n => n, fun | n => n⟩
theorem Tryz.sortX2 : Go.Proofs.SlLaysM.n6 Tryz.prog Tryz.sortX2_ren := {
  mixed := by kernel_rfl
  f6 := ⟨Tryz.f109.name, by decide, Tryz.func109.trans (congrArg some (by kernel_rfl))⟩
  f8 := Tryz.func141.trans (congrArg some (by kernel_rfl))
  f9 := ⟨Tryz.f140.name, by decide, Tryz.func140.trans (congrArg some (by kernel_rfl))⟩
  f19 := Tryz.func170.trans (congrArg some (by kernel_rfl))
  f20 := Tryz.func171.trans (congrArg some (by kernel_rfl))
  f21 := ⟨Tryz.f161.name, by decide, Tryz.func161.trans (congrArg some (by kernel_rfl))⟩
  f22 := ⟨Tryz.f162.name, by decide, Tryz.func162.trans (congrArg some (by kernel_rfl))⟩
  f23 := ⟨Tryz.f163.name, by decide, Tryz.func163.trans (congrArg some (by kernel_rfl))⟩
  f24 := ⟨Tryz.f164.name, by decide, Tryz.func164.trans (congrArg some (by kernel_rfl))⟩
  f25 := ⟨Tryz.f165.name, by decide, Tryz.func165.trans (congrArg some (by kernel_rfl))⟩
  f26 := ⟨Tryz.f166.name, by decide, Tryz.func166.trans (congrArg some (by kernel_rfl))⟩
  f27 := ⟨Tryz.f167.name, by decide, Tryz.func167.trans (congrArg some (by kernel_rfl))⟩
  f28 := ⟨Tryz.f168.name, by decide, Tryz.func168.trans (congrArg some (by kernel_rfl))⟩
  f29 := ⟨Tryz.f169.name, by decide, Tryz.func169.trans (congrArg some (by kernel_rfl))⟩
  f31 := Tryz.func178.trans (congrArg some (by kernel_rfl))
  f32 := Tryz.func179.trans (congrArg some (by kernel_rfl))
  f36 := ⟨Tryz.f177.name, by decide, Tryz.func177.trans (congrArg some (by kernel_rfl))⟩
  f37 := ⟨Tryz.f180.name, by decide, Tryz.func180.trans (congrArg some (by kernel_rfl))⟩
  f38 := ⟨Tryz.f181.name, by decide, Tryz.func181.trans (congrArg some (by kernel_rfl))⟩
  f39 := ⟨Tryz.f182.name, by decide, Tryz.func182.trans (congrArg some (by kernel_rfl))⟩
  f41 := ⟨Tryz.f191.name, by decide, Tryz.func191.trans (congrArg some (by kernel_rfl))⟩
  t0 := Tryz.underlying0
  a0 := Tryz.isAgg0
  z0 := Tryz.sizeOf0
  v0 := Tryz.zeroValue0
  t3 := Tryz.underlying3
  a3 := Tryz.isAgg3
  z3 := Tryz.sizeOf3
  v3 := Tryz.zeroValue3
  t4 := Tryz.underlying4
  a4 := Tryz.isAgg4
  z4 := Tryz.sizeOf4
  v4 := Tryz.zeroValue4
  t5 := Tryz.underlying5
  a5 := Tryz.isAgg5
  z5 := Tryz.sizeOf5
  v5 := Tryz.zeroValue5
  t9 := Tryz.underlying9
  a9 := Tryz.isAgg9
  z9 := Tryz.sizeOf9
  v9 := Tryz.zeroValue9
  t26 := Tryz.underlying39
  a26 := Tryz.isAgg39
  z26 := Tryz.sizeOf39
  v26 := Tryz.zeroValue39
  t27 := Tryz.underlying39
  a27 := Tryz.isAgg39
  z27 := Tryz.sizeOf39
  v27 := Tryz.zeroValue39
  t29 := Tryz.underlying9
  a29 := Tryz.isAgg9
  z29 := Tryz.sizeOf9
  v29 := Tryz.zeroValue9
  t32 := Tryz.underlying187
  a32 := Tryz.isAgg187
  z32 := Tryz.sizeOf187
  v32 := Tryz.zeroValue187
  t35 := Tryz.underlying199
  a35 := Tryz.isAgg199
  z35 := Tryz.sizeOf199
  v35 := Tryz.zeroValue199
  t36 := Tryz.underlying200
  a36 := Tryz.isAgg200
  z36 := Tryz.sizeOf200
  v36 := Tryz.zeroValue200
  t41 := Tryz.underlying133
  a41 := Tryz.isAgg133
  z41 := Tryz.sizeOf133
  v41 := Tryz.zeroValue133
  t44 := Tryz.underlying207
  a44 := Tryz.isAgg207
  z44 := Tryz.sizeOf207
  v44 := Tryz.zeroValue207
  t46 := Tryz.underlying209
  a46 := Tryz.isAgg209
  z46 := Tryz.sizeOf209
  v46 := Tryz.zeroValue209
  t53 := Tryz.underlying212
  a53 := Tryz.isAgg212
  z53 := Tryz.sizeOf212
  v53 := Tryz.zeroValue212
  t57 := Tryz.underlying216
  a57 := Tryz.isAgg216
  z57 := Tryz.sizeOf216
  v57 := Tryz.zeroValue216
  t63 := Tryz.underlying223
  a63 := Tryz.isAgg223
  z63 := Tryz.sizeOf223
  v63 := Tryz.zeroValue223
  t64 := Tryz.underlying224
  a64 := Tryz.isAgg224
  z64 := Tryz.sizeOf224
  v64 := Tryz.zeroValue224 }
end Go.Proofs

/- The names of a family: maps.Keys, slices.Sorted. -/
set_option linter.unusedVariables false
set_option linter.unusedSimpArgs false
set_option maxRecDepth 4000
namespace Go.Proofs.YtjglgfnhgehpeaaGreat
open Go.RowKit Go.Fw Go.Xt Go.Sort Go.Maps
/-- the keys, ascending -/
def keysB (l : List (ByteArray × Vol)) : List (List UInt8) := l.map fun x => x.1.data.toList
def sortK (l : List (ByteArray × Vol)) : List (List UInt8) := (keysB l).mergeSort leB
def FSt (b : List UInt8) : List Rp := [val (encStr b)]
/-- what maps.Keys hands back -/
def keyR (l : List (ByteArray × Vol)) : Rp :=
  ⟨fun v w M => ∃ b c, v = .func (.func 110) #[] #[.pointer (some ⟨b, 0, none⟩)] ∧ b < w.heap.size ∧ ¬ M b ∧ w.cell? ⟨b, 0, none⟩ = some c ∧ (mp FV l).h c w M,
   fun ⟨b, c, h1, h2, h3, h4, h5⟩ k => ⟨b, c, h1, Nat.lt_of_lt_of_le h2 k.size, fun hm => (k.mask b hm).elim h3 (fun h => by omega), (World.cell?_of_block (w := _) (a := ⟨b, 0, none⟩) (k.block b h2 h3)).trans h4, (mp FV l).keep h5 k⟩⟩
theorem e_keys1 : Enters Tryz.prog 110 := enters_of Tryz.func110 (by kernel_rfl) rfl
theorem c_maps_Keys {l : List (ByteArray × Vol)} : PureC Tryz.prog 72 [mp FV l] (keyR l) := ⟨enters_of Tryz.func72 (by kernel_rfl) rfl, fun w M vs hm hvs => by
  match vs, hvs with
  | [v], ⟨h1, _⟩ =>
    have hv : ∃ mb, v = .map mb := by
      rcases h1 with ⟨h, _⟩ | ⟨b, h, _⟩
      · exact ⟨_, h⟩
      · exact ⟨_, h⟩
    obtain ⟨mb, rfl⟩ := hv
    have hc := (callsIn_wide (n := 5)).1 (AnyZ.keys_in Tryz.keysX Fence.wide 5 trivial rfl mb w)
    refine Calls.mono hc ?_
    rintro e w' ⟨rfl, rfl⟩
    have hb : Below w.heap.size w (w.alloc (.cells #[.map mb] 26)) := (Below.refl _ w).alloc (Nat.le_refl _) _
    refine ⟨_, rfl, ?_, hb⟩
    exact ⟨w.heap.size, .map mb, rfl, by simp, fun h => by have := hm _ h; omega, by simp, Rp.keep _ h1 (Kp.of_below _ hb)⟩⟩
theorem sortsX (m : Nat) : AnyZ.SortsIn Tryz.prog Tryz.sortedX_ren Fence.wide m :=
  ⟨fun blk off cap ss W hH hblk hsz => callsIn_wide.2 (AnyM.slices_Sort_string Tryz.sortX2 blk off cap ss W hH hblk hsz),
   fun p cap W => callsIn_wide.2 (AnyM.slices_Sort_string_none Tryz.sortX2 p cap W)⟩
theorem sl_own {w : World} {M : Mask} {v : Value} {ss : List (List UInt8)} {n0 : Nat} {T : TypeId} (h : w.ownsRow n0 T 1 v ss.length (ss.map encStr)) (hm : ∀ b, M b → b < n0) : (sl 1 FSt ss).h v w M := by
  rcases h.2 with ⟨rfl, h0⟩ | ⟨g, cap, cur, rfl, d0, d1, d2, d3, d4, d5⟩
  · have : ss = [] := List.eq_nil_of_length_eq_zero h0
    subst this
    exact ⟨none, 0, rfl, Nat.le_refl _, .inl rfl⟩
  · refine ⟨_, cap, rfl, d2, .inr ⟨g, 0, rfl, (Array.getElem?_eq_some_iff.1 d1).1, fun hg => by have := hm g hg; omega, fun i x hx => ⟨⟨encStr x, ?_, rfl, rfl⟩, trivial⟩⟩⟩
    have hi := (List.getElem?_eq_some_iff.1 hx).1
    rw [Nat.zero_add, Nat.mul_one, cell_of_row w g i cur T (0, 0) d1]
    have h5 : (cur.toList.take (ss.length * 1))[i]? = (ss.map encStr)[i]? := by rw [d5]
    rw [List.getElem?_take, if_pos (by omega), List.getElem?_map, hx] at h5
    rw [← Array.getElem?_toList, h5]; rfl
theorem keys_of {w : World} {M : Mask} : ∀ {l : List (ByteArray × Vol)} {es : List MapEntry}, MapAll w M (mapK FV l) es → (∀ x ∈ l, x.1.size ≤ 1000) → ∀ x ∈ es, ∃ s : ByteArray, x.key = .string s ∧ s.size ≤ 1000
  | [], [], _, _, x, hx => by cases hx
  | y :: l, e :: es, ⟨⟨h1, _⟩, h3⟩, hk, x, hx => by
    rcases List.mem_cons.1 hx with rfl | hx
    · exact ⟨_, h1, hk y List.mem_cons_self⟩
    · exact keys_of h3 (fun z hz => hk z (List.mem_cons_of_mem _ hz)) x hx
theorem keys_list {w : World} {M : Mask} {H : Type} {f : MapEntry → Lit × DataW H} : ∀ {l : List (ByteArray × Vol)} {es : List MapEntry}, MapAll w M (mapK FV l) es → (∀ x ∈ es, ∃ s : ByteArray, x.key = .string s ∧ strOf (f x).1 = s.data.toList) → (es.map f).map (fun p => strOf p.1) = keysB l
  | [], [], _, _ => rfl
  | y :: l, e :: es, ⟨⟨h1, _⟩, h3⟩, hk => by
    obtain ⟨s, k1, k2⟩ := hk e List.mem_cons_self
    rw [h1] at k1
    have : y.1 = s := by injection k1
    have ih := keys_list (f := f) h3 fun x hx => hk x (List.mem_cons_of_mem _ hx)
    show strOf (f e).1 :: (es.map f).map (fun p => strOf p.1) = y.1.data.toList :: keysB l
    rw [ih, k2, this]
theorem c_slices_Sorted {l : List (ByteArray × Vol)} (hl : l.length ≤ 1000) (hk : ∀ x ∈ l, x.1.size ≤ 1000) : PureC Tryz.prog 71 [keyR l] (sl 1 FSt (sortK l)) := ⟨enters_of Tryz.func71 (by kernel_rfl) rfl, fun w M vs hm hvs => by
  match vs, hvs with
  | [v], ⟨⟨b, c, hv, h2, h3, h4, h5⟩, _⟩ =>
    subst hv
    rcases h5 with ⟨rfl, rfl⟩ | ⟨g, rfl, g2, g3, es, clock, g4, g6, g5⟩
    · have hseq : SeqGives Fence.wide 2 Tryz.prog 110 #[.pointer (some ⟨b, 0, none⟩)] encStr (fun ss : List (List UInt8) => ss = []) 0 w :=
        AnyZ.keys_gives_nil (ρ := Tryz.keysX_ren) { Tryz.keysX with } Fence.wide _ trivial rfl b w h2 h4
      have cS := AnyZ.sorted_in Tryz.sortedX Fence.wide 5 trivial trivial trivial trivial rfl (by omega) (sortsX _) (enters_of Tryz.func109 (by kernel_rfl) rfl) 110 #[.pointer (some ⟨b, 0, none⟩)] trivial e_keys1 _ 0 (Nat.zero_le _) (by omega) _ hseq
      refine Calls.mono ((callsIn_wide (n := 5)).1 cS) ?_
      rintro e w' ⟨v, ss, rfl, rfl, hrow, _, hb⟩
      exact ⟨v, rfl, (by
        have : sortK [] = [] := by simp [sortK, keysB]
        rw [this]
        exact sl_own (by simpa using hrow) hm), hb⟩
    · let R : Value → Option (DataW Unit × List MemPlace) := fun _ => some (.nil, [])
      have hrd : ∀ x ∈ es, ∃ s : ByteArray, x.key = .string s ∧ s.size ≤ 1000 ∧ WideElems.rd Tryz.prog 9 R x = some (.string s.data.toList, .nil) := fun x hx => by
        obtain ⟨s, k1, k2⟩ := keys_of g5 hk x hx
        refine ⟨s, k1, k2, ?_⟩
        unfold WideElems.rd
        rw [k1, WideMaps.keyOf_string_mk un_string (by unfold maxLen; omega)]
        rfl
      have hF : WideElems.Fit Tryz.prog 9 R es.toArray clock := ⟨by have := g5.size; simp only [List.length_map] at this; simp only [List.size_toArray]; unfold maxLen; omega, g6, fun x hx => by
        obtain ⟨s, _, _, k3⟩ := hrd x (by simpa using hx)
        exact ⟨_, k3⟩⟩
      have hown : w.ownsMap Tryz.prog 9 R g 1000 (.map ((es.map (WideElems.rg Tryz.prog 9 R)).foldr DataW.insert [])) := ⟨es.toArray, clock, g4, hF, by have := g5.size; simp only [List.length_map] at this; simp only [List.size_toArray]; omega, by simp⟩
      have hkeys : (strKeys (.map ((es.map (WideElems.rg Tryz.prog 9 R)).foldr DataW.insert []) : DataW Unit)).Perm (keysB l) := by
        have h1 := (WideShapes.sorted_perm (es.map (WideElems.rg Tryz.prog 9 R))).map (fun p => strOf p.1)
        refine h1.trans (List.Perm.of_eq ?_)
        exact keys_list g5 fun x hx => by
          obtain ⟨s, k1, _, k3⟩ := hrd x hx
          exact ⟨s, k1, by unfold WideElems.rg; rw [k3]; rfl⟩
      have hsz : Maps.size (.map ((es.map (WideElems.rg Tryz.prog 9 R)).foldr DataW.insert []) : DataW Unit) ≤ 1000 := hown.size_le
      have hseq : SeqGives Fence.wide 2 Tryz.prog 110 #[.pointer (some ⟨b, 0, none⟩)] encStr (fun ss => ss.Perm (strKeys (.map ((es.map (WideElems.rg Tryz.prog 9 R)).foldr DataW.insert []) : DataW Unit))) (Maps.size (.map ((es.map (WideElems.rg Tryz.prog 9 R)).foldr DataW.insert []) : DataW Unit)) w :=
        AnyZ.keys_gives (ρ := Tryz.keysX_ren) { Tryz.keysX with } Fence.wide _ trivial rfl (by omega) b g 1000 _ w h2 h4 hown
      have cS := AnyZ.sorted_in Tryz.sortedX Fence.wide 5 trivial trivial trivial trivial rfl (by omega) (sortsX _) (enters_of Tryz.func109 (by kernel_rfl) rfl) 110 #[.pointer (some ⟨b, 0, none⟩)] trivial e_keys1 _ _ (by unfold maxLen; omega) (by omega) _ hseq
      refine Calls.mono ((callsIn_wide (n := 5)).1 cS) ?_
      rintro e w' ⟨v, ss, rfl, hS, hrow, _, hb⟩
      refine ⟨v, rfl, ?_, hb⟩
      have e1 : ss.mergeSort leB = sortK l := mergeSort_of_perm (hS.trans hkeys)
      have e2 : ss.length = (ss.mergeSort leB).length := (List.length_mergeSort ss).symm
      rw [← e1]
      exact sl_own (by rw [← e2]; exact hrow) hm⟩
end Go.Proofs.YtjglgfnhgehpeaaGreat

/- Sizes and places of this program's types, each asked of the kernel. -/
namespace Go.Proofs.YtjglgfnhgehpeaaGreat
open Go.Fw
theorem ei_ef34_Counts : elemInfo Tryz.prog 128 = some (3, 1, 8, 1) := by kernel_rfl
theorem el_ef34_Counts : elemSz Tryz.prog 128 = some 1 := by kernel_rfl
theorem us_ef34_Counts : Tryz.prog.underlying 128 = some (.slice 3) := by kernel_rfl
end Go.Proofs.YtjglgfnhgehpeaaGreat

/- The reference of the counts. -/
set_option linter.unusedVariables false
set_option linter.unusedSimpArgs false
set_option maxRecDepth 4000
namespace Go.Proofs.YtjglgfnhgehpeaaGreat
open Go.RowKit Go.Fw Go.Xt
theorem permB_all (N : Int) (xs : List X) : permB N xs = xs.all (perm1 N) := by unfold permB; rw [foldl_and, Bool.true_and]
theorem permB_step {N : Int} {xs : List X} {i : Nat} (hi : i < xs.length) : permB N (xs.take (i + 1)) = (permB N (xs.take i) && perm1 N (xs.getD (i : Int).toNat default)) := foldl_step _ _ hi
theorem permB_no {N : Int} {xs : List X} {i : Nat} (hi : i < xs.length) (h : perm1 N (xs.getD (i : Int).toNat default) = false) : permB N xs = false := by
  rw [permB_all, List.all_eq_false]
  exact ⟨_, getX_mem' hi, by rw [h]; exact Bool.false_ne_true⟩

theorem c_r34_New {k : Nat} (hk : k ≤ 65536) : PureC Tryz.prog 116 [I (k : Int)] (tup [sl 1 FI (List.replicate k 0), I 0]) := by
  refine PureC.of_wp Tryz.func116 (by kernel_rfl) rfl Tryz.ntmps116 (le_ rfl) (fun w0 M0 => ?_)
  refine WP.seq ?_
  refine WP.region ?_
  refine WL.op (asg (oc _)) (by decide) ?_
  refine WL.op (asg (oc _)) (by decide) ?_
  refine WL.nl (.thn ?_)
  refine WP.seq ?_
  refine WP.seq ?_
  refine WP.region ?_
  refine WL.op (mv (ot rfl)) (by decide) ?_
  refine WL.op (OpG.weak (R' := val (.bool false)) (lss (ot rfl) (oc _)) (imp_eq (congrArg (fun b => val (.bool b)) (decide_eq_false (by omega))))) (by decide) ?_
  refine WL.op (mv (ot rfl)) (by decide) ?_
  refine WL.gT rfl rfl ?_ -- g2
  refine WL.op (mv (ot rfl)) (by decide) ?_
  refine WL.gT rfl rfl ?_ -- g2
  refine WL.op (OpG.weak (R' := val (.bool false)) (gtr (ot rfl) (oc _)) (imp_eq (congrArg (fun b => val (.bool b)) (decide_eq_false (by omega))))) (by decide) ?_
  refine WL.op (pickF (ot rfl) (ot rfl)) (by decide) ?_
  refine WL.nl (.thn ?_)
  refine WP.condF rfl ?_
  refine WP.sk (.thn ?_)
  refine WP.seq ?_
  refine WP.region ?_
  refine WL.op (mv (ot rfl)) (by decide) ?_
  refine WL.mkr (OpN.mks ei_ef34_Counts zr_int rfl (ot rfl) (ot rfl) (by omega) (by omega)) (by decide) fun v11 h11 => ?_
  refine WL.op (asg (ot rfl)) (by decide) ?_
  refine WL.op (asg (oc _)) (by decide) ?_
  refine WL.nl (.thn ?_)
  refine WP.freeze 0 2 FI (List.replicate k 0) rfl (fun _ => rfl) (List.length_replicate ..).symm (fI_rep k 0).symm rfl ?_
  exact WP.rt (.rN rfl (.cons (.tm rfl) (.cons (.tm rfl) .nil)) (le_ rfl) (imp _))
theorem c_r34_Counts_permitted {cs : List Int} {xs : List X} (hcs : cs.length ≤ 1000000) (hl : xs.length ≤ 1000000) : PureC Tryz.prog 151 [sl 1 FI cs, sl 3 FX xs] (val (.bool (permB cs.length xs))) := by
  refine PureC.of_wp Tryz.func151 (by kernel_rfl) rfl Tryz.ntmps151 (le_ rfl) (fun w0 M0 => ?_)
  refine WP.seq ?_
  refine WP.region ?_
  refine WL.op (asg (oc _)) (by decide) ?_
  refine WL.nl (.thn ?_)
  refine WP.seq ?_
  refine WP.seq ?_
  refine WP.region ?_
  refine WL.op (asg (oc _)) (by decide) ?_
  refine WL.nl (.thn ?_)
  refine WP.block ?_
  refine WP.loop (fun y : Nat => []) (fun y => [(5, I (y : Int)), (1, sl 3 FX xs), (0, sl 1 FI cs)]) (fun y => y ≤ xs.length ∧ permB cs.length (xs.take y) = true) (fun y => xs.length - y) 0 ⟨Nat.zero_le _, rfl⟩ (Sub.of (Sub.cons rfl (imp_eq rfl) (Sub.cons rfl (imp _) (Sub.cons rfl (imp _) Sub.nil)))) (fun i hi => ?_)
  replace hi : i ≤ xs.length ∧ permB cs.length (xs.take i) = true := hi
  show WP _ _ _ _ [] [(5, I (i : Int)), (1, sl 3 FX xs), (0, sl 1 FI cs)] _ _
  refine WP.seq ?_
  refine WP.seq ?_
  refine WP.region ?_
  refine WL.op (mv (ot rfl)) (by decide) ?_
  refine WL.op (mv (ot rfl)) (by decide) ?_
  refine WL.op (len_ us_s_api_Extent (ot rfl)) (by decide) ?_
  refine WL.op (lss (ot rfl) (ot rfl)) (by decide) ?_
  refine WL.nl (.thn ?_)
  refine WP.cond rfl (fun hc => ?_) (fun hc => ?_)
  · skip
    have hc1 : i < xs.length := by have := of_decide_eq_true hc; omega
    refine WP.sk (.thn ?_)
    refine WP.seq ?_
    refine WP.block ?_
    refine WP.seq ?_
    refine WP.draws ?_
    refine RG.op (mv (ot rfl)) ?_
    refine RG.op (mv (ot rfl)) ?_
    refine RG.op (ixd el_s_api_Extent (ot rfl) (ot rfl) (by omega) (by omega)) ?_
    refine RG.op (fa fo_Extent_1 (ot rfl)) ?_
    refine RG.op (ld sc_int (ot rfl)) ?_
    refine RG.op (lss (ot rfl) (oc _)) ?_
    refine RG.op (mv (ot rfl)) ?_
    refine RG.gd rfl rfl (Tells.v _ _) (fun hg => mv (ot rfl)) ?_
    refine RG.gd rfl rfl (Tells.v _ _) (fun hg => mv (ot rfl)) ?_
    refine RG.gd rfl rfl (Tells.v _ _) (fun hg => ixd el_s_api_Extent (og rfl hg) (og rfl hg) (by omega) (by omega)) ?_
    refine RG.gd rfl rfl (Tells.v _ _) (fun hg => fa fo_Extent_2 (og rfl hg)) ?_
    refine RG.gd rfl rfl (Tells.v _ _) (fun hg => ld sc_int (og rfl hg)) ?_
    refine RG.gd rfl rfl (Tells.v _ _) (fun hg => lss (og rfl hg) (oc _)) ?_
    refine RG.op (or_ (ot rfl) (ot rfl)) ?_
    refine RG.op (mv (ot rfl)) ?_
    refine RG.gd rfl rfl (Tells.v _ _) (fun hg => mv (ot rfl)) ?_
    refine RG.gd rfl rfl (Tells.v _ _) (fun hg => mv (ot rfl)) ?_
    refine RG.gd rfl rfl (Tells.v _ _) (fun hg => ixd el_s_api_Extent (og rfl hg) (og rfl hg) (by omega) (by omega)) ?_
    refine RG.gd rfl rfl (Tells.v _ _) (fun hg => fa fo_Extent_2 (og rfl hg)) ?_
    refine RG.gd rfl rfl (Tells.v _ _) (fun hg => ld sc_int (og rfl hg)) ?_
    refine RG.gd rfl rfl (Tells.v _ _) (fun hg => mv (ot rfl)) ?_
    refine RG.gd rfl rfl (Tells.v _ _) (fun hg => len_ us_ef34_Counts (og rfl hg)) ?_
    refine RG.gd rfl rfl (Tells.v _ _) (fun hg => geq (og rfl hg) (og rfl hg)) ?_
    refine RG.op (or_ (ot rfl) (ot rfl)) ?_
    refine RG.op (mv (ot rfl)) ?_
    refine RG.gd rfl rfl (Tells.v _ _) (fun hg => mv (ot rfl)) ?_
    refine RG.gd rfl rfl (Tells.v _ _) (fun hg => mv (ot rfl)) ?_
    refine RG.gd rfl rfl (Tells.v _ _) (fun hg => ixd el_s_api_Extent (og rfl hg) (og rfl hg) (by omega) (by omega)) ?_
    refine RG.gd rfl rfl (Tells.v _ _) (fun hg => fa fo_Extent_1 (og rfl hg)) ?_
    refine RG.gd rfl rfl (Tells.v _ _) (fun hg => ld sc_int (og rfl hg)) ?_
    refine RG.gd rfl rfl (Tells.v _ _) (fun hg => mv (ot rfl)) ?_
    refine RG.gd rfl rfl (Tells.v _ _) (fun hg => len_ us_ef34_Counts (og rfl hg)) ?_
    refine RG.gd rfl rfl (Tells.v _ _) (fun hg => mv (ot rfl)) ?_
    refine RG.gd rfl rfl (Tells.v _ _) (fun hg => mv (ot rfl)) ?_
    refine RG.gd rfl rfl (Tells.v _ _) (fun hg => ixd el_s_api_Extent (og rfl hg) (og rfl hg) (by omega) (by omega)) ?_
    refine RG.gd rfl rfl (Tells.v _ _) (fun hg => fa fo_Extent_2 (og rfl hg)) ?_
    refine RG.gd rfl rfl (Tells.v _ _) (fun hg => ld sc_int (og rfl hg)) ?_
    refine RG.gd rfl rfl (Tells.v _ _) (fun hg => sub (og rfl hg) (og rfl hg) (by simp only [Bool.or_eq_false_iff, decide_eq_false_iff_not] at hg; omega)) ?_
    refine RG.gd rfl rfl (Tells.v _ _) (fun hg => gtr (og rfl hg) (og rfl hg)) ?_
    refine RG.op (or_ (ot rfl) (ot rfl)) ?_
    refine RG.fin HM (by kernel_rfl) ?_
    show WL _ _ _ _ _ _ _ _ _
    refine WL.nl (.thn ?_)
    refine WP.cond rfl (fun hc => ?_) (fun hc => ?_)
    · skip
      have hno : perm1 cs.length (xs.getD (i : Int).toNat default) = false := by
        unfold perm1
        simp only [Bool.and_eq_false_iff, Bool.or_eq_true, decide_eq_true_eq, decide_eq_false_iff_not] at hc ⊢
        omega
      refine WP.seq ?_
      refine WP.region ?_
      refine WL.op (asg (oc _)) (by decide) ?_
      refine WL.nl (.thn ?_)
      exact WP.rt (.rblk (.rthn (.rthn (.rblk (.rthn (.r1 rfl rfl (imp_eq (congrArg (fun b => val (.bool b)) (permB_no hc1 hno).symm))))))))
    · skip
      have hok : perm1 cs.length (xs.getD (i : Int).toNat default) = true := by
        unfold perm1
        simp only [Bool.and_eq_true, Bool.or_eq_false_iff, decide_eq_true_eq, decide_eq_false_iff_not] at hc ⊢
        omega
      refine WP.sk (.blk (.thn ?_))
      refine WP.region ?_
      refine WL.op (mv (ot rfl)) (by decide) ?_
      refine WL.op (add (ot rfl) (oc _) (by omega)) (by decide) ?_
      refine WL.op (asg (ot rfl)) (by decide) ?_
      exact WL.nl (.again (i + 1) ⟨hc1, by rw [permB_step hc1, hi.2, hok]; rfl⟩ (by omega) (Sub.of (Sub.cons rfl (imp_eq (congrArg I (by omega))) (Sub.cons rfl (imp _) (Sub.cons rfl (imp _) Sub.nil)))))
  · skip
    have hc1 : ¬ i < xs.length := by have := of_decide_eq_false hc; omega
    have hend : permB cs.length xs = true := by have := hi.2; rwa [List.take_of_length_le (by omega)] at this
    refine WP.xt (.xthn (.xthn (.xin (.thn ?_))))
    refine WP.seq ?_
    refine WP.region ?_
    refine WL.op (asg (oc _)) (by decide) ?_
    refine WL.nl (.thn ?_)
    exact WP.rt (.r1 rfl rfl (imp_eq (congrArg (fun b => val (.bool b)) hend.symm)))
theorem c_r34_Counts_changed {cs : List Int} {xs : List X} {d : Int} (hd : d = 1 ∨ d = -1) (hcs0 : cs.length ≤ 1000000) (hl : xs.length ≤ 100000) (hcs : ∀ s : Nat, -1000000000 ≤ cs.getD s 0 ∧ cs.getD s 0 ≤ 1000000000) (hp : permB cs.length xs = true) : PureC Tryz.prog 152 [sl 1 FI cs, sl 3 FX xs, I d] (sl 1 FI (chg d cs xs)) := by
  have hp := permB_iff.1 hp
  have hchg := fun i : Nat => chg_ok d cs _ (xs.take i) rfl (fun x hx => hp x (List.mem_of_mem_take hx))
  refine PureC.of_wp Tryz.func152 (by kernel_rfl) rfl Tryz.ntmps152 (le_ rfl) (fun w0 M0 => ?_)
  refine WP.seq ?_
  refine WP.region ?_
  refine WL.op (asg (oc _)) (by decide) ?_
  refine WL.nl (.thn ?_)
  refine WP.seq ?_
  refine WP.region ?_
  refine WL.mkr (OpN.bsl0 ei_ef34_Counts) (by decide) fun v10 h10 => ?_
  refine WL.op (mv (ot rfl)) (by decide) ?_
  refine WL.app' (xs := cs) 0 rfl ei_ef34_Counts (by decide) (ot rfl) (ot rfl) h10 (fun _ => rfl) (by omega) (by omega) (by decide) fun v12 h12 => ?_
  refine WL.op (asg (ot rfl)) (by decide) ?_
  refine WL.nl (.thn ?_)
  refine WP.seq ?_
  refine WP.seq ?_
  refine WP.region ?_
  refine WL.op (asg (oc _)) (by decide) ?_
  refine WL.nl (.thn ?_)
  refine WP.block  ?_
  refine WP.weak (bs' := [.r v12 3 1 cs.length ((cs).flatMap FI)]) (st' := [(8, I 0), (7, val v12), (2, I d), (1, sl 3 FX xs)]) ?_ (Sub.ofD 0 (by simp only [List.nil_append, Nat.zero_add]; rfl) (Sub.cons rfl (imp_eq rfl) (Sub.cons rfl (imp _) (Sub.cons rfl (imp _) (Sub.cons rfl (imp _) Sub.nil)))))
  refine WP.rowAt' 0 rfl fun g cap hv => ?_
  refine WP.loop (fun y : Nat => [.r v12 3 1 cs.length ((chg d cs (xs.take y)).flatMap FI)]) (fun y => [(8, I (y : Int)), (7, val v12), (2, I d), (1, sl 3 FX xs)]) (fun y => y ≤ xs.length) (fun y => xs.length - y) 0 (Nat.zero_le _) (Sub.ofD 0 rfl (Sub.cons rfl (imp_eq rfl) (Sub.cons rfl (imp _) (Sub.cons rfl (imp _) (Sub.cons rfl (imp _) Sub.nil))))) (fun i hi => ?_)
  replace hi : i ≤ xs.length := hi
  show WP _ _ _ _ [.r v12 3 1 cs.length ((chg d cs (xs.take i)).flatMap FI)] [(8, I (i : Int)), (7, val v12), (2, I d), (1, sl 3 FX xs)] _ _
  refine WP.seq ?_
  refine WP.seq ?_
  refine WP.region ?_
  refine WL.op (mv (ot rfl)) (by decide) ?_
  refine WL.op (mv (ot rfl)) (by decide) ?_
  refine WL.op (len_ us_s_api_Extent (ot rfl)) (by decide) ?_
  refine WL.op (lss (ot rfl) (ot rfl)) (by decide) ?_
  refine WL.nl (.thn ?_)
  refine WP.cond rfl (fun hc => ?_) (fun hc => ?_)
  · skip
    have hc1 : i < xs.length := by have := of_decide_eq_true hc; omega
    have hx := hp _ (getX_mem' hc1)
    have hstep := chg_step (d := d) (cs := cs) hc1
    obtain ⟨hcl, hcg⟩ := hchg i
    refine WP.sk (.thn ?_)
    refine WP.seq ?_
    refine WP.block ?_
    refine WP.seq ?_
    refine WP.region ?_
    refine WL.op (mv (ot rfl)) (by decide) ?_
    refine WL.op (mv (ot rfl)) (by decide) ?_
    refine WL.op (ixd el_s_api_Extent (ot rfl) (ot rfl) (by omega) (by omega)) (by decide) ?_
    refine WL.op (fa fo_Extent_2 (ot rfl)) (by decide) ?_
    refine WL.op (ld sc_int (ot rfl)) (by decide) ?_
    refine WL.op (asg (ot rfl)) (by decide) ?_
    refine WL.nl (.thn ?_)
    refine WP.block ?_
    refine WP.loop (fun q : Nat => [.r v12 3 1 cs.length ((inc d (chg d cs (xs.take i)) (xs.getD (i : Int).toNat default).s.toNat q).flatMap FI)]) (fun q => [(9, I ((xs.getD (i : Int).toNat default).s + q)), (8, I (i : Int)), (7, val v12), (2, I d), (1, sl 3 FX xs)]) (fun q => (q : Int) ≤ (xs.getD (i : Int).toNat default).n) (fun q => (xs.getD (i : Int).toNat default).n.toNat - q) 0 (by omega) (Sub.ofD 0 rfl (Sub.cons rfl (imp_eq (congrArg I (by omega))) (Sub.cons rfl (imp _) (Sub.cons rfl (imp _) (Sub.cons rfl (imp _) (Sub.cons rfl (imp _) Sub.nil)))))) (fun k hk => ?_)
    replace hk : (k : Int) ≤ (xs.getD (i : Int).toNat default).n := hk
    show WP _ _ _ _ [.r v12 3 1 cs.length ((inc d (chg d cs (xs.take i)) (xs.getD (i : Int).toNat default).s.toNat k).flatMap FI)] [(9, I ((xs.getD (i : Int).toNat default).s + k)), (8, I (i : Int)), (7, val v12), (2, I d), (1, sl 3 FX xs)] _ _
    refine WP.seq ?_
    refine WP.seq ?_
    refine WP.draws ?_
    refine RG.op (mv (ot rfl)) ?_
    refine RG.op (mv (ot rfl)) ?_
    refine RG.op (mv (ot rfl)) ?_
    refine RG.op (ixd el_s_api_Extent (ot rfl) (ot rfl) (by omega) (by omega)) ?_
    refine RG.op (fa fo_Extent_2 (ot rfl)) ?_
    refine RG.op (ld sc_int (ot rfl)) ?_
    refine RG.op (mv (ot rfl)) ?_
    refine RG.op (mv (ot rfl)) ?_
    refine RG.op (ixd el_s_api_Extent (ot rfl) (ot rfl) (by omega) (by omega)) ?_
    refine RG.op (fa fo_Extent_1 (ot rfl)) ?_
    refine RG.op (ld sc_int (ot rfl)) ?_
    refine RG.op (add (ot rfl) (ot rfl) (by omega)) ?_
    refine RG.op (lss (ot rfl) (ot rfl)) ?_
    refine RG.fin HM (by kernel_rfl) ?_
    show WL _ _ _ _ _ _ _ _ _
    refine WL.nl (.thn ?_)
    refine WP.cond rfl (fun hc => ?_) (fun hc => ?_)
    · skip
      have hk1 : (k : Int) < (xs.getD (i : Int).toNat default).n := by have := of_decide_eq_true hc; omega
      have hin1 := inc_len d (chg d cs (xs.take i)) (xs.getD (i : Int).toNat default).s.toNat k
      have hin2 := inc_get d (chg d cs (xs.take i)) (xs.getD (i : Int).toNat default).s.toNat k (by omega) ((xs.getD (i : Int).toNat default).s + k).toNat
      rw [hcg] at hin2
      have hh1 := hits_nn (xs.take i) (((xs.getD (i : Int).toNat default).s + k).toNat : Nat)
      have hh2 := hits_le (xs.take i) (((xs.getD (i : Int).toNat default).s + k).toNat : Nat)
      have hh3 : (xs.take i).length ≤ i := List.length_take_le _ _
      have hcb := hcs ((xs.getD (i : Int).toNat default).s + k).toNat
      rw [if_neg (by omega)] at hin2
      have hbd : -1001000000 ≤ (inc d (chg d cs (xs.take i)) (xs.getD (i : Int).toNat default).s.toNat k).getD ((xs.getD (i : Int).toNat default).s + k).toNat 0 ∧ (inc d (chg d cs (xs.take i)) (xs.getD (i : Int).toNat default).s.toNat k).getD ((xs.getD (i : Int).toNat default).s + k).toNat 0 ≤ 1001000000 := by
        rw [hin2]
        rcases hd with rfl | rfl <;> omega
      refine WP.sk (.thn ?_)
      refine WP.seq ?_
      refine WP.block ?_
      refine WP.region ?_
      refine WL.op (mv (ot rfl)) (by decide) ?_
      refine WL.op (mv (ot rfl)) (by decide) ?_
      refine WL.op (ixr' (hv (by omega)) el_ef34_Counts (ot rfl) (ot rfl) (by omega) (by omega)) (by decide) ?_
      refine WL.op (lr' 0 (hv (by omega)) rfl sc_int (ot rfl) (fI_get (L := inc d (chg d cs (xs.take i)) (xs.getD (i : Int).toNat default).s.toNat k) (by omega))) (by decide) ?_
      refine WL.op (mv (ot rfl)) (by decide) ?_
      refine WL.op (add (ot rfl) (ot rfl) (by omega)) (by decide) ?_
      refine WL.op (ixr' (hv (by omega)) el_ef34_Counts (ot rfl) (ot rfl) (by omega) (by omega)) (by decide) ?_
      refine WL.storeR' 0 (hv (by omega)) rfl (ot rfl) (ot rfl) (.leaf (.val rfl)) sz_int rfl (by rw [fI_len, hin1]; omega) ?_
      refine WL.nl (.blk (.thn ?_))
      refine WP.region ?_
      refine WL.op (mv (ot rfl)) (by decide) ?_
      refine WL.op (add (ot rfl) (oc _) (by omega)) (by decide) ?_
      refine WL.op (asg (ot rfl)) (by decide) ?_
      exact WL.nl (.again (k + 1) (by omega) (by omega) (Sub.ofD 0 (Eq.trans (b := [.r v12 3 1 cs.length (setAt ((inc d (chg d cs (xs.take i)) (xs.getD (i : Int).toNat default).s.toNat k).flatMap FI) (((xs.getD (i : Int).toNat default).s + k).toNat * 1) [I ((inc d (chg d cs (xs.take i)) (xs.getD (i : Int).toNat default).s.toNat k).getD ((xs.getD (i : Int).toNat default).s + k).toNat 0 + d)])]) rfl (by rw [fI_set (by rw [hin1]; omega), show ((xs.getD (i : Int).toNat default).s + (k : Int)).toNat = (xs.getD (i : Int).toNat default).s.toNat + k from by omega]; rfl)) (Sub.cons rfl (imp_eq (congrArg I (by omega))) (Sub.cons rfl (imp _) (Sub.cons rfl (imp _) (Sub.cons rfl (imp _) (Sub.cons rfl (imp _) Sub.nil)))))))
    · skip
      have hk1 : ¬ (k : Int) < (xs.getD (i : Int).toNat default).n := by have := of_decide_eq_false hc; omega
      refine WP.xt (.xthn (.xthn (.xin (.blk (.thn ?_)))))
      refine WP.region ?_
      refine WL.op (mv (ot rfl)) (by decide) ?_
      refine WL.op (add (ot rfl) (oc _) (by omega)) (by decide) ?_
      refine WL.op (asg (ot rfl)) (by decide) ?_
      exact WL.nl (.again (i + 1) hc1 (by omega) (Sub.ofD 0 (by rw [hstep, show k = (xs.getD (i : Int).toNat default).n.toNat from by omega]; rfl) (Sub.cons rfl (imp_eq (congrArg I (by omega))) (Sub.cons rfl (imp _) (Sub.cons rfl (imp _) (Sub.cons rfl (imp _) Sub.nil))))))
  · skip
    have hc1 : ¬ i < xs.length := by have := of_decide_eq_false hc; omega
    refine WP.xt (.xthn (.xthn (.xin (.thn ?_))))
    refine WP.seq ?_
    refine WP.region ?_
    refine WL.op (mv (ot rfl)) (by decide) ?_
    refine WL.op (asg (ot rfl)) (by decide) ?_
    refine WL.nl (.thn ?_)
    have hL2 : chg d cs (xs.take i) = chg d cs xs := by rw [List.take_of_length_le (by omega)]
    refine WP.freeze 0 6 FI (chg d cs (xs.take i)) rfl (fun _ => rfl) (hchg i).1.symm rfl rfl ?_
    exact WP.rt (.r1 rfl rfl (imp_eq (by rw [← hL2])))
theorem c_r34_Counts_Add {cs : List Int} {xs : List X} (hb : Cb cs) (hl : xs.length ≤ 100000) : PureC Tryz.prog 117 [sl 1 FI cs, sl 3 FX xs] (tup [sl 1 FI (addE cs xs).1, I (addE cs xs).2]) := by
  refine PureC.of_wp Tryz.func117 (by kernel_rfl) rfl Tryz.ntmps117 (le_ rfl) (fun w0 M0 => ?_)
  refine WP.seq ?_
  refine WP.region ?_
  refine WL.op (asg (oc _)) (by decide) ?_
  refine WL.op (asg (oc _)) (by decide) ?_
  refine WL.nl (.thn ?_)
  refine WP.seq ?_
  refine WP.seq ?_
  refine WP.region ?_
  refine WL.op (mv (ot rfl)) (by decide) ?_
  refine WL.op (mv (ot rfl)) (by decide) ?_
  refine WL.op (call (c_r34_Counts_permitted (by have := hb.1; omega) (by omega)) (.c (ot rfl) (.c (ot rfl) .n))) (by decide) ?_
  refine WL.op (not_ (ot rfl)) (by decide) ?_
  refine WL.nl (.thn ?_)
  refine WP.cond rfl (fun hc => ?_) (fun hc => ?_)
  · skip
    have hp0 : ¬ permB cs.length xs = true := by simpa using hc
    refine WP.seq ?_
    refine WP.region ?_
    refine WL.op (asg (oc _)) (by decide) ?_
    refine WL.op (asg (oc _)) (by decide) ?_
    refine WL.nl (.thn ?_)
    exact WP.rt (.rthn (.rN rfl (.cons (.tm rfl) (.cons (.tm rfl) .nil)) (le_ rfl) (by rw [show addE cs xs = ([], 2) from if_neg hp0]; exact impT (.c sl_nil (.c (imp  _) .n)))))
  · skip
    have hp0 : permB cs.length xs = true := by simpa using hc
    refine WP.sk (.thn ?_)
    refine WP.seq ?_
    refine WP.region ?_
    refine WL.op (mv (ot rfl)) (by decide) ?_
    refine WL.op (mv (ot rfl)) (by decide) ?_
    refine WL.op (call (c_r34_Counts_changed (.inl rfl) (by have := hb.1; omega) hl (fun s => by have := hb.2 s; omega) hp0) (.c (ot rfl) (.c (ot rfl) (.c (oc _) .n)))) (by decide) ?_
    refine WL.op (asg (ot rfl)) (by decide) ?_
    refine WL.op (asg (oc _)) (by decide) ?_
    refine WL.nl (.thn ?_)
    exact WP.rt (.rN rfl (.cons (.tm rfl) (.cons (.tm rfl) .nil)) (le_ rfl) (by rw [show addE cs xs = (chg 1 cs xs, 0) from if_pos hp0]; exact imp  _))
end Go.Proofs.YtjglgfnhgehpeaaGreat

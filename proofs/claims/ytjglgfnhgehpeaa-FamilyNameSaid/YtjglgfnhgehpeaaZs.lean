/- Parts: LawJ, LawK. -/
import Derived.Test.YtjglgfnhgehpeaaZr
import Derived.Test.YtjglgfnhgehpeaaZo
/- The example of the document on families. -/
set_option linter.unusedVariables false
set_option linter.unusedSimpArgs false
set_option maxRecDepth 4000
namespace Go.Proofs.Ytjglgfnhgehpeaa
open Go.RowKit Go.Fw Go.Xt
abbrev sa : ByteArray := ⟨#[97]⟩
abbrev sb : ByteArray := ⟨#[98]⟩
theorem srt_nil : srt [] = [] := by simp [srt]
theorem srt_one (u : Int) : srt [u] = [u] := by simp [srt]
def xa : X := ⟨0, 3, 5⟩
def T1 : Tr := (tPut .nil xa).1
theorem T1_like : Like (tPut .nil xa) (rPut [] xa) := like_put wt_nil' xa
theorem T1_wt : Wt T1 := T1_like.wt
theorem T1_list : T1.list = [⟨0, 3, 5⟩] := T1_like.list
theorem T1_old : (tPut .nil xa).2.1 = [] := T1_like.part
theorem T1_e : (tPut .nil xa).2.2 = 0 := T1_like.e
def T2 : Tr := (tCut T1 0 1).1
theorem T2_like : Like (tCut T1 0 1) (rCut T1.list 0 1) := like_cut T1_wt 0 1
theorem T2_wt : Wt T2 := T2_like.wt
theorem T2_list : T2.list = [⟨1, 2, 6⟩] := by
  have := T2_like.list
  rw [T1_list] at this
  exact this
theorem T2_old : (tCut T1 0 1).2.1 = [⟨0, 1, 5⟩] := by
  have := T2_like.part
  rw [T1_list] at this
  exact this
theorem T2_e : (tCut T1 0 1).2.2 = 0 := by
  have := T2_like.e
  rw [T1_list] at this
  exact this
def c2 : List Int := [0, 0, 0, 0, 0, 1, 1, 1, 0, 0]
def c3 : List Int := [0, 0, 0, 0, 0, 2, 2, 2, 0, 0]
def c4 : List Int := [0, 0, 0, 0, 0, 1, 2, 2, 0, 0]
def c5 : List Int := [0, 0, 0, 0, 0, 0, 1, 1, 0, 0]
def A0 : Fam := ⟨List.replicate 10 0, []⟩
def A1 : Fam := ⟨List.replicate 10 0, [(sa, ⟨4, 0, .nil⟩)]⟩
def A2 : Fam := ⟨c2, [(sa, ⟨4, 0, T1⟩)]⟩
def A3 : Fam := ⟨c3, [(sa, ⟨4, 0, T1⟩), (sb, ⟨4, 0, T1⟩)]⟩
def A4 : Fam := ⟨c4, [(sa, ⟨4, 0, T2⟩), (sb, ⟨4, 0, T1⟩)]⟩
def A5 : Fam := ⟨c5, [(sa, ⟨4, 0, T2⟩)]⟩
theorem cb_of {cs : List Int} (h : ∀ c ∈ cs, 0 ≤ c ∧ c ≤ 10000000) (s : Nat) : 0 ≤ cs.getD s 0 ∧ cs.getD s 0 ≤ 10000000 := by
  rw [List.getD_eq_getElem?_getD]
  cases hq : cs[s]? with
  | none => simp
  | some c => exact h c (List.mem_of_getElem? hq)
theorem fw_of {cs : List Int} {vs : List (ByteArray × Vol)} (h1 : cs.length = 10) (h2 : ∀ c ∈ cs, 0 ≤ c ∧ c ≤ 10000000) (h3 : ∀ x ∈ vs, x.2.n = 4 ∧ (x.2.t = .nil ∨ x.2.t = T1 ∨ x.2.t = T2)) (h4 : vs.length ≤ 1000) : Fw0 ⟨cs, vs⟩ := ⟨by show cs.length ≤ _; omega, cb_of h2, fun x hx => by
  obtain ⟨k1, k2⟩ := h3 x hx
  rw [k1]
  show _ ∧ _ ∧ _ ∧ permB cs.length _ = true
  rw [h1]
  rcases k2 with k2 | k2 | k2 <;> rw [k2]
  · exact ⟨wt_nil', by decide, by decide, rfl⟩
  · exact ⟨T1_wt, by decide, by decide, by rw [T1_list]; rfl⟩
  · exact ⟨T2_wt, by decide, by decide, by rw [T2_list]; rfl⟩, h4⟩
theorem fw1 : Fw0 A1 := fw_of rfl (by decide) (by intro x hx; rcases List.mem_cons.1 hx with rfl | hx; exact ⟨rfl, .inl rfl⟩; cases hx) (by decide)
theorem fw2 : Fw0 A2 := fw_of rfl (by decide) (by intro x hx; rcases List.mem_cons.1 hx with rfl | hx; exact ⟨rfl, .inr (.inl rfl)⟩; cases hx) (by decide)
theorem fw3 : Fw0 A3 := fw_of rfl (by decide) (by intro x hx; rcases List.mem_cons.1 hx with rfl | hx; exact ⟨rfl, .inr (.inl rfl)⟩; rcases List.mem_cons.1 hx with rfl | hx; exact ⟨rfl, .inr (.inl rfl)⟩; cases hx) (by decide)
theorem fw4 : Fw0 A4 := fw_of rfl (by decide) (by intro x hx; rcases List.mem_cons.1 hx with rfl | hx; exact ⟨rfl, .inr (.inr rfl)⟩; rcases List.mem_cons.1 hx with rfl | hx; exact ⟨rfl, .inr (.inl rfl)⟩; cases hx) (by decide)
theorem drop_no {cs out : List Int} {xs : List X} {U : List Int} (h1 : permB cs.length xs = true) (h2 : chg (-1) cs xs = out) (h3 : (out.any fun k => decide (k < 0)) = false) (h4 : frd out xs = U) (h5 : srt U = U) : dropE cs xs = (out, mruns (U.map un), 0) := by
  unfold dropE
  rw [if_pos h1, h2, if_neg (by rw [h3]; exact Bool.false_ne_true), h4, h5]
theorem e_create : fCreate A0 sa 4 0 = (A1, 0) := (if_neg (by decide)).trans (if_pos (by decide))
theorem e_find1 (a n : Int) : fFind A1 sa a n = if has ⟨4, 0, .nil⟩ a n then (⟨4, 0, .nil⟩, 0) else (default, 2) := rfl
theorem e_assign : fAssign A1 sa xa = (A2, [], 0) := by
  have h1 : fFind A1 sa xa.a xa.n = (⟨4, 0, .nil⟩, 0) := rfl
  unfold fAssign
  rw [h1, if_pos rfl, if_pos (by decide), if_pos T1_e]
  unfold fAsg
  rw [T1_old, show dropE (addE A1.cs [xa]).1 [] = (c2, [], 0) from drop_no (U := []) (by decide) (by decide) (by decide) (by decide) srt_nil]
  rfl
theorem e_clone : fClone A2 sa sb = (A3, 0) := by
  have h1 : lookK sa A2.vs = some ⟨4, 0, T1⟩ := rfl
  unfold fClone
  rw [h1]
  show (if nameE sb = false then _ else if vac A2 sb = 0 then if (addE A2.cs T1.list).2 = 0 then ((⟨(addE A2.cs T1.list).1, _⟩ : Fam), (0 : Int)) else _ else _) = _
  rw [if_neg (by decide), if_pos (show vac A2 sb = 0 from rfl), T1_list, if_pos (by decide)]
  rfl
theorem e_unmap : fUnmap A3 sa 0 1 = (A4, [], 0) := by
  have h1 : fFind A3 sa 0 1 = (⟨4, 0, T1⟩, 0) := rfl
  unfold fUnmap
  rw [h1, if_pos rfl, if_pos T2_e]
  unfold fUnm
  rw [T2_old, show dropE A3.cs [⟨0, 1, 5⟩] = (c4, [], 0) from drop_no (U := []) (by decide) (by decide) (by decide) (by decide) srt_nil]
  rfl
theorem e_info_a : fInfo A4 sa = (⟨sa, 4, 0, 2, 0⟩, 0) := by
  have h1 : fFind A4 sa 0 0 = (⟨4, 0, T2⟩, 0) := rfl
  unfold fInfo
  rw [h1, if_pos rfl, blocks_eq, T2_list]
  rfl
theorem e_info_b : fInfo A4 sb = (⟨sb, 4, 0, 3, 1⟩, 0) := by
  have h1 : fFind A4 sb 0 0 = (⟨4, 0, T1⟩, 0) := rfl
  unfold fInfo
  rw [h1, if_pos rfl, blocks_eq, T1_list]
  rfl
theorem e_delete : fDelete A4 sb = (A5, [⟨0, 1, 5⟩], 0) := by
  have h1 : lookK sb A4.vs = some ⟨4, 0, T1⟩ := rfl
  unfold fDelete
  rw [h1]
  show (if (dropE c4 T1.list).2.2 = 0 then ((⟨(dropE c4 T1.list).1, _⟩ : Fam), (dropE c4 T1.list).2.1, (0 : Int)) else _) = _
  rw [T1_list, show dropE c4 [⟨0, 3, 5⟩] = (c5, [⟨0, 1, 5⟩], 0) from drop_no (U := [5]) (by decide) (by decide) (by decide) (by decide) (srt_one 5)]
  rfl
theorem aw_new : PureC Try.prog 34 [I 10] (tup [eF A0, I 0]) := c_family_New (k := 10) (by decide)
theorem aw_create : PureC Try.prog 35 [eF A0, val (.string sa), I 4, I 0] (tup [eF A1, I 0]) := by
  have := c_family_Family_Create (f := A0) (s := sa) (n := 4) (r := 0) (by decide)
  rwa [e_create] at this
theorem aw_assign : PureC Try.prog 57 [eF A1, val (.string sa), ext xa] (tup [eF A2, sl 3 FX ([] : List X), I 0]) := by
  have := c_family_Family_Assign (s := sa) (x := xa) fw1
  rwa [e_assign] at this
theorem aw_clone : PureC Try.prog 58 [eF A2, val (.string sa), val (.string sb)] (tup [eF A3, I 0]) := by
  have := c_family_Family_Clone (s := sa) (o := sb) (by decide) fw2
  rwa [e_clone] at this
theorem aw_unmap : PureC Try.prog 59 [eF A3, val (.string sa), I 0, I 1] (tup [eF A4, sl 3 FX ([] : List X), I 0]) := by
  have := c_family_Family_Unmap (s := sa) (a := 0) (n := 1) fw3
  rwa [e_unmap] at this
theorem aw_info_a : PureC Try.prog 60 [eF A4, val (.string sa)] (tup [agg (FInf ⟨sa, 4, 0, 2, 0⟩), I 0]) := by
  have := c_family_Family_Info (s := sa) fw4
  rwa [e_info_a] at this
theorem aw_info_b : PureC Try.prog 60 [eF A4, val (.string sb)] (tup [agg (FInf ⟨sb, 4, 0, 3, 1⟩), I 0]) := by
  have := c_family_Family_Info (s := sb) fw4
  rwa [e_info_b] at this
theorem aw_delete : PureC Try.prog 61 [eF A4, val (.string sb)] (tup [eF A5, sl 3 FX [(⟨0, 1, 5⟩ : X)], I 0]) := by
  have := c_family_Family_Delete (s := sb) fw4
  rwa [e_delete] at this
theorem aw_count : PureC Try.prog 62 [eF A3, I 5] (I 2) := c_family_Family_Count (f := A3) (s := 5)
theorem aw_same : PureC Try.prog 21 [sl 3 FX [(⟨0, 1, 5⟩ : X)], sl 3 FX [(⟨0, 1, 5⟩ : X)]] (val (.bool true)) := c_r32_Same _ _ (by decide) (by decide)

theorem c_w36_awake : PureC Try.prog 33 [] (val (.bool true)) := by
  refine PureC.of_wp Try.func33 (by kernel_rfl) rfl Try.ntmps33 (le_ rfl) (fun w0 M0 => ?_)
  refine WP.seq ?_
  -- region 0 law.go:12
  refine WP.region ?_
  refine WL.op (asg (oc _)) (by decide) ?_
  refine WL.nl (.thn ?_)
  refine WP.seq ?_
  -- region 1 law.go:13
  refine WP.region ?_
  refine WL.op (call aw_new (.c (oc _) .n)) (by decide) ?_
  refine WL.op (mv (ot rfl)) (by decide) ?_
  refine WL.op (ex (ot rfl) rfl) (by decide) ?_
  refine WL.op (ex (ot rfl) rfl) (by decide) ?_
  refine WL.alloc zr_family_Family rfl (by decide) fun b1 => ?_
  refine WL.store 0 rfl (ot rfl) (ot rfl) (.agg _) sz_family_Family rfl (le_ rfl) ?_
  refine WL.op (asg (ot rfl)) (by decide) ?_
  refine WL.nl (.thn ?_)
  refine WP.seq ?_
  -- region 2 law.go:14
  refine WP.region ?_
  refine WL.op (lbs 0 rfl ag_family_Family (ot rfl) (le_ rfl)) (by decide) ?_
  refine WL.op (call aw_create (.c (ot rfl) (.c (oc _) (.c (oc _) (.c (oc _) .n))))) (by decide) ?_
  refine WL.op (mv (ot rfl)) (by decide) ?_
  refine WL.op (ex (ot rfl) rfl) (by decide) ?_
  refine WL.op (ex (ot rfl) rfl) (by decide) ?_
  refine WL.store 0 rfl (ot rfl) (ot rfl) (.agg _) sz_family_Family rfl (le_ rfl) ?_
  refine WL.op (asg (ot rfl)) (by decide) ?_
  refine WL.nl (.thn ?_)
  refine WP.seq ?_
  -- region 3 law.go:15
  refine WP.region ?_
  refine WL.op (lbs 0 rfl ag_family_Family (ot rfl) (le_ rfl)) (by decide) ?_
  refine WL.op (bld zr_Extent rfl ps_Extent (.c (oc _) (.leaf (.val rfl)) pl_Extent_1 rfl (le_ rfl) (.c (oc _) (.leaf (.val rfl)) pl_Extent_2 rfl (le_ rfl) .n))) (by decide) ?_
  refine WL.op (call aw_assign (.c (ot rfl) (.c (oc _) (.c (ot rfl) .n)))) (by decide) ?_
  refine WL.op (mv (ot rfl)) (by decide) ?_
  refine WL.op (ex (ot rfl) rfl) (by decide) ?_
  refine WL.op (ex (ot rfl) rfl) (by decide) ?_
  refine WL.op (ex (ot rfl) rfl) (by decide) ?_
  refine WL.store 0 rfl (ot rfl) (ot rfl) (.agg _) sz_family_Family rfl (le_ rfl) ?_
  refine WL.op (asg (ot rfl)) (by decide) ?_
  refine WL.op (asg (ot rfl)) (by decide) ?_
  refine WL.nl (.thn ?_)
  refine WP.seq ?_
  -- region 4 law.go:16
  refine WP.region ?_
  refine WL.op (lbs 0 rfl ag_family_Family (ot rfl) (le_ rfl)) (by decide) ?_
  refine WL.op (call aw_clone (.c (ot rfl) (.c (oc _) (.c (oc _) .n)))) (by decide) ?_
  refine WL.op (mv (ot rfl)) (by decide) ?_
  refine WL.op (ex (ot rfl) rfl) (by decide) ?_
  refine WL.op (ex (ot rfl) rfl) (by decide) ?_
  refine WL.store 0 rfl (ot rfl) (ot rfl) (.agg _) sz_family_Family rfl (le_ rfl) ?_
  refine WL.op (asg (ot rfl)) (by decide) ?_
  refine WL.nl (.thn ?_)
  refine WP.seq ?_
  -- region 5 law.go:17
  refine WP.region ?_
  refine WL.op (lbs 0 rfl ag_family_Family (ot rfl) (le_ rfl)) (by decide) ?_
  refine WL.op (call aw_unmap (.c (ot rfl) (.c (oc _) (.c (oc _) (.c (oc _) .n))))) (by decide) ?_
  refine WL.op (mv (ot rfl)) (by decide) ?_
  refine WL.op (ex (ot rfl) rfl) (by decide) ?_
  refine WL.op (ex (ot rfl) rfl) (by decide) ?_
  refine WL.op (ex (ot rfl) rfl) (by decide) ?_
  refine WL.alloc zr_family_Family rfl (by decide) fun b7 => ?_
  refine WL.store 0 rfl (ot rfl) (ot rfl) (.agg _) sz_family_Family rfl (le_ rfl) ?_
  refine WL.op (asg (ot rfl)) (by decide) ?_
  refine WL.op (asg (ot rfl)) (by decide) ?_
  refine WL.nl (.thn ?_)
  refine WP.seq ?_
  -- region 6 law.go:18
  refine WP.region ?_
  refine WL.op (lbs 0 rfl ag_family_Family (ot rfl) (le_ rfl)) (by decide) ?_
  refine WL.op (call aw_info_a (.c (ot rfl) (.c (oc _) .n))) (by decide) ?_
  refine WL.op (mv (ot rfl)) (by decide) ?_
  refine WL.op (ex (ot rfl) rfl) (by decide) ?_
  refine WL.op (ex (ot rfl) rfl) (by decide) ?_
  refine WL.alloc zr_VolumeInfo rfl (by decide) fun b10 => ?_
  refine WL.store 0 rfl (ot rfl) (ot rfl) (.agg _) sz_VolumeInfo rfl (le_ rfl) ?_
  refine WL.op (asg (ot rfl)) (by decide) ?_
  refine WL.nl (.thn ?_)
  refine WP.seq ?_
  -- region 7 law.go:19
  refine WP.region ?_
  refine WL.op (lbs 1 rfl ag_family_Family (ot rfl) (le_ rfl)) (by decide) ?_
  refine WL.op (call aw_info_b (.c (ot rfl) (.c (oc _) .n))) (by decide) ?_
  refine WL.op (mv (ot rfl)) (by decide) ?_
  refine WL.op (ex (ot rfl) rfl) (by decide) ?_
  refine WL.op (ex (ot rfl) rfl) (by decide) ?_
  refine WL.alloc zr_VolumeInfo rfl (by decide) fun b12 => ?_
  refine WL.store 0 rfl (ot rfl) (ot rfl) (.agg _) sz_VolumeInfo rfl (le_ rfl) ?_
  refine WL.op (asg (ot rfl)) (by decide) ?_
  refine WL.nl (.thn ?_)
  refine WP.seq ?_
  -- region 8 law.go:20
  refine WP.region ?_
  refine WL.op (lbs 2 rfl ag_family_Family (ot rfl) (le_ rfl)) (by decide) ?_
  refine WL.op (call aw_delete (.c (ot rfl) (.c (oc _) .n))) (by decide) ?_
  refine WL.op (mv (ot rfl)) (by decide) ?_
  refine WL.op (ex (ot rfl) rfl) (by decide) ?_
  refine WL.op (ex (ot rfl) rfl) (by decide) ?_
  refine WL.op (ex (ot rfl) rfl) (by decide) ?_
  refine WL.alloc zr_family_Family rfl (by decide) fun b14 => ?_
  refine WL.store 0 rfl (ot rfl) (ot rfl) (.agg _) sz_family_Family rfl (le_ rfl) ?_
  refine WL.op (asg (ot rfl)) (by decide) ?_
  refine WL.op (asg (ot rfl)) (by decide) ?_
  refine WL.nl (.thn ?_)
  refine WP.seq ?_
  -- region 9 law.go:21
  refine WP.region ?_
  refine WL.op (mv (ot rfl)) (by decide) ?_
  refine WL.op (eql (ot rfl) (oc _)) (by decide) ?_
  refine WL.op (mv (ot rfl)) (by decide) ?_
  refine WL.gT rfl rfl ?_ -- g2
  refine WL.op (mv (ot rfl)) (by decide) ?_
  refine WL.gT rfl rfl ?_ -- g2
  refine WL.op (eql (ot rfl) (oc _)) (by decide) ?_
  refine WL.op (pickT (ot rfl) (ot rfl)) (by decide) ?_
  refine WL.op (mv (ot rfl)) (by decide) ?_
  refine WL.gT rfl rfl ?_ -- g6
  refine WL.op (mv (ot rfl)) (by decide) ?_
  refine WL.gT rfl rfl ?_ -- g6
  refine WL.op (eql (ot rfl) (oc _)) (by decide) ?_
  refine WL.op (pickT (ot rfl) (ot rfl)) (by decide) ?_
  refine WL.op (mv (ot rfl)) (by decide) ?_
  refine WL.gT rfl rfl ?_ -- g10
  refine WL.op (mv (ot rfl)) (by decide) ?_
  refine WL.gT rfl rfl ?_ -- g10
  refine WL.op (eql (ot rfl) (oc _)) (by decide) ?_
  refine WL.op (pickT (ot rfl) (ot rfl)) (by decide) ?_
  refine WL.op (mv (ot rfl)) (by decide) ?_
  refine WL.gT rfl rfl ?_ -- g14
  refine WL.op (mv (ot rfl)) (by decide) ?_
  refine WL.gT rfl rfl ?_ -- g14
  refine WL.op (eql (ot rfl) (oc _)) (by decide) ?_
  refine WL.op (pickT (ot rfl) (ot rfl)) (by decide) ?_
  refine WL.op (mv (ot rfl)) (by decide) ?_
  refine WL.gT rfl rfl ?_ -- g18
  refine WL.op (mv (ot rfl)) (by decide) ?_
  refine WL.gT rfl rfl ?_ -- g18
  refine WL.op (eql (ot rfl) (oc _)) (by decide) ?_
  refine WL.op (pickT (ot rfl) (ot rfl)) (by decide) ?_
  refine WL.op (mv (ot rfl)) (by decide) ?_
  refine WL.gT rfl rfl ?_ -- g22
  refine WL.op (mv (ot rfl)) (by decide) ?_
  refine WL.gT rfl rfl ?_ -- g22
  refine WL.op (eql (ot rfl) (oc _)) (by decide) ?_
  refine WL.op (pickT (ot rfl) (ot rfl)) (by decide) ?_
  refine WL.op (mv (ot rfl)) (by decide) ?_
  refine WL.gT rfl rfl ?_ -- g26
  refine WL.op (mv (ot rfl)) (by decide) ?_
  refine WL.gT rfl rfl ?_ -- g26
  refine WL.op (eql (ot rfl) (oc _)) (by decide) ?_
  refine WL.op (pickT (ot rfl) (ot rfl)) (by decide) ?_
  refine WL.op (mv (ot rfl)) (by decide) ?_
  refine WL.gT rfl rfl ?_ -- g30
  refine WL.op (lbs 4 rfl ag_family_Family (ot rfl) (le_ rfl)) (by decide) ?_
  refine WL.gT rfl rfl ?_ -- g30
  refine WL.op (call aw_count (.c (ot rfl) (.c (oc _) .n))) (by decide) ?_
  refine WL.gT rfl rfl ?_ -- g30
  refine WL.op (eql (ot rfl) (oc _)) (by decide) ?_
  refine WL.op (pickT (ot rfl) (ot rfl)) (by decide) ?_
  refine WL.op (mv (ot rfl)) (by decide) ?_
  refine WL.gT rfl rfl ?_ -- g35
  refine WL.op (mv (ot rfl)) (by decide) ?_
  refine WL.gT rfl rfl ?_ -- g35
  refine WL.op (len_ us_s_api_Extent (ot rfl)) (by decide) ?_
  refine WL.gT rfl rfl ?_ -- g35
  refine WL.op (eql (ot rfl) (oc _)) (by decide) ?_
  refine WL.op (pickT (ot rfl) (ot rfl)) (by decide) ?_
  refine WL.op (mv (ot rfl)) (by decide) ?_
  refine WL.gT rfl rfl ?_ -- g40
  refine WL.op (fv fo_VolumeInfo_4 (ot rfl)) (by decide) ?_
  refine WL.gT rfl rfl ?_ -- g40
  refine WL.op (lb 2 rfl sc_int (ot rfl) rfl) (by decide) ?_
  refine WL.gT rfl rfl ?_ -- g40
  refine WL.op (eql (ot rfl) (oc _)) (by decide) ?_
  refine WL.op (pickT (ot rfl) (ot rfl)) (by decide) ?_
  refine WL.op (mv (ot rfl)) (by decide) ?_
  refine WL.gT rfl rfl ?_ -- g45
  refine WL.op (fv fo_VolumeInfo_4 (ot rfl)) (by decide) ?_
  refine WL.gT rfl rfl ?_ -- g45
  refine WL.op (lb 1 rfl sc_int (ot rfl) rfl) (by decide) ?_
  refine WL.gT rfl rfl ?_ -- g45
  refine WL.op (eql (ot rfl) (oc _)) (by decide) ?_
  refine WL.op (pickT (ot rfl) (ot rfl)) (by decide) ?_
  refine WL.op (mv (ot rfl)) (by decide) ?_
  refine WL.gT rfl rfl ?_ -- g50
  refine WL.op (mv (ot rfl)) (by decide) ?_
  refine WL.gT rfl rfl ?_ -- g50
  refine WL.op (bld zr_Extent rfl ps_Extent (.c (oc _) (.leaf (.val rfl)) pl_Extent_1 rfl (le_ rfl) (.c (oc _) (.leaf (.val rfl)) pl_Extent_2 rfl (le_ rfl) .n))) (by decide) ?_
  refine WL.gT rfl rfl ?_ -- g50
  refine WL.op (bsl1 (f := FX) (el := (⟨0, 1, 5⟩ : X)) ei_s_api_Extent (ot rfl) (.agg _) rfl (by decide) (by decide)) (by decide) ?_
  refine WL.gT rfl rfl ?_ -- g50
  refine WL.op (call aw_same (.c (ot rfl) (.c (ot rfl) .n))) (by decide) ?_
  refine WL.op (pickT (ot rfl) (ot rfl)) (by decide) ?_
  refine WL.op (asg (ot rfl)) (by decide) ?_
  refine WL.nl (.thn ?_)
  exact WP.rt (.r1 rfl rfl (imp _))
end Go.Proofs.Ytjglgfnhgehpeaa

/- FamilyName: what it computes. -/
set_option linter.unusedVariables false
set_option linter.unusedSimpArgs false
set_option maxRecDepth 4000
namespace Go.Proofs.Ytjglgfnhgehpeaa
open Go.RowKit Go.Fw Go.Xt
def N0 : Fam := ⟨List.replicate 3 0, []⟩
theorem n_create (s : ByteArray) : (fCreate N0 s 3 1).2 = if nameE s = false then 1 else 0 := by
  unfold fCreate
  by_cases h : nameE s = false
  · rw [if_pos (.inl h), if_pos h]
  · rw [if_neg (by unfold badN; rintro (q | q | q | q | q); exact h q; all_goals omega), if_neg h, if_pos (show vac N0 s = 0 from rfl)]
theorem n_new : PureC Try.prog 34 [I 3] (tup [eF N0, I 0]) := c_family_New (k := 3) (by decide)

theorem c_w36_FamilyName {s : ByteArray} (hs : s.size ≤ 9223372036854775807) : PureC Try.prog 11 [val (.string s)] (val (.bool true)) := by
  refine PureC.of_wp Try.func11 (by kernel_rfl) rfl Try.ntmps11 (le_ rfl) (fun w0 M0 => ?_)
  refine WP.seq ?_
  -- region 0 law.go:225
  refine WP.region ?_
  refine WL.op (asg (oc _)) (by decide) ?_
  refine WL.nl (.thn ?_)
  refine WP.seq ?_
  refine WP.seq ?_
  -- region 1 law.go:226
  refine WP.region ?_
  refine WL.op (call c_w36_awake .n) (by decide) ?_
  refine WL.op (not_ (ot rfl)) (by decide) ?_
  refine WL.nl (.thn ?_)
  -- law.go:226
  refine WP.condF rfl ?_
  refine WP.sk (.thn ?_)
  refine WP.seq ?_
  -- region 3 law.go:229
  refine WP.region ?_
  refine WL.op (call n_new (.c (oc _) .n)) (by decide) ?_
  refine WL.op (mv (ot rfl)) (by decide) ?_
  refine WL.op (ex (ot rfl) rfl) (by decide) ?_
  refine WL.op (ex (ot rfl) rfl) (by decide) ?_
  refine WL.alloc zr_family_Family rfl (by decide) fun b3 => ?_
  refine WL.store 0 rfl (ot rfl) (ot rfl) (.agg _) sz_family_Family rfl (le_ rfl) ?_
  refine WL.op (asg (ot rfl)) (by decide) ?_
  refine WL.nl (.thn ?_)
  refine WP.seq ?_
  -- region 4 law.go:230
  refine WP.region ?_
  refine WL.op (lbs 0 rfl ag_family_Family (ot rfl) (le_ rfl)) (by decide) ?_
  refine WL.op (mv (ot rfl)) (by decide) ?_
  refine WL.op (call (c_family_Family_Create (f := N0) hs) (.c (ot rfl) (.c (ot rfl) (.c (oc _) (.c (oc _) .n))))) (by decide) ?_
  refine WL.op (mv (ot rfl)) (by decide) ?_
  refine WL.op (ex (ot rfl) rfl) (by decide) ?_
  refine WL.op (ex (ot rfl) rfl) (by decide) ?_
  refine WL.alloc zr_family_Family rfl (by decide) fun b5 => ?_
  refine WL.store 0 rfl (ot rfl) (ot rfl) (.agg _) sz_family_Family rfl (le_ rfl) ?_
  refine WL.op (asg (ot rfl)) (by decide) ?_
  refine WL.nl (.thn ?_)
  refine WP.seq ?_
  -- region 5 law.go:231
  refine WP.region ?_
  refine WL.op (asg (oc _)) (by decide) ?_
  refine WL.nl (.thn ?_)
  refine WP.seq ?_
  refine WP.seq ?_
  -- region 6 law.go:232
  refine WP.region ?_
  refine WL.op (mv (ot rfl)) (by decide) ?_
  refine WL.op (call (c_r36_Name hs) (.c (ot rfl) .n)) (by decide) ?_
  refine WL.op (not_ (ot rfl)) (by decide) ?_
  refine WL.nl (.thn ?_)
  -- law.go:232
  refine WP.cond rfl (fun hc => ?_) (fun hc => ?_)
  · skip
    have hn : nameE s = false := by simpa using hc
    -- region 7 law.go:233
    refine WP.region ?_
    refine WL.op (asg (oc _)) (by decide) ?_
    refine WL.nl (.thn ?_)
    refine WP.seq ?_
    -- region 8 law.go:235
    refine WP.region ?_
    refine WL.op (mv (ot rfl)) (by decide) ?_
    refine WL.op (call (c_family_Name hs) (.c (ot rfl) .n)) (by decide) ?_
    refine WL.op (mv (ot rfl)) (by decide) ?_
    refine WL.op (call (c_r36_Name hs) (.c (ot rfl) .n)) (by decide) ?_
    refine WL.op (OpG.weak (R' := val (.bool true)) (eqb un_bool (ot rfl) (ot rfl)) (imp_eq (congrArg (fun b => val (.bool b)) (by simp)))) (by decide) ?_
    refine WL.op (mv (ot rfl)) (by decide) ?_
    refine WL.gT rfl rfl ?_ -- g5
    refine WL.op (mv (ot rfl)) (by decide) ?_
    refine WL.gT rfl rfl ?_ -- g5
    refine WL.op (mv (ot rfl)) (by decide) ?_
    refine WL.gT rfl rfl ?_ -- g5
    refine WL.op (eql (ot rfl) (ot rfl)) (by decide) ?_
    refine WL.op (pickT (ot rfl) (ot rfl)) (by decide) ?_
    refine WL.op (asg (ot rfl)) (by decide) ?_
    refine WL.nl (.thn ?_)
    exact WP.rt (.r1 rfl rfl (imp_eq (congrArg (fun b => val (.bool b)) (by rw [n_create, if_pos hn]; rfl))))
  · skip
    have hn : ¬ nameE s = false := by simpa using hc
    refine WP.sk (.thn ?_)
    refine WP.seq ?_
    -- region 8 law.go:235
    refine WP.region ?_
    refine WL.op (mv (ot rfl)) (by decide) ?_
    refine WL.op (call (c_family_Name hs) (.c (ot rfl) .n)) (by decide) ?_
    refine WL.op (mv (ot rfl)) (by decide) ?_
    refine WL.op (call (c_r36_Name hs) (.c (ot rfl) .n)) (by decide) ?_
    refine WL.op (OpG.weak (R' := val (.bool true)) (eqb un_bool (ot rfl) (ot rfl)) (imp_eq (congrArg (fun b => val (.bool b)) (by simp)))) (by decide) ?_
    refine WL.op (mv (ot rfl)) (by decide) ?_
    refine WL.gT rfl rfl ?_ -- g5
    refine WL.op (mv (ot rfl)) (by decide) ?_
    refine WL.gT rfl rfl ?_ -- g5
    refine WL.op (mv (ot rfl)) (by decide) ?_
    refine WL.gT rfl rfl ?_ -- g5
    refine WL.op (eql (ot rfl) (ot rfl)) (by decide) ?_
    refine WL.op (pickT (ot rfl) (ot rfl)) (by decide) ?_
    refine WL.op (asg (ot rfl)) (by decide) ?_
    refine WL.nl (.thn ?_)
    exact WP.rt (.r1 rfl rfl (imp_eq (congrArg (fun b => val (.bool b)) (by rw [n_create, if_neg hn]; rfl))))
end Go.Proofs.Ytjglgfnhgehpeaa

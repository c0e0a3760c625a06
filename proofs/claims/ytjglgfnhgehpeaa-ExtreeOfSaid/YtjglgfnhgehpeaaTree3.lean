/- The list of a tree: a walk with a closure. -/
import Derived.Test.YtjglgfnhgehpeaaTree2
set_option linter.unusedVariables false
set_option linter.unusedSimpArgs false
set_option maxRecDepth 4000
namespace Go.Proofs.Ytjglgfnhgehpeaa
open Go.RowKit Go.Fw Go.Xt

def FX (x : X) : List Rp := [I x.a, I x.n, I x.s]
abbrev B2 (B : Nat) (y : Value × List X) : List Box := [.r y.1 31 3 y.2.length (y.2.flatMap FX), .b B 33 [val y.1]]
theorem TupAll.app {w : World} {M : Mask} : ∀ {rs : List Rp} {vs : List Value} {rs' : List Rp} {vs' : List Value}, TupAll w M rs vs → TupAll w M rs' vs' → TupAll w M (rs ++ rs') (vs ++ vs')
  | [], [], _, _, _, h => h
  | _ :: _, _ :: _, _, _, h, h' => ⟨h.1, TupAll.app h.2 h'⟩
theorem e_list_1 : Enters Try.prog 67 := enters_of Try.func67 rfl rfl
theorem e_walk : Enters Try.prog 54 := enters_of Try.func54 rfl rfl
abbrev fvl (B : Nat) : Value := .func (.func 67) #[] #[.pointer (some ⟨B, 0, none⟩)]

theorem l_list_1 {w0 : World} {M0 : Mask} {B : Nat} {v : Value} {pre : List X} {x : X} {w : World} {vs : List Value} (hm : Mem w0 M0 (B2 B (v, pre)) w) (hvs : TupAll w (mkM M0 (B2 B (v, pre))) [ext x, val (.pointer (some ⟨B, 0, none⟩))] vs) (hl : pre.length < 100000) :
    Calls Try.prog 67 vs.toArray w (Lent w0 M0 (B2 B (v, pre)) (B2 B) (fun y => y.2 = pre ++ [x]) (fun _ => val (.bool true)) w) := by
  refine calls_lent Try.func67 rfl Try.ntmps67 (le_ rfl) hm hvs ?_
  refine WP.seq ?_
  -- region 0 extree.go:136
  refine WP.region ?_
  refine WL.box (ot rfl) (.agg _) (by decide) fun b2 => ?_
  refine WL.op (asg (oc _)) (by decide) ?_
  refine WL.nl (.thn ?_)
  refine WP.seq ?_
  -- region 1 extree.go:137
  refine WP.region ?_
  refine WL.op (lb 2 rfl sc_s_api_Extent (ot rfl) rfl) (by decide) ?_
  refine WL.op (lbs 0 rfl ag_Extent (ot rfl) (le_ rfl)) (by decide) ?_
  refine WL.op (bsl1 (f := FX) (el := x) ei_s_api_Extent (ot rfl) (.agg _) rfl (by decide) (by decide)) (by decide) ?_
  refine WL.app 1 rfl ei_s_api_Extent (by decide) (ot rfl) (ot rfl) (by simp) (fun _ => rfl) (by simp; omega) (by simp; omega) (by decide) fun v7 h7 => ?_
  refine WL.store 2 rfl (ot rfl) (ot rfl) (.leaf (.val h7)) sz_s_api_Extent rfl (le_ rfl) ?_
  refine WL.nl (.thn ?_)
  refine WP.seq ?_
  -- region 2 extree.go:138
  refine WP.region ?_
  refine WL.op (asg (oc _)) (by decide) ?_
  refine WL.nl (.thn ?_)
  exact WP.rt (Lead.lent (i := 3) rfl rfl rfl 1 (v7, pre ++ [x]) rfl (by simp [B2, setAt]) (imp _))
theorem l_walk_nil {w0 : World} {M0 : Mask} {B : Nat} {v : Value} {pre : List X} {w : World} {vs : List Value} (hm : Mem w0 M0 (B2 B (v, pre)) w) (hvs : TupAll w (mkM M0 (B2 B (v, pre))) [tree Tr.nil, val (fvl B)] vs) :
    Calls Try.prog 54 vs.toArray w (Lent w0 M0 (B2 B (v, pre)) (B2 B) (fun y => y.2 = pre ++ (Tr.nil).list) (fun _ => val (.bool true)) w) := by
  refine calls_lent Try.func54 rfl Try.ntmps54 (le_ rfl) hm hvs ?_
  refine WP.seq ?_
  -- region 0 extree.go:129
  refine WP.region ?_
  refine WL.op (asg (oc _)) (by decide) ?_
  refine WL.nl (.thn ?_)
  refine WP.seq ?_
  -- region 1 extree.go:130
  refine WP.region ?_
  refine WL.op (mv (ot rfl)) (by decide) ?_
  refine WL.op (isnil pt_p_extree_node (ot rfl) ) (by decide) ?_
  refine WL.op (mv (ot rfl)) (by decide) ?_
  refine WL.gF rfl rfl (by decide) (le_ rfl) ?_
  refine WL.gF rfl rfl (by decide) (le_ rfl) ?_
  refine WL.gF rfl rfl (by decide) (le_ rfl) ?_
  refine WL.gF rfl rfl (by decide) (le_ rfl) ?_
  refine WL.gF rfl rfl (by decide) (le_ rfl) ?_
  refine WL.gF rfl rfl (by decide) (le_ rfl) ?_
  refine WL.gF rfl rfl (by decide) (le_ rfl) ?_
  refine WL.gU rfl rfl (le_ rfl) ?_
  refine WL.gU rfl rfl (le_ rfl) ?_
  refine WL.gU rfl rfl (le_ rfl) ?_
  refine WL.gU rfl rfl (le_ rfl) ?_
  refine WL.gU rfl rfl (le_ rfl) ?_
  refine WL.gU rfl rfl (le_ rfl) ?_
  refine WL.gF rfl rfl (by decide) (le_ rfl) ?_
  refine WL.gF rfl rfl (by decide) (le_ rfl) ?_
  refine WL.gU rfl rfl (le_ rfl) ?_
  refine WL.gU rfl rfl (le_ rfl) ?_
  refine WL.gU rfl rfl (le_ rfl) ?_
  refine WL.gU rfl rfl (le_ rfl) ?_
  refine WL.gU rfl rfl (le_ rfl) ?_
  refine WL.gU rfl rfl (le_ rfl) ?_
  refine WL.gF rfl rfl (by decide) (le_ rfl) ?_
  refine WL.op (pickT (ot rfl) (oc _)) (by decide) ?_
  refine WL.op (asg (ot rfl)) (by decide) ?_
  refine WL.nl (.thn ?_)
  exact WP.rt (Lead.lent (i := 4) rfl rfl rfl 0 (v, pre) (by simp [Tr.list]) rfl (imp _))
theorem l_walk (t : Tr) {w0 : World} {M0 : Mask} {B : Nat} {v : Value} {pre : List X} {w : World} {vs : List Value} (hm : Mem w0 M0 (B2 B (v, pre)) w) (hvs : TupAll w (mkM M0 (B2 B (v, pre))) [tree t, val (fvl B)] vs) (hl : pre.length + t.list.length ≤ 99999) :
    Calls Try.prog 54 vs.toArray w (Lent w0 M0 (B2 B (v, pre)) (B2 B) (fun y => y.2 = pre ++ (t).list) (fun _ => val (.bool true)) w) := by
  induction t generalizing v pre w vs with
  | nil => exact l_walk_nil hm hvs
  | node l x r ihl ihr =>
  have hl' : pre.length + l.list.length + 1 + r.list.length ≤ 99999 := by simpa [Tr.list, Nat.add_assoc, Nat.add_comm, Nat.add_left_comm] using hl
  refine calls_lent Try.func54 rfl Try.ntmps54 (le_ rfl) hm hvs ?_
  refine WP.seq ?_
  -- region 0 extree.go:129
  refine WP.region ?_
  refine WL.op (asg (oc _)) (by decide) ?_
  refine WL.nl (.thn ?_)
  refine WP.seq ?_
  -- region 1 extree.go:130
  refine WP.region ?_
  refine WL.op (mv (ot rfl)) (by decide) ?_
  refine WL.op (notnil pt_p_extree_node (ot rfl) ) (by decide) ?_
  refine WL.op (mv (ot rfl)) (by decide) ?_
  refine WL.gT rfl rfl ?_ -- g2
  refine WL.op (mv (ot rfl)) (by decide) ?_
  refine WL.gT rfl rfl ?_ -- g2
  refine WL.op (nc (ot rfl)) (by decide) ?_
  refine WL.gT rfl rfl ?_ -- g2
  refine WL.op (fa fo_node_1 (ot rfl)) (by decide) ?_
  refine WL.gT rfl rfl ?_ -- g2
  refine WL.op (ld sc_p_extree_node (ot rfl)) (by decide) ?_
  refine WL.gT rfl rfl ?_ -- g2
  refine WL.op (mv (ot rfl)) (by decide) ?_
  refine WL.gT rfl rfl ?_ -- g2
  refine WL.lent (bx := B2 B) (bs := B2 B (v, pre)) (I := fun y => y.2 = pre ++ l.list) (R := fun _ => val (.bool true)) (fun a w hok => ⟨_, _, run_callF (xs := [_, _]) (Rs := []) e_walk a w, ihl (w := w) hok.mem ((OFs.c (ot rfl) (.c (ot rfl) .n)).ok hok) (by omega)⟩) (by decide) ?_
  rintro ⟨v1, pre1⟩ h1
  have h1 : pre1 = pre ++ l.list := h1
  subst h1
  refine WL.gT rfl rfl ?_ -- g2
  refine WL.op (mv (ot rfl)) (by decide) ?_
  refine WL.gT rfl rfl ?_ -- g9
  refine WL.op (mv (ot rfl)) (by decide) ?_
  refine WL.gT rfl rfl ?_ -- g9
  refine WL.op (mv (ot rfl)) (by decide) ?_
  refine WL.gT rfl rfl ?_ -- g9
  refine WL.op (nc (ot rfl)) (by decide) ?_
  refine WL.gT rfl rfl ?_ -- g9
  refine WL.op (fa fo_node_0 (ot rfl)) (by decide) ?_
  refine WL.gT rfl rfl ?_ -- g9
  refine WL.op (ls ag_Extent (ot rfl) (le_ rfl)) (by decide) ?_
  refine WL.gT rfl rfl ?_ -- g9
  refine WL.lent (bx := B2 B) (bs := B2 B (v1, pre ++ l.list)) (I := fun y => y.2 = (pre ++ l.list) ++ [x]) (R := fun _ => val (.bool true)) (fun a w hok => ?_) (by decide) ?_
  · have h1 : a.tmps.getD 15 undef = fvl B := hok.facts 15 _ rfl
    have h2 : (ext x).h (a.tmps.getD 19 undef) w _ := hok.facts 19 _ rfl
    have h3 := l_list_1 (w := w) (x := x) (v := v1) (pre := pre ++ l.list) (B := B) (vs := [a.eval (.tmp 19), .pointer (some ⟨B, 0, none⟩)]) hok.mem ⟨h2, rfl, trivial⟩ (by simp; omega)
    have e : (([Operand.tmp 19].map a.eval).toArray ++ #[Value.pointer (some ⟨B, 0, none⟩)]) = [a.eval (.tmp 19), .pointer (some ⟨B, 0, none⟩)].toArray := by simp
    exact ⟨_, _, run_callV (xs := [_]) e_list_1 a w h1, by rw [e]; exact h3⟩
  rintro ⟨v2, pre2⟩ h2
  have h2 : pre2 = (pre ++ l.list) ++ [x] := h2
  subst h2
  refine WL.gT rfl rfl ?_ -- g2
  refine WL.op (pickT (ot rfl) (ot rfl)) (by decide) ?_
  refine WL.gT rfl rfl ?_ -- g2
  refine WL.op (mv (ot rfl)) (by decide) ?_
  refine WL.gT rfl rfl ?_ -- g17
  refine WL.op (mv (ot rfl)) (by decide) ?_
  refine WL.gT rfl rfl ?_ -- g17
  refine WL.op (nc (ot rfl)) (by decide) ?_
  refine WL.gT rfl rfl ?_ -- g17
  refine WL.op (fa fo_node_2 (ot rfl)) (by decide) ?_
  refine WL.gT rfl rfl ?_ -- g17
  refine WL.op (ld sc_p_extree_node (ot rfl)) (by decide) ?_
  refine WL.gT rfl rfl ?_ -- g17
  refine WL.op (mv (ot rfl)) (by decide) ?_
  refine WL.gT rfl rfl ?_ -- g17
  refine WL.lent (bx := B2 B) (bs := B2 B (v2, (pre ++ l.list) ++ [x])) (I := fun y => y.2 = ((pre ++ l.list) ++ [x]) ++ r.list) (R := fun _ => val (.bool true)) (fun a w hok => ⟨_, _, run_callF (xs := [_, _]) (Rs := []) e_walk a w, ihr (w := w) hok.mem ((OFs.c (ot rfl) (.c (ot rfl) .n)).ok hok) (by simp; omega)⟩) (by decide) ?_
  rintro ⟨v3, pre3⟩ h3
  have h3 : pre3 = ((pre ++ l.list) ++ [x]) ++ r.list := h3
  subst h3
  refine WL.gT rfl rfl ?_ -- g2
  refine WL.op (pickT (ot rfl) (ot rfl)) (by decide) ?_
  refine WL.op (pickF (ot rfl) (ot rfl)) (by decide) ?_
  refine WL.op (asg (ot rfl)) (by decide) ?_
  refine WL.nl (.thn ?_)
  exact WP.rt (Lead.lent (i := 4) rfl rfl rfl 0 (v3, ((pre ++ l.list) ++ [x]) ++ r.list) (by simp [Tr.list]) rfl (imp _))
theorem c_n_list (t : Tr) (hl : t.list.length ≤ 99999) : PureC Try.prog 42 [tree t] (sl 3 FX t.list) := by
  refine PureC.of_wp Try.func42 (by kernel_rfl) rfl Try.ntmps42 (le_ rfl) (fun w0 M0 => ?_)
  refine WP.seq ?_
  -- region 0 extree.go:134
  refine WP.region ?_
  refine WL.op (asg (oc _)) (by decide) ?_
  refine WL.nl (.thn ?_)
  refine WP.seq ?_
  -- region 1 extree.go:135
  refine WP.region ?_
  refine WL.alloc zr_s_api_Extent rfl (by decide) fun b3 => ?_
  refine WL.nl (.thn ?_)
  refine WP.seq ?_
  -- region 2 extree.go:136
  refine WP.region ?_
  refine WL.nilrow 31 3 ?_
  refine WL.op (mv (ot rfl)) (by decide) ?_
  refine WL.op (mfn rfl) (by decide) ?_
  refine WL.lent (bx := B2 b3) (bs := B2 b3 (nilS, [])) (I := fun y => y.2 = [] ++ t.list) (R := fun _ => val (.bool true)) (fun a w hok => ⟨_, _, run_callF (xs := [_, _]) (Rs := []) e_walk a w, l_walk t (w := w) hok.mem ((OFs.c (ot rfl) (.c (ot rfl) .n)).ok hok) (by simpa using hl)⟩) (by decide) ?_
  rintro ⟨v1, pre1⟩ h1
  have h1 : pre1 = [] ++ t.list := h1
  subst h1
  refine WL.nl (.thn ?_)
  refine WP.seq ?_
  -- region 3 extree.go:140
  refine WP.region ?_
  refine WL.op (lb 1 rfl sc_s_api_Extent (ot rfl) rfl) (by decide) ?_
  refine WL.op (asg (ot rfl)) (by decide) ?_
  refine WL.freeze 0 2 FX t.list rfl (fun _ => rfl) (by simp) (by simp) rfl ?_
  refine WL.nl (.thn ?_)
  exact WP.rt (.r1 rfl rfl (imp _))
end Go.Proofs.Ytjglgfnhgehpeaa
